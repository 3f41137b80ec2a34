/- Walk: the reference's Receive. -/
import Derived.Test.YtfobgjhjigkigaaFrm
namespace Go.Eng
open Go.RowKit
theorem VL_nilCheck_s {P : Program} {m : Mode} {n B d : Nat} {w0 : World} {ops : Array Oper} {Q : Exit → Act → World → Prop} {rest : List Oper} {env : Env} {H : List HP} {ty : TypeId} {pos : String} {after : Array Edge} {x : Operand} {a : Addr} {j : Nat} (hx : evo env x = some (sptr (some a) j)) (hn : Nat.ble (d + 1) n = true) (h : VL P m n B w0 ops Q rest ((d, sptr (some a) j) :: env) H) :
    VL P m n B w0 ops Q (⟨some d, .nilCheck x, ty, pos, after, none⟩ :: rest) env H := VL_nilCheck hx hn h
theorem set_split {α : Type} {l : List α} {k : Nat} {x : α} (h : l[k]? = some x) : ∃ l1 l2, l = l1 ++ x :: l2 ∧ l1.length = k := by
  obtain ⟨hk, rfl⟩ := List.getElem?_eq_some_iff.1 h
  exact ⟨l.take k, l.drop (k + 1), by rw [← List.drop_eq_getElem_cons hk, List.take_append_drop], by simp; omega⟩
theorem Perm.pullIdx {α : Type} (f : α → HP) {l : List α} {k : Nat} {x : α} (h : l[k]? = some x) (M : List HP) : Perm (many (l.map f) :: M) (f x :: many ((l.eraseIdx k).map f) :: M) := by
  obtain ⟨l1, l2, rfl, rfl⟩ := set_split h
  rw [List.eraseIdx_append_of_length_le (Nat.le_refl _), Nat.sub_self, List.eraseIdx_cons_zero, List.map_append, List.map_append, List.map_cons]
  exact .pull _ _ _ _
theorem Perm.pushIdx {α : Type} (f : α → HP) {l : List α} {k : Nat} {x : α} (h : l[k]? = some x) (y : α) (M : List HP) : Perm (f y :: many ((l.eraseIdx k).map f) :: M) (many ((l.set k y).map f) :: M) := by
  obtain ⟨l1, l2, rfl, rfl⟩ := set_split h
  rw [List.eraseIdx_append_of_length_le (Nat.le_refl _), Nat.sub_self, List.eraseIdx_cons_zero, List.set_append_right _ _ (Nat.le_refl _), Nat.sub_self, List.set_cons_zero, List.map_append, List.map_append, List.map_cons]
  exact .push _ _ _ _
end Go.Eng
namespace Go.Proofs.Ytfobgjhjigkigaa
open Go.RowKit Go.Eng Go.Nw

structure OkX (x : Rx) : Prop where
  d : OkD x.d
  bm : x.d.bm < 2 ^ x.d.cnt.toNat

theorem rlen_spec (tag idx cnt size pt : Int) (s : ByteArray) (hs : s.size ≤ 5000) (hp : Fm.part tag idx cnt size s.size = pt) {B : Nat} {w0 : World} {H : List HP} {w : World} (hw : St B w0 H w) :
    Calls Try.prog 43 [.agg #[.int .i64 tag, .int .i64 idx, .int .i64 cnt, .int .i64 size, .string s]].toArray w (Post B w0 fun v K => v = .int .i64 pt ∧ K = H) := by
  rw [← hp, Fm.part_length _ _ _ _ _ (by omega)]
  exact length_spec tag idx cnt size s (by omega) hw

theorem xreceive_bad (rx : Nat) (hold time : Int) (A : Option Addr) (cap : Nat) (xs : List Rx) (slot tag idx cnt size : Int) (s : ByteArray) (hs : s.size ≤ 5000) (hp : Fm.part tag idx cnt size s.size = 0) {B : Nat} {w0 : World} {H : List HP} {w : World} (hw : St B w0 (xpcs rx hold time A cap xs H) w) :
    Calls Try.prog 30 [.pointer (some ⟨rx, 0, none⟩), .int .i64 slot, .agg #[.int .i64 tag, .int .i64 idx, .int .i64 cnt, .int .i64 size, .string s]].toArray w (Post B w0 fun v K => v = .tuple #[.string ⟨#[]⟩, .bool false, .int .i64 1] ∧ K = xpcs rx hold time A cap xs H) := by
  refine Calls_of_VC Try.func30 Try.ntmps30 rfl rfl hw ?_
  repeat' (first | ((first | apply VL_callt en43 | apply VL_callq en43); (repeat (first | exact args_nil | (apply args_cons; exact rfl))); exact rfl; exact fun _ hw => (rlen_spec _ _ _ _ _ _ hs hp hw)) | apply (zs1 ?_) | apply (zs2 ?_) | (apply zg3; refine zs8 ?_) | (apply zg7; (refine zs15 ?_ ?_ <;> intro _ <;> try (exfalso; omega))) | (apply zg23; (refine zs52 ?_; intro _)) | apply (zs65 ?_) | apply (zs68 ?_) | apply (zs69 ?_) | apply (zs70 ?_) | (apply zg27; refine zs71 ?_) | apply (zs74 ?_) | apply (zs77 ?_))
  apply VQ_tail; apply VQ_ret3; exact rfl; exact rfl; exact rfl; exact rfl
  exact ⟨rfl, rfl⟩

theorem xreceive_order (rx : Nat) (hold time : Int) (A : Option Addr) (cap : Nat) (xs : List Rx) (slot tag idx cnt size pt : Int) (s : ByteArray) (hs : s.size ≤ 5000) (hp : Fm.part tag idx cnt size s.size = pt) (hp0 : pt ≠ 0) (ho : slot < time ∨ 109951162 < slot) {B : Nat} {w0 : World} {H : List HP} {w : World} (hw : St B w0 (xpcs rx hold time A cap xs H) w) :
    Calls Try.prog 30 [.pointer (some ⟨rx, 0, none⟩), .int .i64 slot, .agg #[.int .i64 tag, .int .i64 idx, .int .i64 cnt, .int .i64 size, .string s]].toArray w (Post B w0 fun v K => v = .tuple #[.string ⟨#[]⟩, .bool false, .int .i64 5] ∧ K = xpcs rx hold time A cap xs H) := by
  refine Calls_of_VC Try.func30 Try.ntmps30 rfl rfl hw ?_
  unfold xpcs
  repeat' (first | ((first | apply VL_callt en43 | apply VL_callq en43); (repeat (first | exact args_nil | (apply args_cons; exact rfl))); exact rfl; exact fun _ hw => (rlen_spec _ _ _ _ _ _ hs hp hw)) | apply (zs1 ?_) | apply (zs2 ?_) | (apply zg1; first | refine zs3 ?_ | refine zs4 ?_) | apply (zs5 ?_) | (apply zg2; refine zs6 ?_) | (apply zg3; first | refine zs7 ?_ | refine zs8 ?_) | (apply zg6; first | refine zs11 ?_ | refine zs12 ?_) | (apply zg7; (refine zs15 ?_ ?_ <;> intro _ <;> try (exfalso; omega))) | (apply (zs17 ?_ ?_) <;> intro _ <;> try (exfalso; omega)) | (apply (zs19 ?_ ?_) <;> intro _ <;> try (exfalso; omega)) | (apply zg23; (refine zs52 ?_; intro _)) | apply (zs65 ?_) | apply (zs68 ?_) | apply (zs69 ?_) | apply (zs70 ?_) | (apply zg27; first | refine zs71 ?_ | refine zs72 ?_) | apply (zs74 ?_) | apply (zs76 ?_) | apply (zs77 ?_))
  all_goals (apply VQ_tail; apply VQ_ret3; exact rfl; exact rfl; exact rfl; exact rfl; exact ⟨rfl, rfl⟩)

/-- Behind the search: where the datagram of a fragment lies. -/
def XGot (xs : List Rx) (g clock : Nat) (tag cnt size pt : Int) (ys : List Rx) (k : Nat) (x : Rx) : Prop :=
  (idxFrom (fun x : Rx => x.d.tag == tag) xs 0 = k ∧ ys = xs) ∨ (idxFrom (fun x : Rx => x.d.tag == tag) xs 0 = -1 ∧ xs.length < 8 ∧ ys = xs ++ [x] ∧ k = xs.length ∧ x.d = newDg g clock tag cnt size pt)
structure Mid (xs : List Rx) (g clock : Nat) (tag cnt size pt : Int) where
  ys : List Rx
  A : Option Addr
  cap : Nat
  k : Nat
  x : Rx
  hx : ys[k]? = some x
  got : XGot xs g clock tag cnt size pt ys k x
  ok : OkX x
  len : ys.length ≤ 1000
def mpcs (x : Rx) (M : List HP) : List HP := sl 9 1 x.pA (pL x).length x.pcap ((pL x).flatMap strF) :: sl 4 1 x.hA (hL x).length x.hcap ((hL x).flatMap boolF) :: M
theorem mid_in {ys : List Rx} {k : Nat} {x : Rx} (hx : ys[k]? = some x) {B : Nat} {w0 w : World} {M : List HP} (hw : St B w0 (many (ys.map xrows) :: M) w) : St B w0 (mpcs x (many ((ys.eraseIdx k).map xrows) :: M)) w :=
  (hw.perm (.pullIdx xrows hx M)).perm (.open_ _ _)
theorem mid_out {ys : List Rx} {k : Nat} {x : Rx} (hx : ys[k]? = some x) (y : Rx) {B : Nat} {w0 w : World} {M : List HP} (hw : St B w0 (mpcs y (many ((ys.eraseIdx k).map xrows) :: M)) w) : St B w0 (many ((ys.set k y).map xrows) :: M) w :=
  (hw.perm (.close [_, _] _)).perm (.pushIdx xrows hx y M)

theorem okx_new {x : Rx} {g clock : Nat} {tag cnt size pt : Int} (h : x.d = newDg g clock tag cnt size pt) (hc : 1 ≤ cnt ∧ cnt ≤ 32) : OkX x := by
  refine ⟨?_, ?_⟩
  · rw [h]
    exact ⟨by simp [newDg], hc, by simp [newDg], fun x hx => by rw [(List.mem_replicate.1 hx).2]; decide⟩
  · rw [h]
    exact Nat.two_pow_pos _

def xnew (gS gB gg clock : Nat) (tag cnt size pt : Int) : Rx := ⟨newDg gg clock tag cnt size pt, some ⟨gS, 0, none⟩, cnt.toNat, some ⟨gB, 0, none⟩, cnt.toNat⟩
theorem xnew_p (gS gB gg clock : Nat) (tag cnt size pt : Int) (hc : 1 ≤ cnt ∧ cnt ≤ 32) : pL (xnew gS gB gg clock tag cnt size pt) = List.replicate cnt.toNat ⟨#[]⟩ := by
  show (List.replicate 32 _).take cnt.toNat = _
  rw [List.take_replicate, Nat.min_eq_left (by omega)]
theorem xnew_h (gS gB gg clock : Nat) (tag cnt size pt : Int) : hL (xnew gS gB gg clock tag cnt size pt) = List.replicate cnt.toNat false := by
  show bitsL 0 cnt.toNat = _
  apply List.ext_getElem?
  intro k
  by_cases hk : k < cnt.toNat
  · rw [bitsL_get hk, List.getElem?_replicate, if_pos hk]; simp
  · rw [List.getElem?_eq_none (by rw [bitsL_len]; omega), List.getElem?_eq_none (by rw [List.length_replicate]; omega)]
theorem flat_rep {α : Type} (f : α → List Value) (v : Value) (a : α) (h : f a = [v]) : ∀ n, (List.replicate n a).flatMap f = List.replicate n v
  | 0 => rfl
  | n + 1 => by rw [List.replicate_succ, List.flatMap_cons, h, flat_rep f v a h n, List.replicate_succ]; rfl
theorem xnew_mid (xs : List Rx) (gS gB gg clock : Nat) (tag cnt size pt : Int) (hc : 1 ≤ cnt ∧ cnt ≤ 32) (b : HP) (A : Option Addr) (cap : Nat) (M : List HP) :
    mpcs (xnew gS gB gg clock tag cnt size pt) (many (((xs ++ [xnew gS gB gg clock tag cnt size pt]).eraseIdx xs.length).map xrows) :: b :: sl 105 7 A (xs ++ [xnew gS gB gg clock tag cnt size pt]).length cap ((xs ++ [xnew gS gB gg clock tag cnt size pt]).flatMap rdF) :: M) =
      sl 9 1 (some ⟨gS, 0, none⟩) cnt.toNat cnt.toNat (List.replicate cnt.toNat (.string ⟨#[]⟩)) :: sl 4 1 (some ⟨gB, 0, none⟩) cnt.toNat cnt.toNat (List.replicate cnt.toNat (.bool false)) :: many (xs.map xrows) :: b ::
        sl 105 7 A (xs.length + 1) cap (xs.flatMap rdF ++ [.int .i64 tag, .int .i64 cnt, .int .i64 size, .int .i64 pt, .int .i64 0, .slice (some ⟨gS, 0, none⟩) cnt.toNat cnt.toNat, .slice (some ⟨gB, 0, none⟩) cnt.toNat cnt.toNat]) :: M := by
  have e1 : rdF (xnew gS gB gg clock tag cnt size pt) = [.int .i64 tag, .int .i64 cnt, .int .i64 size, .int .i64 pt, .int .i64 0, .slice (some ⟨gS, 0, none⟩) cnt.toNat cnt.toNat, .slice (some ⟨gB, 0, none⟩) cnt.toNat cnt.toNat] := by
    unfold rdF
    rw [xnew_p _ _ _ _ _ _ _ _ hc, xnew_h, List.length_replicate, List.length_replicate]
    rfl
  unfold mpcs
  rw [xnew_p _ _ _ _ _ _ _ _ hc, xnew_h, List.length_replicate, List.length_replicate, flat_rep strF _ _ rfl, flat_rep boolF _ _ rfl, List.eraseIdx_append_of_length_le (Nat.le_refl _), Nat.sub_self, List.flatMap_append, List.length_append]
  rw [← e1]
  simp [xnew]
set_option maxRecDepth 10000 in
set_option maxHeartbeats 2000000 in
theorem xreceive_on (rx : Nat) (hold time : Int) (A : Option Addr) (cap : Nat) (xs : List Rx) (hl : xs.length ≤ 900) (hh : 0 ≤ hold ∧ hold ≤ 4096) (slot tag idx cnt size pt : Int) (s : ByteArray) (hs : s.size ≤ 5000) (hp : Fm.part tag idx cnt size s.size = pt) (hp0 : pt ≠ 0) (ht : 0 ≤ time) (ho : time ≤ slot ∧ slot ≤ 109951162)
    (xs' : List Rx) (hxs : xs.filter (keepX hold slot) = xs') (hok : ∀ x ∈ xs', OkX x) (gg clock : Nat) {B : Nat} {w0 : World} {H : List HP} {w : World} (hw : St B w0 (xpcs rx hold time A cap xs H) w) :
    Calls Try.prog 30 [.pointer (some ⟨rx, 0, none⟩), .int .i64 slot, .agg #[.int .i64 tag, .int .i64 idx, .int .i64 cnt, .int .i64 size, .string s]].toArray w (Post B w0 fun v K =>
      (idxFrom (fun x : Rx => x.d.tag == tag) xs' 0 = -1 ∧ 8 ≤ xs'.length ∧ v = .tuple #[.string ⟨#[]⟩, .bool false, .int .i64 13] ∧ ∃ A' cap', K = xpcs rx hold slot A' cap' xs' H) ∨
      (∃ A' cap' ys k x, XGot xs' gg clock tag cnt size pt ys k x ∧ ys[k]? = some x ∧
        ((¬ fits x.d tag idx cnt size s ∧ v = .tuple #[.string ⟨#[]⟩, .bool false, .int .i64 11] ∧ K = xpcs rx hold slot A' cap' ys H) ∨
         (fits x.d tag idx cnt size s ∧ v = outV x.d (upd x.d slot idx s) ∧ K = xpcs rx hold slot A' cap' (ys.set k { x with d := upd x.d slot idx s }) H)))) := by
  refine Calls_of_VC Try.func30 Try.ntmps30 rfl rfl hw ?_
  obtain ⟨⟨a1, a2⟩, ⟨a3, a4⟩, ⟨a5, a6⟩, ⟨a7, a8⟩, _⟩ := Fm.part_ok (hp ▸ hp0)
  have hfl : xs'.length ≤ 900 := by rw [← hxs]; exact Nat.le_trans (List.length_filter_le _ _) hl
  unfold xpcs
  (apply VC_seq; apply VC_region; apply VL_box_agg; exact rfl; exact rfl; intro g)
  repeat' (first | ((first | apply VL_callt en43 | apply VL_callq en43); (repeat (first | exact args_nil | (apply args_cons; exact rfl))); exact rfl; exact fun _ hw => (rlen_spec _ _ _ _ _ _ hs hp hw)) | apply (zs1 ?_) | apply (zs2 ?_) | (apply zg1; refine zs4 ?_) | apply (zs5 ?_) | (apply zg2; refine zs6 ?_) | (apply zg3; first | refine zs7 ?_ | refine zs8 ?_) | (apply zg6; refine zs12 ?_) | (apply zg7; (refine zs15 ?_ ?_ <;> intro _ <;> try (exfalso; omega))) | (apply (zs17 ?_ ?_) <;> intro _ <;> try (exfalso; omega)) | (apply (zs19 ?_ ?_) <;> intro _ <;> try (exfalso; omega)) | (apply zg22; refine zs50 ?_) | apply (zs65 ?_) | apply (zs68 ?_) | apply (zs69 ?_) | apply (zs70 ?_) | (apply zg27; refine zs72 ?_) | apply (zs76 ?_))
  apply VL_st (xpcs rx hold slot A cap xs (blk g (.cells #[.int .i64 tag, .int .i64 idx, .int .i64 cnt, .int .i64 size, .string s] 23 (0, 0)) :: H))
  · unfold xpcs
    (intro w hw; refine hw.perm ?_; focus repeat (first | with_reducible exact Perm.refl _ | (with_reducible apply perm_take; focus ((repeat (first | with_reducible exact rem_here | with_reducible apply rem_there)); done)) | with_reducible apply Perm.dropK))
  apply VL_call _ en58
  (repeat (first | exact args_nil | (apply args_cons; exact rfl)))
  exact rfl
  exact fun _ hw => (xforget_spec rx hold slot A cap xs (by omega) hh (by omega) (hw))
  rintro _ _ ⟨A1, cap1, rfl, rfl⟩
  rw [hxs]
  have hfd := fun w hw => @xfind_spec rx hold slot A1 cap1 xs' tag (by omega) B w0 (blk g (.cells #[.int .i64 tag, .int .i64 idx, .int .i64 cnt, .int .i64 size, .string s] 23 (0, 0)) :: H) w hw
  obtain ⟨fi, hfi⟩ : ∃ fi, idxFrom (fun x : Rx => x.d.tag == tag) xs' 0 = fi := ⟨_, rfl⟩
  rw [hfi] at hfd ⊢
  have hge := idxFrom_ge (p := fun x : Rx => x.d.tag == tag) (l := xs') (k := 0) (Int.le_refl _)
  rw [hfi] at hge
  have hbl : blk g (.cells #[.int .i64 tag, .int .i64 idx, .int .i64 cnt, .int .i64 size, .string s] 23 (0, 0)) ∈ xpcs rx hold slot A1 cap1 xs' (blk g (.cells #[.int .i64 tag, .int .i64 idx, .int .i64 cnt, .int .i64 size, .string s] 23 (0, 0)) :: H) := .tail _ (.tail _ (.tail _ (.head _)))
  repeat' (first | (apply VL_load T; exact rfl; exact hbl; exact rfl; exact rfl; exact rfl) | apply (zs1 ?_) | (apply zg2; refine zs6 ?_) | apply (zs65 ?_) | apply (zs68 ?_) | apply (zs69 ?_) | apply (zs70 ?_))
  first | apply VL_callt en59 | apply VL_callq en59
  (repeat (first | exact args_nil | (apply args_cons; exact rfl)))
  exact rfl
  exact fun _ hw => (hfd _ hw)
  apply VL_assign; exact rfl; exact rfl
  apply VL_nil
  apply VQ_then
  apply VC_seq
  refine VC_cutQ (fun z : Mid xs' gg clock tag cnt size pt => [(10, .int .i64 z.k), (9, .int .i64 pt), (5, .pointer (some ⟨g, 0, none⟩)), (0, .pointer (some ⟨rx, 0, none⟩)), (1, .int .i64 slot)])
    (fun z => mpcs z.x (many ((z.ys.eraseIdx z.k).map xrows) :: blk rx (xcells hold slot z.A z.ys.length z.cap) :: sl 105 7 z.A z.ys.length z.cap (z.ys.flatMap rdF) :: blk g (.cells #[.int .i64 tag, .int .i64 idx, .int .i64 cnt, .int .i64 size, .string s] 23 (0, 0)) :: H)) ?_ ?_
  · intro K hK
    rcases hge with hm1 | ⟨h0, h1⟩
    · subst hm1
      unfold xpcs
      by_cases h8 : 8 ≤ xs'.length
      · repeat' (first | apply (zs1 ?_) | apply (zs2 ?_) | apply (zs5 ?_) | (apply zg2; refine zs6 ?_) | (apply zg3; refine zs7 ?_) | (apply zg4; refine zs9 ?_) | (apply (zs17 ?_ ?_) <;> intro _ <;> try (exfalso; omega)) | (apply (zs20 ?_ ?_) <;> intro _ <;> try (exfalso; omega)) | apply (zs65 ?_) | apply (zs68 ?_) | apply (zs69 ?_) | apply (zs70 ?_) | (apply zg27; refine zs71 ?_) | apply (zs74 ?_) | apply (zs77 ?_))
        apply VQ_st (xpcs rx hold slot A1 cap1 xs' H)
        · unfold xpcs
          (intro w hw; refine hw.perm ?_; focus repeat (first | with_reducible exact Perm.refl _ | (with_reducible apply perm_take; focus ((repeat (first | with_reducible exact rem_here | with_reducible apply rem_there)); done)) | with_reducible apply Perm.dropK))
        apply VQ_ret3; exact rfl; exact rfl; exact rfl; exact rfl
        exact .inl ⟨rfl, h8, rfl, A1, cap1, rfl⟩
      · have hm1 : -1 < (0:Int) := by omega
        repeat' (first | apply (zs1 ?_) | apply (zs2 ?_) | apply (zs5 ?_) | (apply zg2; refine zs6 ?_) | (apply zg3; refine zs7 ?_) | (apply zg4; refine zs9 ?_) | (apply (zs17 ?_ ?_) <;> intro _ <;> try (exfalso; omega)) | (apply (zs20 ?_ ?_) <;> intro _ <;> try (exfalso; omega)) | apply (zs65 ?_) | apply (zs68 ?_) | apply (zs69 ?_) | apply (zs70 ?_) | (apply zg27; first | refine zs71 ?_ | refine zs72 ?_) | apply (zs76 ?_))
        apply VC_tree (.n1 0 (.n1 1 (.n1 2 (.n1 3 (.n1 4 (.n1 5 (.n1 6 (.n1 7 (.n1 8 (.n1 9 (.n1 10 (.n1 11 (.n1 12 (.n1 13 (.n1 15 (.n1 16 (.n2 14 (.n1 17 (.n1 18 (.n1 19 (.n1 20 (.n1 21 (.n1 22 .done)))))) 17 (.n1 14 (.n1 18 (.n1 19 (.n1 20 (.n1 21 (.n1 22 .done))))))))))))))))))))))) [23] [true, false, false, true]
        kernel_rfl
        kernel_rfl
        (repeat (first | with_reducible exact split_nil | with_reducible apply split_t | with_reducible apply split_f))
        (simp only [pickOps, nthO]; rfl)
        repeat' (first | (apply VL_make1 T; exact rfl; exact rfl; exact rfl; exact zi4; exact rfl; exact rfl; exact rfl; omega; intro _) | (apply VL_make1 T; exact rfl; exact rfl; exact rfl; exact zi9; exact rfl; exact rfl; exact rfl; omega; intro _) | apply (zs1 ?_) | apply (zs5 ?_) | (apply zg2; refine zs6 ?_) | (apply zg3; refine zs7 ?_) | (apply zg21; (refine zs49 ?_; intro _ _)) | (apply zg22; refine zs50 ?_) | (apply zg25; refine zs55 ?_) | (apply zg26; (refine zs56 ?_; intro _)) | apply (zs65 ?_) | (apply VL_nilh; (repeat (first | with_reducible exact app_nil | with_reducible apply app_cons))) | apply (zs87 ?_) | (apply VQ_heldq; (repeat (first | with_reducible exact pull_nil | (with_reducible apply pull_cons; (repeat (first | with_reducible exact rem_here | with_reducible apply rem_there)))))) | (apply VT_done; (repeat (first | with_reducible exact app_nil | with_reducible apply app_cons))) | apply (zs90 ?_) | apply (zs91 ?_ ?_) | (apply VQ_treeq; (repeat (first | with_reducible exact pull_nil | (with_reducible apply pull_cons; (repeat (first | with_reducible exact rem_here | with_reducible apply rem_there)))))) | apply (zs93 ?_) | apply (zs94 ?_))
        · rename_i gS gB gU A2 cap2
          apply hK ⟨xs' ++ [xnew gS gB gg clock tag cnt size pt], A2, cap2, xs'.length, xnew gS gB gg clock tag cnt size pt, by simp, .inr ⟨hfi, by omega, rfl, rfl, rfl⟩, okx_new rfl ⟨a5, a6⟩, by simp; omega⟩
          · (repeat (first | exact sub_nil _ | (apply sub_cons; first | exact rfl | exact congrArg (fun z : Int => some (Value.int .i64 z)) (by omega))))
          · dsimp only
            rw [xnew_mid _ _ _ _ _ _ _ _ _ ⟨a5, a6⟩, List.length_append, List.length_singleton]
            (intro w hw; refine hw.perm ?_; focus repeat (first | with_reducible exact Perm.refl _ | (with_reducible apply perm_take; focus ((repeat (first | with_reducible exact rem_here | with_reducible apply rem_there)); done)) | with_reducible apply Perm.dropK))
        · rename_i gB gS gU A2 cap2
          apply hK ⟨xs' ++ [xnew gS gB gg clock tag cnt size pt], A2, cap2, xs'.length, xnew gS gB gg clock tag cnt size pt, by simp, .inr ⟨hfi, by omega, rfl, rfl, rfl⟩, okx_new rfl ⟨a5, a6⟩, by simp; omega⟩
          · (repeat (first | exact sub_nil _ | (apply sub_cons; first | exact rfl | exact congrArg (fun z : Int => some (Value.int .i64 z)) (by omega))))
          · dsimp only
            rw [xnew_mid _ _ _ _ _ _ _ _ _ ⟨a5, a6⟩, List.length_append, List.length_singleton]
            (intro w hw; refine hw.perm ?_; focus repeat (first | with_reducible exact Perm.refl _ | (with_reducible apply perm_take; focus ((repeat (first | with_reducible exact rem_here | with_reducible apply rem_there)); done)) | with_reducible apply Perm.dropK))
    · obtain ⟨k, rfl⟩ : ∃ k : Nat, fi = k := ⟨fi.toNat, by omega⟩
      obtain ⟨x, hx⟩ : ∃ x, xs'[k]? = some x := ⟨_, List.getElem?_eq_getElem (by omega)⟩
      repeat' (first | apply (zs1 ?_) | (apply (zs17 ?_ ?_) <;> intro _ <;> try (exfalso; omega)) | apply (zs65 ?_) | apply (zs68 ?_) | apply (zs69 ?_) | apply (zs70 ?_) | (apply zg27; refine zs72 ?_) | apply (zs76 ?_))
      apply hK ⟨xs', A1, cap1, k, x, hx, .inl ⟨hfi, rfl⟩, hok x (List.mem_of_getElem? hx), by omega⟩
      · (repeat (first | exact sub_nil _ | (apply sub_cons; first | exact rfl | exact congrArg (fun z : Int => some (Value.int .i64 z)) (by omega))))
      · exact fun w hw => mid_in hx (hw.front 2)
  rintro ⟨ys, A2, cap2, k, x, hx, got, ok, len⟩
  dsimp only
  have hil := (List.getElem?_eq_some_iff.1 hx).1
  refine VC_some (e := 105) (size := 7) (A := A2) (k := ys.length) (cap := cap2) (xs := ys.flatMap rdF) (by unfold mpcs; (focus repeat (first | with_reducible exact List.mem_cons_self | with_reducible apply List.mem_cons_of_mem | assumption))) (by omega) ?_
  rintro ga rfl
  have hcn := ok.d.cnt
  have hpt := ok.d.parts
  have hlh : (hL x).length = x.d.cnt.toNat := bitsL_len _ _
  have hlp : (pL x).length = x.d.cnt.toNat := by unfold pL; rw [List.length_take, hpt]; omega
  unfold mpcs
  iterate 11 (first | (apply VL_nilCheck_s; exact rfl; exact rfl) | apply (zs1 ?_) | apply (zs2 ?_) | apply (zs5 ?_) | (apply zg2; refine zs6 ?_) | (apply zg3; refine zs7 ?_) | (apply zg5; refine zs10 ?_) | apply (zs65 ?_) | apply (zs68 ?_) | apply (zs69 ?_) | apply (zs70 ?_))
  have hset : ys.set k x = ys := by
    obtain ⟨hk, rfl⟩ := List.getElem?_eq_some_iff.1 hx
    exact List.set_getElem_self hk
  have hout : ∀ w, St B w0 (mpcs x (many ((ys.eraseIdx k).map xrows) :: blk rx (xcells hold slot (some ⟨ga, 0, none⟩) ys.length cap2) :: sl 105 7 (some ⟨ga, 0, none⟩) ys.length cap2 (ys.flatMap rdF) :: blk g (.cells #[.int .i64 tag, .int .i64 idx, .int .i64 cnt, .int .i64 size, .string s] 23 (0, 0)) :: H)) w → St B w0 (xpcs rx hold slot (some ⟨ga, 0, none⟩) cap2 ys H) w := by
    intro w hw
    have h5 := mid_out hx x hw
    rw [hset] at h5
    clear hw
    revert w
    unfold xpcs
    (intro w hw; refine hw.perm ?_; focus repeat (first | with_reducible exact Perm.refl _ | (with_reducible apply perm_take; focus ((repeat (first | with_reducible exact rem_here | with_reducible apply rem_there)); done)) | with_reducible apply Perm.dropK))
  apply VC_seq
  refine VC_cutQ (fun _ : PLift (fits x.d tag idx cnt size s) => [(11, sptr (some ⟨ga, 0, none⟩) (k * 7)), (5, .pointer (some ⟨g, 0, none⟩)), (0, .pointer (some ⟨rx, 0, none⟩)), (1, .int .i64 slot)])
    (fun _ => mpcs x (many ((ys.eraseIdx k).map xrows) :: blk rx (xcells hold slot (some ⟨ga, 0, none⟩) ys.length cap2) :: sl 105 7 (some ⟨ga, 0, none⟩) ys.length cap2 (ys.flatMap rdF) :: blk g (.cells #[.int .i64 tag, .int .i64 idx, .int .i64 cnt, .int .i64 size, .string s] 23 (0, 0)) :: H)) ?_ ?_
  · intro K hK
    by_cases hcnt : cnt = x.d.cnt
    rotate_left
    · have hnf : ¬ fits x.d tag idx cnt size s := fun h => hcnt h.1
      repeat' (first | (apply VL_nilCheck_s; exact rfl; exact rfl) | apply (zs1 ?_) | apply (zs2 ?_) | (apply zg1; refine zs3 ?_) | (apply zg2; first | refine zs6 ?_ | refine zs58 ?_) | (apply zg3; first | refine zs7 ?_ | refine zs59 ?_) | (apply zg6; refine zs11 ?_) | (apply zg8; (refine zs16 ?_ ?_ <;> intro _ <;> try (exfalso; omega))) | apply (zs65 ?_) | apply (zs66 ?_) | apply (zs68 ?_) | apply (zs69 ?_) | apply (zs70 ?_) | (apply zg27; refine zs71 ?_) | apply (zs74 ?_) | apply (zs77 ?_) | (apply zg28; refine zs83 ?_))
      all_goals (
        apply VQ_st (xpcs rx hold slot (some ⟨ga, 0, none⟩) cap2 ys H)
        · exact hout
        apply VQ_ret3; exact rfl; exact rfl; exact rfl; exact rfl
        exact .inr ⟨_, cap2, ys, k, x, got, hx, .inl ⟨hnf, rfl, rfl⟩⟩)
    have hhas : (hL x)[idx.toNat]? = some (decide (x.d.bm / 2 ^ idx.toNat % 2 = 1)) := bitsL_get (by omega)
    have hpar : (pL x)[idx.toNat]? = some (x.d.parts.getD idx.toNat ⟨#[]⟩) := by
      unfold pL
      rw [List.getElem?_take, if_pos (by omega), List.getD_eq_getElem?_getD, List.getElem?_eq_getElem (by omega)]; rfl
    obtain ⟨sp, hsp⟩ : ∃ sp, x.d.parts.getD idx.toNat ⟨#[]⟩ = sp := ⟨_, rfl⟩
    rw [hsp] at hpar
    by_cases hsz : size = x.d.size
    rotate_left
    · have hnf : ¬ fits x.d tag idx cnt size s := fun h => hsz h.2.1
      repeat' (first | (apply VL_nilCheck_s; exact rfl; exact rfl) | apply (zs1 ?_) | apply (zs2 ?_) | (apply zg1; first | refine zs3 ?_ | refine zs4 ?_) | (apply zg2; first | refine zs6 ?_ | refine zs58 ?_) | (apply zg3; first | refine zs7 ?_ | refine zs59 ?_) | (apply zg6; first | refine zs11 ?_ | refine zs12 ?_) | (apply zg8; (refine zs16 ?_ ?_ <;> intro _ <;> try (exfalso; omega))) | apply (zs65 ?_) | apply (zs66 ?_) | apply (zs68 ?_) | apply (zs69 ?_) | apply (zs70 ?_) | (apply zg27; refine zs71 ?_) | apply (zs74 ?_) | apply (zs77 ?_) | (apply zg28; refine zs83 ?_))
      all_goals (
        apply VQ_st (xpcs rx hold slot (some ⟨ga, 0, none⟩) cap2 ys H)
        · exact hout
        apply VQ_ret3; exact rfl; exact rfl; exact rfl; exact rfl
        exact .inr ⟨_, cap2, ys, k, x, got, hx, .inl ⟨hnf, rfl, rfl⟩⟩)
    by_cases hpp : pt = x.d.part
    rotate_left
    · have hnf : ¬ fits x.d tag idx cnt size s := fun h => hpp (hp.symm.trans h.2.2.1)
      repeat' (first | (apply VL_nilCheck_s; exact rfl; exact rfl) | apply (zs1 ?_) | apply (zs2 ?_) | (apply zg1; first | refine zs3 ?_ | refine zs4 ?_) | (apply zg2; first | refine zs6 ?_ | refine zs58 ?_) | (apply zg3; first | refine zs7 ?_ | refine zs59 ?_) | (apply zg6; first | refine zs11 ?_ | refine zs12 ?_) | (apply zg8; (refine zs16 ?_ ?_ <;> intro _ <;> try (exfalso; omega))) | apply (zs65 ?_) | apply (zs66 ?_) | apply (zs68 ?_) | apply (zs69 ?_) | apply (zs70 ?_) | (apply zg27; refine zs71 ?_) | apply (zs74 ?_) | apply (zs77 ?_) | (apply zg28; refine zs83 ?_))
      all_goals (
        apply VQ_st (xpcs rx hold slot (some ⟨ga, 0, none⟩) cap2 ys H)
        · exact hout
        apply VQ_ret3; exact rfl; exact rfl; exact rfl; exact rfl
        exact .inr ⟨_, cap2, ys, k, x, got, hx, .inl ⟨hnf, rfl, rfl⟩⟩)
    by_cases hb : x.d.bm / 2 ^ idx.toNat % 2 = 1
    · rw [decide_eq_true hb] at hhas
      by_cases hss : sp = s
      · skip
        repeat' (first | (apply VL_nilCheck_s; exact rfl; exact rfl) | apply (zs1 ?_) | apply (zs2 ?_) | (apply zg1; refine zs4 ?_) | (apply zg2; first | refine zs6 ?_ | refine zs58 ?_) | (apply zg3; first | refine zs7 ?_ | refine zs59 ?_ | refine zs60 ?_) | (apply zg5; refine zs10 ?_) | (apply zg6; first | refine zs11 ?_ | refine zs12 ?_) | (apply zg8; first | (refine zs16 ?_ ?_ <;> intro _ <;> try (exfalso; omega)) | (refine zs24 ?_ ?_ <;> intro _)) | apply (zs65 ?_) | apply (zs66 ?_) | apply (zs68 ?_) | apply (zs69 ?_) | apply (zs70 ?_) | (apply zg27; first | refine zs71 ?_ | refine zs72 ?_) | apply (zs74 ?_) | apply (zs76 ?_) | apply (zs77 ?_) | (apply zg28; refine zs83 ?_))
        · rename_i hne; exact absurd hss hne
        · apply hK ⟨hcnt, hsz, hp.trans hpp, .inr (hsp.trans hss)⟩
          · (repeat (first | exact sub_nil _ | (apply sub_cons; first | exact rfl | exact congrArg (fun z : Int => some (Value.int .i64 z)) (by omega))))
          · exact fun w hw => hw
      · have hnf : ¬ fits x.d tag idx cnt size s := fun h => by
          rcases h.2.2.2 with h | h
          · omega
          · exact hss (hsp.symm.trans h)
        repeat' (first | (apply VL_nilCheck_s; exact rfl; exact rfl) | apply (zs1 ?_) | apply (zs2 ?_) | (apply zg1; refine zs4 ?_) | (apply zg2; first | refine zs6 ?_ | refine zs58 ?_) | (apply zg3; first | refine zs7 ?_ | refine zs59 ?_ | refine zs60 ?_) | (apply zg5; refine zs10 ?_) | (apply zg6; first | refine zs11 ?_ | refine zs12 ?_) | (apply zg8; first | (refine zs16 ?_ ?_ <;> intro _ <;> try (exfalso; omega)) | (refine zs24 ?_ ?_ <;> intro _)) | apply (zs65 ?_) | apply (zs66 ?_) | apply (zs68 ?_) | apply (zs69 ?_) | apply (zs70 ?_) | (apply zg27; first | refine zs71 ?_ | refine zs72 ?_) | apply (zs74 ?_) | apply (zs76 ?_) | apply (zs77 ?_) | (apply zg28; refine zs83 ?_))
        all_goals (try (exact absurd (by assumption) hss))
        all_goals (
          apply VQ_st (xpcs rx hold slot (some ⟨ga, 0, none⟩) cap2 ys H)
          · exact hout
          apply VQ_ret3; exact rfl; exact rfl; exact rfl; exact rfl
          exact .inr ⟨_, cap2, ys, k, x, got, hx, .inl ⟨hnf, rfl, rfl⟩⟩)
    · rw [decide_eq_false hb] at hhas
      repeat' (first | (apply VL_nilCheck_s; exact rfl; exact rfl) | apply (zs1 ?_) | (apply zg1; first | refine zs3 ?_ | refine zs4 ?_) | (apply zg2; first | refine zs6 ?_ | refine zs58 ?_) | (apply zg3; first | refine zs7 ?_ | refine zs59 ?_ | refine zs60 ?_) | (apply zg5; refine zs10 ?_) | (apply zg6; refine zs12 ?_) | (apply zg8; (refine zs16 ?_ ?_ <;> intro _ <;> try (exfalso; omega))) | apply (zs66 ?_) | apply (zs68 ?_) | apply (zs69 ?_) | (apply zg27; refine zs72 ?_) | apply (zs76 ?_) | (apply zg28; refine zs83 ?_))
      apply hK ⟨hcnt, hsz, hp.trans hpp, .inl (by omega)⟩
      · (repeat (first | exact sub_nil _ | (apply sub_cons; first | exact rfl | exact congrArg (fun z : Int => some (Value.int .i64 z)) (by omega))))
      · exact fun w hw => hw
  rintro ⟨hfit⟩
  unfold mpcs
  obtain ⟨hf1, hf2, hf3, hf4⟩ := id hfit
  obtain ⟨x1, hx1⟩ : ∃ x1 : Rx, x1 = { x with d := { x.d with last := slot } } := ⟨_, rfl⟩
  obtain ⟨x2, hx2⟩ : ∃ x2 : Rx, x2 = { x with d := upd x.d slot idx s } := ⟨_, rfl⟩
  have hr1 : rdF x1 = (rdF x).set 4 (.int .i64 slot) := by rw [hx1]; rfl
  have hrow1 : ∀ M, mpcs x1 M = mpcs x M := by rw [hx1]; exact fun _ => rfl
  have hrow2 : x2.pA = x1.pA ∧ x2.pcap = x1.pcap ∧ x2.hA = x1.hA ∧ x2.hcap = x1.hcap := by rw [hx1, hx2]; exact ⟨rfl, rfl, rfl, rfl⟩
  have hlh1 : (hL x1).length = x.d.cnt.toNat := by rw [hx1]; exact hlh
  have hlp1 : (pL x1).length = x.d.cnt.toNat := by rw [hx1]; exact hlp
  have hlh2 : hL x2 = (hL x1).set idx.toNat true := by rw [hx2, hx1]; exact (bits_set (c := x.d.cnt.toNat) (by omega)).symm
  have hlp2 : pL x2 = (pL x1).set idx.toNat s := by rw [hx2, hx1]; exact List.take_set
  have hr2 : rdF x2 = rdF x1 := by
    unfold rdF
    rw [hlh2, hlp2, List.length_set, List.length_set, hx1, hx2]
    rfl
  have hfl2 : (ys.set k x2).flatMap rdF = (ys.set k x1).flatMap rdF := by
    rw [List.flatMap_def, List.flatMap_def, List.map_set, List.map_set, hr2]
  have hcn2 : x2.d.cnt = x.d.cnt := by rw [hx2]; rfl
  have hlp3 : (pL x2).length = x.d.cnt.toNat := by rw [hlp2, List.length_set, hlp1]
  have hlh3 : (hL x2).length = x.d.cnt.toNat := by rw [hlh2, List.length_set, hlh1]
  have hsl1 : (ys.set k x1).length = ys.length := List.length_set
  have hsl2 : (ys.set k x2).length = ys.length := List.length_set
  have hx1k : (ys.set k x1)[k]? = some x1 := by rw [List.getElem?_set_self hil]
  have hx2k : (ys.set k x2)[k]? = some x2 := by rw [List.getElem?_set_self hil]
  have hwh : (hL x1).all id = decide (x.d.bm = allBits x.d) := by rw [hx1]; exact bits_all ok.bm
  have hok2 : x2.d.bm < 2 ^ x2.d.cnt.toNat := by
    rw [hcn2, hx2]
    exact Nat.or_lt_two_pow ok.bm (Nat.pow_lt_pow_right (by omega) (by omega))
  have hwh2 : (hL x2).all id = decide (x2.d.bm = allBits x.d) := by
    have h := bits_all hok2
    rw [hcn2] at h
    show (bitsL x2.d.bm x2.d.cnt.toNat).all id = _
    rw [hcn2]
    exact h
  have hsz2 : ∀ s' ∈ pL x2, s'.size ≤ 5000 := by
    intro s' hs'
    rw [hlp2] at hs'
    rcases List.mem_or_eq_of_mem_set hs' with h | rfl
    · refine ok.d.size _ ?_
      rw [hx1] at h
      exact List.mem_of_mem_take h
    · exact hs
  iterate 9 (first | (apply VL_nilCheck_s; exact rfl; exact rfl) | (apply VL_store_field T (f := rdF) (l := ys) (i := k) (q := 7) (o := 4) (b := x) (b' := x1); exact rfl; exact rfl; exact rfl; (repeat (first | with_reducible exact Upd.here _ | with_reducible apply Upd.there)); exact hx; exact hr1; exact fun _ => rfl; exact rfl; exact rfl) | apply (zs1 ?_) | (apply zg2; refine zs58 ?_) | apply (zs65 ?_) | apply (zs68 ?_) | apply (zs69 ?_) | apply (zs70 ?_))
  apply VC_st (mpcs x1 (many ((ys.eraseIdx k).map xrows) :: blk rx (xcells hold slot (some ⟨ga, 0, none⟩) ys.length cap2) :: sl 105 7 (some ⟨ga, 0, none⟩) ys.length cap2 ((ys.set k x1).flatMap rdF) :: blk g (.cells #[.int .i64 tag, .int .i64 idx, .int .i64 cnt, .int .i64 size, .string s] 23 (0, 0)) :: H))
  · rw [hrow1]; exact fun w hw => hw
  unfold mpcs
  repeat' (first | (apply VL_nilCheck_s; exact rfl; exact rfl) | apply (zs1 ?_) | (apply zg2; refine zs58 ?_) | (apply zg3; refine zs59 ?_) | apply (zs69 ?_) | apply (zs70 ?_))
  first | apply VL_callt en60 | apply VL_callq en60
  (repeat (first | exact args_nil | (apply args_cons; exact rfl)))
  exact rfl
  exact fun _ hw => (xwhole_spec (hL x1) (by omega) (.sl (by (focus repeat (first | with_reducible exact List.mem_cons_self | with_reducible apply List.mem_cons_of_mem | assumption)))) hw)
  rw [hwh]
  obtain ⟨bef, hbef⟩ : ∃ b, decide (x.d.bm = allBits x.d) = b := ⟨_, rfl⟩
  rw [hbef]
  repeat' (first | apply (zs2 ?_) | apply (zs65 ?_) | apply (zs68 ?_) | apply (zs69 ?_))
  apply VC_held [0, 1, 2, 3, 4, 5, 6] [7] [false, true, false, false, true, true]
  kernel_rfl
  kernel_rfl
  (repeat (first | with_reducible exact split_nil | with_reducible apply split_t | with_reducible apply split_f))
  (simp only [pickOps, nthO]; rfl)
  (simp only [pickOps, nthO]; rfl)
  repeat' (first | (apply VL_nilCheck_s; exact rfl; exact rfl) | (apply VL_store_row T (f := boolF) (l := hL x1) (i := idx.toNat) (a := true); exact rfl; exact rfl; exact rfl; (repeat (first | with_reducible exact Upd.here _ | with_reducible apply Upd.there)); exact rfl; exact fun _ => rfl; exact rfl; omega) | apply (zs1 ?_) | (apply zg2; first | refine zs6 ?_ | refine zs58 ?_) | (apply zg3; first | refine zs7 ?_ | refine zs59 ?_) | (apply zg5; refine zs10 ?_) | apply (zs65 ?_) | (apply VL_nilh; (repeat (first | with_reducible exact app_nil | with_reducible apply app_cons))) | apply (zs68 ?_) | apply (zs69 ?_) | apply (zs93 ?_) | apply (zs94 ?_))
  apply VC_held [0, 1, 2, 3, 4, 5, 6, 7, 8] [9] [false, true, true, true]
  kernel_rfl
  kernel_rfl
  (repeat (first | with_reducible exact split_nil | with_reducible apply split_t | with_reducible apply split_f))
  (simp only [pickOps, nthO]; rfl)
  (simp only [pickOps, nthO]; rfl)
  iterate 15 (first | (apply VL_nilCheck_s; exact rfl; exact rfl) | (apply VL_store_row T (f := strF) (l := pL x1) (i := idx.toNat) (a := s); exact rfl; exact rfl; exact rfl; (repeat (first | with_reducible exact Upd.here _ | with_reducible apply Upd.there)); exact rfl; exact fun _ => rfl; exact rfl; omega) | apply (zs1 ?_) | (apply zg2; first | refine zs6 ?_ | refine zs58 ?_) | (apply zg3; first | refine zs7 ?_ | refine zs59 ?_) | (apply zg5; refine zs10 ?_) | apply (zs65 ?_) | (apply VL_nilh; (repeat (first | with_reducible exact app_nil | with_reducible apply app_cons))) | apply (zs68 ?_) | apply (zs93 ?_) | apply (zs94 ?_))
  apply VC_st (mpcs x2 (many ((ys.eraseIdx k).map xrows) :: blk rx (xcells hold slot (some ⟨ga, 0, none⟩) ys.length cap2) :: sl 105 7 (some ⟨ga, 0, none⟩) ys.length cap2 ((ys.set k x2).flatMap rdF) :: blk g (.cells #[.int .i64 tag, .int .i64 idx, .int .i64 cnt, .int .i64 size, .string s] 23 (0, 0)) :: H))
  · unfold mpcs
    rw [hfl2, hlp2, hlh2, List.length_set, List.length_set, hrow2.1, hrow2.2.1, hrow2.2.2.1, hrow2.2.2.2]
    (intro w hw; refine hw.perm ?_; focus repeat (first | with_reducible exact Perm.refl _ | (with_reducible apply perm_take; focus ((repeat (first | with_reducible exact rem_here | with_reducible apply rem_there)); done)) | with_reducible apply Perm.dropK))
  clear hrow1 hx1k hlp1 hlh1 hwh hr1 hr2 hfl2
  unfold mpcs
  have hend : ∀ w, St B w0 (mpcs x2 (many ((ys.eraseIdx k).map xrows) :: blk rx (xcells hold slot (some ⟨ga, 0, none⟩) ys.length cap2) :: sl 105 7 (some ⟨ga, 0, none⟩) ys.length cap2 ((ys.set k x2).flatMap rdF) :: blk g (.cells #[.int .i64 tag, .int .i64 idx, .int .i64 cnt, .int .i64 size, .string s] 23 (0, 0)) :: H)) w → St B w0 (xpcs rx hold slot (some ⟨ga, 0, none⟩) cap2 (ys.set k x2) H) w := by
    intro w hw
    have h5 := mid_out hx x2 hw
    clear hw
    revert w
    unfold xpcs
    rw [hsl2]
    (intro w hw; refine hw.perm ?_; focus repeat (first | with_reducible exact Perm.refl _ | (with_reducible apply perm_take; focus ((repeat (first | with_reducible exact rem_here | with_reducible apply rem_there)); done)) | with_reducible apply Perm.dropK))
  obtain ⟨aft, haft⟩ : ∃ b, decide (x2.d.bm = allBits x.d) = b := ⟨_, rfl⟩
  rw [haft] at hwh2
  have hwc := fun {B : Nat} {w0 : World} {H : List HP} {w : World} (hr : Rd B w0 H x2.hA ((hL x2).flatMap boolF)) (hw : St B w0 H w) => xwhole_spec (hL x2) (by omega) (cap := x2.hcap) hr hw
  rw [hwh2] at hwc
  have hout2 : outV x.d (upd x.d slot idx s) = if bef = true ∨ aft = false then .tuple #[.string ⟨#[]⟩, .bool false, .int .i64 0] else .tuple #[.string (joinB (pL x2)), .bool true, .int .i64 0] := by
    unfold outV
    have e1 : (x.d.bm = allBits x.d ∨ (upd x.d slot idx s).bm ≠ allBits x.d) ↔ (bef = true ∨ aft = false) := by
      rw [← hbef, ← haft, decide_eq_true_eq, decide_eq_false_iff_not, hx2]
    have e2 : (upd x.d slot idx s).parts.take x.d.cnt.toNat = pL x2 := by rw [hx2]; rfl
    rw [e2]
    by_cases h : bef = true ∨ aft = false
    · rw [if_pos (e1.2 h), if_pos h]
    · rw [if_neg (fun h' => h (e1.1 h')), if_neg h]
  have hfin : xpcs rx hold slot (some ⟨ga, 0, none⟩) cap2 (ys.set k x2) H = xpcs rx hold slot (some ⟨ga, 0, none⟩) cap2 (ys.set k { x with d := upd x.d slot idx s }) H := by rw [hx2]
  cases bef with
  | true =>
    repeat' (first | (apply VL_nilCheck_s; exact rfl; exact rfl) | apply (zs1 ?_) | apply (zs2 ?_) | (apply zg1; refine zs3 ?_) | (apply zg6; refine zs11 ?_) | apply (zs65 ?_) | apply (zs68 ?_) | apply (zs69 ?_) | apply (zs70 ?_) | (apply zg27; refine zs71 ?_) | apply (zs74 ?_) | apply (zs77 ?_))
    apply VQ_st (xpcs rx hold slot (some ⟨ga, 0, none⟩) cap2 (ys.set k x2) H) hend
    apply VQ_ret3; exact rfl; exact rfl; exact rfl; exact rfl
    exact .inr ⟨_, cap2, ys, k, x, got, hx, .inr ⟨hfit, by rw [hout2, if_pos (.inl rfl)], hfin⟩⟩
  | false =>
    cases aft with
    | false =>
      repeat' (first | (apply VL_nilCheck_s; exact rfl; exact rfl) | ((first | apply VL_callt en60 | apply VL_callq en60); (repeat (first | exact args_nil | (apply args_cons; exact rfl))); exact rfl; exact fun _ hw => (hwc (.sl (by (focus repeat (first | with_reducible exact List.mem_cons_self | with_reducible apply List.mem_cons_of_mem | assumption)))) hw)) | apply (zs1 ?_) | apply (zs2 ?_) | (apply zg1; refine zs4 ?_) | (apply zg2; refine zs58 ?_) | (apply zg3; refine zs59 ?_) | (apply zg6; refine zs12 ?_) | (apply zg20; refine zs48 ?_) | apply (zs65 ?_) | apply (zs68 ?_) | apply (zs69 ?_) | apply (zs70 ?_) | (apply zg27; refine zs71 ?_) | apply (zs74 ?_) | apply (zs77 ?_))
      apply VQ_st (xpcs rx hold slot (some ⟨ga, 0, none⟩) cap2 (ys.set k x2) H) hend
      apply VQ_ret3; exact rfl; exact rfl; exact rfl; exact rfl
      exact .inr ⟨_, cap2, ys, k, x, got, hx, .inr ⟨hfit, by rw [hout2, if_pos (.inr rfl)], hfin⟩⟩
    | true =>
      repeat' (first | (apply VL_nilCheck_s; exact rfl; exact rfl) | ((first | apply VL_callt en60 | apply VL_callq en60); (repeat (first | exact args_nil | (apply args_cons; exact rfl))); exact rfl; exact fun _ hw => (hwc (.sl (by (focus repeat (first | with_reducible exact List.mem_cons_self | with_reducible apply List.mem_cons_of_mem | assumption)))) hw)) | apply (zs1 ?_) | apply (zs2 ?_) | (apply zg1; refine zs4 ?_) | (apply zg2; refine zs58 ?_) | (apply zg3; refine zs59 ?_) | (apply zg6; refine zs12 ?_) | (apply zg20; refine zs47 ?_) | apply (zs65 ?_) | apply (zs68 ?_) | apply (zs69 ?_) | apply (zs70 ?_) | (apply zg27; refine zs72 ?_) | apply (zs73 ?_) | apply (zs76 ?_))
      refine VC_loop1 (fun (j : Nat) => [(14, .int .i64 j), (13, .string (joinB ((pL x2).take j))), (11, sptr (some ⟨ga, 0, none⟩) (k * 7))])
        (fun _ => mpcs x2 (many ((ys.eraseIdx k).map xrows) :: blk rx (xcells hold slot (some ⟨ga, 0, none⟩) ys.length cap2) :: sl 105 7 (some ⟨ga, 0, none⟩) ys.length cap2 ((ys.set k x2).flatMap rdF) :: blk g (.cells #[.int .i64 tag, .int .i64 idx, .int .i64 cnt, .int .i64 size, .string s] 23 (0, 0)) :: H)) (fun j => j ≤ (pL x2).length) (fun j => (pL x2).length - j) 0 (Nat.zero_le _) ?_ (fun w hw => hw) ?_
      · (repeat (first | exact sub_nil _ | (apply sub_cons; first | exact rfl | exact congrArg (fun z : Int => some (Value.int .i64 z)) (by omega))))
      intro j hj K hK
      unfold mpcs
      have hjs := joinB_size ((pL x2).take j) fun s' hs' => hsz2 s' (List.mem_of_mem_take hs')
      rw [List.length_take] at hjs
      by_cases hlt : j < (pL x2).length
      · obtain ⟨sj, hsj⟩ : ∃ sj, (pL x2)[j]? = some sj := ⟨_, List.getElem?_eq_getElem hlt⟩
        have hsjs := hsz2 sj (List.mem_of_getElem? hsj)
        have hst : joinB ((pL x2).take (j + 1)) = joinB ((pL x2).take j) ++ sj := by rw [List.take_add_one, hsj]; exact joinB_snoc _ _
        have hmn : min j (pL x2).length ≤ 32 := by omega
        have hbd : (joinB ((pL x2).take j)).size ≤ 160000 := by omega
        clear hjs
        repeat' (first | (apply VL_nilCheck_s; exact rfl; exact rfl) | (apply VL_scat; exact rfl; exact rfl; exact rfl; omega) | apply (zs1 ?_) | apply (zs2 ?_) | (apply zg2; refine zs58 ?_) | (apply zg3; first | refine zs59 ?_ | refine zs60 ?_) | (apply zg4; refine zs9 ?_) | (apply zg5; refine zs10 ?_) | (apply (zs17 ?_ ?_) <;> intro _ <;> try (exfalso; omega)) | (apply zg13; refine zs30 ?_) | apply (zs65 ?_) | apply (zs68 ?_) | apply (zs69 ?_) | apply (zs70 ?_) | (apply zg27; refine zs71 ?_) | apply (zs73 ?_) | apply (zs76 ?_) | apply (zs79 ?_))
        apply hK (j + 1)
        · omega
        · omega
        · rw [hst]; (repeat (first | exact sub_nil _ | (apply sub_cons; first | exact rfl | exact congrArg (fun z : Int => some (Value.int .i64 z)) (by omega))))
        · exact fun w hw => hw
      · obtain rfl : j = (pL x2).length := by omega
        rw [List.take_length]
        repeat' (first | (apply VL_nilCheck_s; exact rfl; exact rfl) | apply (zs1 ?_) | apply (zs2 ?_) | (apply zg2; refine zs58 ?_) | (apply zg3; refine zs59 ?_) | (apply zg4; refine zs9 ?_) | (apply (zs17 ?_ ?_) <;> intro _ <;> try (exfalso; omega)) | apply (zs65 ?_) | apply (zs68 ?_) | apply (zs69 ?_) | apply (zs70 ?_) | (apply zg27; refine zs72 ?_) | apply (zs74 ?_) | apply (zs75 ?_) | apply (zs80 ?_) | apply (zs81 ?_))
        apply VQ_st (xpcs rx hold slot (some ⟨ga, 0, none⟩) cap2 (ys.set k x2) H) hend
        apply VQ_ret3; exact rfl; exact rfl; exact rfl; exact rfl
        exact .inr ⟨_, cap2, ys, k, x, got, hx, .inr ⟨hfit, by rw [hout2, if_neg (by simp)], hfin⟩⟩
end Go.Proofs.Ytfobgjhjigkigaa
