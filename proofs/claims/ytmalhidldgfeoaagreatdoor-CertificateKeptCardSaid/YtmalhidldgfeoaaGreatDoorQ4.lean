/- Lemmas for the claim, part 4. -/
import Derived.WideKeyRuns
import Derived.Test.YtmalhidldgfeoaaGreatDoorQ3

namespace Go.Proofs.YtmalhidldgfeoaaGreatDoor
open Go.RowKit Go.Eng Go.Nw Go.Rt
structure VX (x : WayM) : Prop where
  ck : YF x.n.net = 0
  len : 2 ≤ x.r.length ∧ x.r.length ≤ 9
  good : ∀ i, i + 1 < x.r.length → Xa x.n.net (x.r.getD i 0) (x.r.getD (i + 1) 0) = true
  per : 1 ≤ x.f.2.2.2.1 ∧ x.f.2.2.2.1 ≤ 512
  ph : 0 ≤ x.f.2.2.2.2.1 ∧ x.f.2.2.2.2.1 < x.f.2.2.2.1
  slen : 1 ≤ x.s.len ∧ x.s.len ≤ 512
  few : x.s.cells.length ≤ 512
theorem Vd {n : Net} {s t : Int} {r : List Int} (h : XQ n s t r = 0) : YF n = 0 ∧ (2 ≤ r.length ∧ r.length ≤ 9) ∧ ∀ i, i + 1 < r.length → Xa n (r.getD i 0) (r.getD (i + 1) 0) = true := by
  unfold XQ at h
  by_cases h0 : Wo n s t = 0
  rotate_left
  · rw [if_pos h0] at h; exact absurd h h0
  rw [if_neg (fun e => e h0)] at h
  have hck : YF n = 0 := by
    unfold Wo at h0
    by_cases h1 : YF n = 0
    · exact h1
    · rw [if_pos h1] at h0; cases h0
  obtain ⟨h1, _, _, _, h2⟩ := Yd9 h
  refine ⟨hck, h1, fun i hi => ?_⟩
  unfold Uv at h2
  rw [List.any_eq_false] at h2
  have := h2 i (List.mem_range.2 (by omega))
  simpa using this
theorem YgO {x : WayM} (h : wayE x.n.net x.s.sch x.f x.r = 0) : VX x := by
  obtain ⟨_, h2, h3, _, h5⟩ := Ydd h
  obtain ⟨k1, k2, k3⟩ := Vd h5
  have hfr := Wq.1 h2
  have hsz := of_decide_eq_true hfr.sized
  unfold YX at h3
  split at h3
  · cases h3
  split at h3
  · cases h3
  exact ⟨k1, k2, k3, by omega, by omega, ⟨hsz.1, hsz.2.1⟩, hfr.few⟩
def ZE (x : WayM) : List (List Value) := (YB x.n.net x.r).map fun l => [lkV l]
theorem U5 {n : Net} {r : List Int} {i : Nat} (h : i + 1 < r.length) : (YB n r)[i]? = some (X0 n r i) := by
  unfold YB
  rw [List.getElem?_map, List.getElem?_range (by omega)]; rfl
theorem Vp {n : Net} {r : List Int} : (YB n r).length = r.length - 1 := by unfold YB; simp
set_option maxRecDepth 10000 in
set_option maxHeartbeats 4000000 in
theorem OI (x : WayM) (g : Nat) (hok : VX x) {B : Nat} {w0 : World} {HI : List HP} (hi : x.In B w0 HI) (hm : wayB g x ∈ HI) :
    Ybo Tryz.prog 285 [.pointer (some ⟨g, 0, none⟩)] (ZE x) B w0 HI := by
  refine Ydg Tryz.func285 Tryz.ntmps285 rfl rfl ?_
  intro l SS X hy L0 h0
  have hck := hok.ck
  have hlen := hok.len
  have p1 := fun {H' : List HP} {w : World} (a b : Int) (hin : x.n.In B w0 H') (hw : St B w0 H' w) => XZ x.n a b hin hw
  have hix : ∀ a b : Int, Zh x.n.net a b = YC x.n.net a b := fun a b => by unfold Zh; rw [if_neg (fun e => e hck)]
  unfold wayB at hm
  repeat' (first | refine zgb ?_ | fail)
  refine Yn (fun (y : Nat × List HP) => [(3, .int .i64 (y.1 + 1 : Nat)), (0, .func (.yield l) #[] #[]), (1, .pointer (some ⟨g, 0, none⟩))]) (fun y => many y.2 :: HI) (fun y => y.1 + 1 ≤ x.r.length ∧ SS y.1 y.2) (fun y => x.r.length - 1 - y.1) (0, L0) ⟨by show 0 + 1 ≤ _; omega, h0⟩ ?_ (fun w hw => hw) ?_
  · exact zu
  rintro ⟨i, L⟩ ⟨hile, hS⟩ K hK
  dsimp only at hile hS ⊢
  by_cases hlt : i + 1 < x.r.length
  · have hg := hok.good i hlt
    have hf := Ux hg
    have hfl := ZJ hf
    have hlx : x.n.links[(YC x.n.net (x.r.getD i 0) (x.r.getD (i + 1) 0)).toNat]? = some (lnk x.n.net (YC x.n.net (x.r.getD i 0) (x.r.getD (i + 1) 0)).toNat) := Yeq x.n.net hfl
    have hla : X0 x.n.net x.r i = lnk x.n.net (YC x.n.net (x.r.getD i 0) (x.r.getD (i + 1) 0)).toNat := rfl
    have hg0 := Jm (l := x.r) (i := i) (by omega)
    have hg1 := Jm (l := x.r) (i := i + 1) (by omega)
    have hgi : ((((i + 1 : Nat) : Int) - 1).toNat) = i := by omega
    have hgi1 : (((i + 1 : Nat) : Int).toNat) = i + 1 := by omega
    have hll : (YC x.n.net (x.r.getD i 0) (x.r.getD (i + 1) 0)).toNat < x.n.links.length := hfl
    have p2 := fun {H' : List HP} {w : World} (hin : x.n.In B w0 H') (hw : St B w0 H' w) => p1 (x.r.getD i 0) (x.r.getD (i + 1) 0) hin hw
    rw [hix] at p2
    have hx : (ZE x)[i]? = some [lkV (X0 x.n.net x.r i)] := by
      unfold ZE; rw [List.getElem?_map, U5 hlt]; rfl
    rw [hla] at hx
    obtain ⟨a, ha⟩ : ∃ a, x.r.getD i 0 = a := ⟨_, rfl⟩
    obtain ⟨b, hb⟩ : ∃ b, x.r.getD (i + 1) 0 = b := ⟨_, rfl⟩
    rw [ha] at hg0 p2 hlx hll hf hx
    rw [hb] at hg1 p2 hlx hll hf hx
    obtain ⟨z, hz⟩ : ∃ z, YC x.n.net a b = z := ⟨_, rfl⟩
    rw [hz] at p2 hlx hll hf hx
    obtain ⟨lk, hlk⟩ : ∃ k, lnk x.n.net z.toNat = k := ⟨_, rfl⟩
    rw [hlk] at hlx hx
    obtain ⟨R, hR1, hR2⟩ := YhT hm
    have hg0i : x.r[(((i + 1 : Nat) : Int) - 1).toNat]? = some a := by rw [hgi]; exact hg0
    have hg1i : x.r[((i + 1 : Nat) : Int).toNat]? = some b := by rw [hgi1]; exact hg1
    have hwb : ∀ w, St B w0 (many L :: (blk g (.cells #[.int .i64 x.n.nodes, .slice x.n.pA x.n.rows.length x.n.pcap, .int .i64 x.n.noise, .int .i64 x.n.thr, .slice x.n.lA x.n.links.length x.n.lcap, .slice x.n.mA x.n.margin.length x.n.mcap, .int .i64 x.s.len, .int .i64 x.s.off, .slice x.s.A x.s.cells.length x.s.cap, .int .i64 x.f.1, .int .i64 x.f.2.1, .int .i64 x.f.2.2.1, .int .i64 x.f.2.2.2.1, .int .i64 x.f.2.2.2.2.1, .int .i64 x.f.2.2.2.2.2, .slice x.A x.r.length x.cap, .int .i64 0] 151 (0, 0))) :: [many R]) w → St B w0 (many L :: HI) w := fun w hw => hw.perm (Perm.cons _ hR2)
    have hl0 : 0 ≤ lk.2.2 ∧ lk.2.2 ≤ 7 := by
      have h1 := (Xe hck).lk z.toNat hll
      rw [← hlk]; exact ⟨h1.l0, h1.l1⟩
    have hiK : x.In B w0 [wayB g x, many R] := hi.mono fun w hw => hw.perm hR2
    have hrr := hiK.r
    have hlr := hiK.n.lk
    unfold wayB at hiK hrr hlr
    refine VP (blk g (.cells #[.int .i64 x.n.nodes, .slice x.n.pA x.n.rows.length x.n.pcap, .int .i64 x.n.noise, .int .i64 x.n.thr, .slice x.n.lA x.n.links.length x.n.lcap, .slice x.n.mA x.n.margin.length x.n.mcap, .int .i64 x.s.len, .int .i64 x.s.off, .slice x.s.A x.s.cells.length x.s.cap, .int .i64 x.f.1, .int .i64 x.f.2.1, .int .i64 x.f.2.2.1, .int .i64 x.f.2.2.2.1, .int .i64 x.f.2.2.2.2.1, .int .i64 x.f.2.2.2.2.2, .slice x.A x.r.length x.cap, .int .i64 0] 151 (0, 0)) :: many L :: [many R]) (fun w hw => hw.perm ((Perm.cons _ hR1).trans (Perm.swap _ _ _))) ?_
    repeat' (first | refine zgb ?_ | (refine zge ?_ ?_ <;> intro _ <;> try (exfalso; omega)) | fail)
    apply Ur (.n1 0 (.n1 1 (.n1 2 (.n1 3 (.n1 4 (.n1 5 (.n1 6 (.n1 7 (.n1 8 (.n1 9 (.n1 10 (.n1 11 (.n1 12 (.n1 13 (.n1 14 (.n1 15 (.n2 16 (.n1 17 (.n1 18 (.n1 19 .done))) 19 (.n1 16 (.n1 17 (.n1 18 .done)))))))))))))))))))) [20] [true, false, true]
    kernel_rfl
    kernel_rfl
    exact zy
    (simp only [Yl, nthO]; rfl)
    repeat' (first | (apply YW T; exact rfl; exact zm; exact rfl; exact zv; exact rfl; exact rfl) | (apply Yi; (repeat (first | with_reducible exact Yh | (with_reducible apply Yd; (repeat (first | with_reducible exact Ye | with_reducible apply Yc)))))) | apply (zs91 ?_ ?_) | (apply Yo; (repeat (first | with_reducible exact Yh | (with_reducible apply Yd; (repeat (first | with_reducible exact Ye | with_reducible apply Yc)))))) | refine zgd ?_ | (refine zgh ?_; intro _) | fail)
    all_goals (
      first | apply Ya en95 | apply Yb en95
      exact za
      exact rfl
      exact fun _ hw => (p2 (hiK.mono zk).n hw)
      repeat' (first | (refine Ydk 2 37 rfl rfl rfl (by rintro ⟨_, _, _, _, h, _⟩; cases h) ?_) | (apply Yi; (repeat (first | with_reducible exact Yh | (with_reducible apply Yd; (repeat (first | with_reducible exact Ye | with_reducible apply Yc)))))) | (apply Yo; (repeat (first | with_reducible exact Yh | (with_reducible apply Yd; (repeat (first | with_reducible exact Ye | with_reducible apply Yc)))))) | refine zgd ?_ | (refine zgh ?_; intro _) | fail)
      rename_i g5
      rw [show lk.2.2 + 0 = lk.2.2 from Int.add_zero _]
      apply Yk (blk g5 (.cells #[.int .i64 lk.1, .int .i64 lk.2.1, .int .i64 lk.2.2] 172 (0, 0)) :: many L :: HI)
      · intro w hw
        have h5 : St B w0 (blk g5 (.cells #[.int .i64 lk.1, .int .i64 lk.2.1, .int .i64 lk.2.2] 172 (0, 0)) :: many L :: blk g (.cells #[.int .i64 x.n.nodes, .slice x.n.pA x.n.rows.length x.n.pcap, .int .i64 x.n.noise, .int .i64 x.n.thr, .slice x.n.lA x.n.links.length x.n.lcap, .slice x.n.mA x.n.margin.length x.n.mcap, .int .i64 x.s.len, .int .i64 x.s.off, .slice x.s.A x.s.cells.length x.s.cap, .int .i64 x.f.1, .int .i64 x.f.2.1, .int .i64 x.f.2.2.1, .int .i64 x.f.2.2.2.1, .int .i64 x.f.2.2.2.2.1, .int .i64 x.f.2.2.2.2.2, .slice x.A x.r.length x.cap, .int .i64 0] 151 (0, 0)) :: [many R]) w := by
          revert w
          exact zk
        exact h5.perm (Perm.cons _ (Perm.cons _ hR2))
      have hY := hy _ _ hx [blk g5 (.cells #[.int .i64 lk.1, .int .i64 lk.2.1, .int .i64 lk.2.2] 172 (0, 0))] L hS
      apply YdH _ _ (hy := hY)
      · exact OZ
      · exact rfl
      · exact za
      · exact rfl
      · rintro ⟨_, _, _, _, h, _⟩; cases h
      · rintro _ ⟨L', hS', rfl⟩
        repeat' (first | refine zgd ?_ | fail)
        apply hK (i + 1, L')
        · exact ⟨by show i + 1 + 1 ≤ _; omega, hS'⟩
        · dsimp only; omega
        · exact zu
        · exact fun w hw => hw.tail
      · rintro _ ⟨L', hX', rfl⟩
        repeat' (first | refine zgd ?_ | fail)
        apply Yk (many L' :: HI)
        · exact fun w hw => hw.tail
        apply XU; exact rfl
        exact .inr ⟨L', hX', rfl⟩)
  · repeat' (first | refine zgc ?_ | (refine zge ?_ ?_ <;> intro _ <;> try (exfalso; omega)) | fail)
    apply Xq; exact rfl
    have hl0 : i = (ZE x).length := by unfold ZE; rw [List.length_map, Vp]; omega
    rw [hl0] at hS
    exact .inl ⟨L, hS, rfl⟩
def YkI (g : Nat) : Value := .func (.func 285) #[] #[.pointer (some ⟨g, 0, none⟩)]
theorem Yap (x : WayM) {B : Nat} {w0 : World} {H : List HP} {w : World} (hw : St B w0 H w) :
    Calls Tryz.prog 248 [x.val].toArray w (Post B w0 fun v K => ∃ g, v = YkI g ∧ K = wayB g x :: H) := by
  refine Yf Tryz.func248 Tryz.ntmps248 rfl rfl hw ?_
  unfold WayM.val
  repeat' (first | (apply zg29; (apply Yj; exact za ; exact rfl)) | refine zga ?_ | (refine zgh ?_; intro _) | fail)
  apply Yg; exact rfl; exact rfl
  exact ⟨_, rfl, rfl⟩
open Go.RowKit Go.Eng Go.Nw Go.Rt
theorem YdS (x : WayM) (l : Lk) (g gl : Nat) (c : Cel) {B : Nat} {w0 : World} {H : List HP} {w : World} (hm : wayB g x ∈ H) (hml : blk gl (.cells #[.int .i64 l.1, .int .i64 l.2.1, .int .i64 l.2.2] 172 (0, 0)) ∈ H) (hw : St B w0 H w) :
    Calls Tryz.prog 287 [celV c, .pointer (some ⟨g, 0, none⟩), .pointer (some ⟨gl, 0, none⟩)].toArray w (Post B w0 fun v K => v = .bool (!(onP x.f.1 l.1 l.2.1 c)) ∧ K = H) := by
  refine Yf Tryz.func287 Tryz.ntmps287 rfl rfl hw ?_
  unfold wayB at hm
  have hb : onP x.f.1 l.1 l.2.1 c = true ↔ c.2.2.2.2 = x.f.1 ∧ c.2.2.1 = l.1 ∧ c.2.2.2.1 = l.2.1 := by unfold onP Xo Yz toC; rw [decide_eq_true_eq]
  obtain ⟨b, hbe⟩ : ∃ b, onP x.f.1 l.1 l.2.1 c = b := ⟨_, rfl⟩
  rw [hbe] at hb ⊢
  repeat' (first | refine zgc ?_ | (refine zge ?_ ?_ <;> intro _ <;> try (exfalso; omega)) | (refine zgh ?_; intro _) | fail)
  all_goals (
    apply Yk H
    · exact zk
    apply Yg; exact rfl; exact rfl
    cases b <;> simp at hb <;> first | exact ⟨rfl, rfl⟩ | (exfalso; omega))
set_option maxRecDepth 10000 in
theorem Yfk (x : WayM) (l : Lk) (hfew : x.s.cells.length ≤ 1000) {B : Nat} {w0 : World} {H : List HP} {w : World} (hr : Rd B w0 H x.s.A (x.s.cells.flatMap celF)) (hw : St B w0 H w) :
    Calls Tryz.prog 249 [x.val, lkV l].toArray w (Post B w0 fun v K => ∃ A cap, v = .slice A (Xk x.s.sch x.f.1 l).length cap ∧ K = cels A cap (Xk x.s.sch x.f.1 l) :: H) := by
  refine Yf Tryz.func249 Tryz.ntmps249 rfl rfl hw ?_
  unfold WayM.val lkV
  repeat' (first | refine zga ?_ | (refine zgh ?_; intro _) | fail)
  rename_i gw gl
  apply Yr _ en64
  exact za
  exact rfl
  exact fun _ hw => (YdZ x.s.cells (by omega) hr.cons.cons (hw))
  rintro _ _ ⟨A', cap', rfl, rfl⟩
  repeat' (first | (apply zg29; (apply Yj; exact za ; exact rfl)) | fail)
  apply Yr _ Ymv
  exact za
  exact rfl
  exact fun _ hw => (Yd6 (fun c => !(onP x.f.1 l.1 l.2.1 c)) x.s.cells 287 [.pointer (some ⟨gw, 0, none⟩), .pointer (some ⟨gl, 0, none⟩)] Ymw hfew (fun c _ X w hw => YdS x l gw gl c (List.mem_append_right _ (by unfold wayB; exact zm)) (List.mem_append_right _ zm) hw) (hw))
  rintro _ _ ⟨rfl, rfl⟩
  have e : x.s.cells.filter (fun c => !!(onP x.f.1 l.1 l.2.1 c)) = Xk x.s.sch x.f.1 l := List.filter_congr fun c _ => Bool.not_not _
  rw [e]
  repeat' (first | refine zga ?_ | fail)
  apply Yk (cels A' cap' (Xk x.s.sch x.f.1 l) :: H)
  · exact zk
  apply Yg; exact rfl; exact rfl
  exact ⟨A', cap', rfl, rfl⟩
theorem Wv {x : WayM} (hok : VX x) {i : Nat} {l : Lk} (h : (YB x.n.net x.r)[i]? = some l) : i + 1 < x.r.length ∧ 0 ≤ l.2.2 ∧ l.2.2 ≤ 7 := by
  have hi := (List.getElem?_eq_some_iff.1 h).1
  rw [Vp] at hi
  have hi : i + 1 < x.r.length := by omega
  rw [U5 hi] at h
  have hg := hok.good i hi
  have h1 := (Xe hok.ck).lk _ (ZJ (Ux hg))
  have e := Option.some.inj h
  unfold X0 at e
  have h2 := h1.l0; have h3 := h1.l1
  rw [e] at h2 h3
  exact ⟨hi, h2, h3⟩
theorem Yb5 {ls : List Lk} {i : Nat} {l : Lk} (h : ls[i]? = some l) : Y8 (ls.take (i + 1)) = Y8 (ls.take i) + YL l := by
  unfold Y8
  rw [List.take_add_one, h, List.map_append, List.sum_append]
  simp
theorem Vo {x : WayM} {i : Nat} {args : List Value} (h : (ZE x)[i]? = some args) : ∃ l, (YB x.n.net x.r)[i]? = some l ∧ args = [lkV l] := by
  unfold ZE at h
  rw [List.getElem?_map] at h
  cases hl : (YB x.n.net x.r)[i]? with
  | none => rw [hl] at h; cases h
  | some l => rw [hl] at h; exact ⟨l, rfl, (Option.some.inj h).symm⟩
theorem Qg {x : WayM} (hok : VX x) : ∀ i, Y8 ((YB x.n.net x.r).take i) ≤ 8 * i
  | 0 => Nat.le_refl _
  | i + 1 => by
    have ih := Qg hok i
    cases h : (YB x.n.net x.r)[i]? with
    | none =>
      have := List.getElem?_eq_none_iff.1 h
      rw [List.take_of_length_le (by omega)] at ih ⊢
      omega
    | some l =>
      rw [Yb5 h]
      have := Wv hok h
      unfold YL
      omega
set_option maxRecDepth 10000 in
set_option maxHeartbeats 1000000 in
theorem Yev (x : WayM) (hok : VX x) {B : Nat} {w0 : World} {H : List HP} {w : World} (hi : x.In B w0 H) (hw : St B w0 H w) :
    Calls Tryz.prog 208 [x.val].toArray w (Post B w0 fun v K => v = .int .i64 (Y8 (YB x.n.net x.r)) ∧ K = H) := by
  refine XF Tryz.func208 Tryz.ntmps208 rfl rfl hw ?_
  unfold WayM.val
  repeat' (first | refine zgd ?_ | (refine zgh ?_; intro _) | fail)
  rename_i g gN
  apply Yr _ Yk6
  exact za
  exact rfl
  exact fun _ hw => (Yap x (hw))
  rintro _ _ ⟨g2, rfl, rfl⟩
  repeat' (first | refine zgb ?_ | fail)
  have hl9 := hok.len
  have hiK : x.In B w0 (wayB g2 x :: wayB g x :: H) := hi.cons.cons
  refine XG (gf := 285) (lb := [.pointer (some ⟨g2, 0, none⟩)]) (xs := ZE x) (wayB g2 x :: wayB g x :: H) (fun z : Int => [blk gN (.cells #[.int .i64 z] 3 (0, 0))]) (fun i z => z = (Y8 ((YB x.n.net x.r).take i) : Int)) (fun _ _ => False) 0 rfl Yk8 (OI x g2 hok hiK (.head _)) rfl ?_ (by kernel_rfl) (by kernel_rfl) ?_ rfl ?_ ?_ (fun _ _ _ h => h.elim)
  · intro args h
    obtain ⟨k, hk⟩ := List.mem_iff_getElem?.1 h
    obtain ⟨l, _, rfl⟩ := Vo hk
    rfl
  · unfold wayB
    simp only [List.cons_append, List.nil_append]
    exact zk
  · rintro l k args R z hk hI
    obtain ⟨lk, hlk, rfl⟩ := Vo hk
    have hbd := Wv hok hlk
    have hne := Qg hok k
    have hst := Yb5 hlk
    try dsimp only at hI
    dsimp only [Vx, List.cons_append, List.nil_append]
    unfold lkV
    repeat' (first | refine zgd ?_ | (refine zgh ?_; intro _) | fail)
    apply Ja (Yc Ye)
    intro R'
    unfold wayB
    repeat' (first | refine zgd ?_ | fail)
    apply JA (z + (lk.2.2 + 1))
    · show z + (lk.2.2 + 1) = _
      rw [hI, hst]
      unfold YL
      omega
    · dsimp only [List.cons_append, List.nil_append]
      exact zk
  · rintro D z hI
    try dsimp only at hI
    have hle : (ZE x).length = (YB x.n.net x.r).length := by unfold ZE; rw [List.length_map]
    rw [hle, List.take_length] at hI
    dsimp only [List.cons_append, List.nil_append]
    unfold wayB
    repeat' (first | refine zgc ?_ | fail)
    apply Zf Ye
    apply VQ_m
    apply Yk H
    · exact zk
    apply Yg; exact rfl; exact rfl
    exact ⟨by rw [hI], rfl⟩
open Go.RowKit Go.Eng Go.Nw Go.Rt
theorem Zn (l m : List Int) (hlen : l.length ≤ 1000000000000) (_hlen2 : m.length ≤ 1000000000000) {A A2 : Option Addr} {cap cap2 B : Nat} {w0 : World} {H : List HP} {w : World} (hr : Rd B w0 H A (l.flatMap numF)) (hr2 : Rd B w0 H A2 (m.flatMap numF)) (hw : St B w0 H w) :
    Calls Tryz.prog 126 [.slice A l.length cap, .slice A2 m.length cap2].toArray w (Post B w0 fun u K => u = .bool (decide (l = m)) ∧ K = H) := by
  refine Yf Tryz.func126 Tryz.ntmps126 rfl rfl hw ?_
  by_cases hll : l.length = m.length
  rotate_left
  · repeat' (first | refine zgb ?_ | (refine zge ?_ ?_ <;> intro _ <;> try (exfalso; omega)) | fail)
    apply Yg; exact rfl; exact rfl
    exact ⟨by rw [decide_eq_false fun e => hll (by rw [e])], rfl⟩
  repeat' (first | refine zgb ?_ | (refine zge ?_ ?_ <;> intro _ <;> try (exfalso; omega)) | fail)
  refine Yn (fun (k : Nat) => [(5, .int .i64 k), (0, .slice A l.length cap), (1, .slice A2 m.length cap2)]) (fun _ => H) (fun k => k ≤ l.length ∧ l.take k = m.take k) (fun k => l.length - k) 0 ⟨Nat.zero_le _, by simp⟩ ?_ (fun w hw => hw) ?_
  · exact zu
  rintro k ⟨hk, hi⟩ K hK
  by_cases hlt : k < l.length
  · obtain ⟨a, ha⟩ : ∃ a, l[k]? = some a := ⟨_, List.getElem?_eq_getElem hlt⟩
    obtain ⟨b, hb⟩ : ∃ b, m[k]? = some b := ⟨_, List.getElem?_eq_getElem (by omega)⟩
    by_cases hab : a = b
    · repeat' (first | refine zgd ?_ | (refine zge ?_ ?_ <;> intro _ <;> try (exfalso; omega)) | fail)
      apply hK (k + 1)
      · exact ⟨by omega, by rw [Jd ha, Jd hb, hi, hab]⟩
      · omega
      · exact zu
      · exact fun w hw => hw
    · repeat' (first | refine zgd ?_ | (refine zge ?_ ?_ <;> intro _ <;> try (exfalso; omega)) | fail)
      apply Yg; exact rfl; exact rfl
      exact ⟨by rw [decide_eq_false fun e => by rw [e, hb] at ha; exact hab (Option.some.inj ha).symm], rfl⟩
  · repeat' (first | refine zgc ?_ | (refine zge ?_ ?_ <;> intro _ <;> try (exfalso; omega)) | fail)
    apply Yg; exact rfl; exact rfl
    rw [List.take_of_length_le (by omega), List.take_of_length_le (by omega)] at hi
    exact ⟨by rw [decide_eq_true hi], rfl⟩
theorem O9 (l m : List RowM) (hlen : l.length ≤ 1000000000000) (_hlen2 : m.length ≤ 1000000000000) (hl2 : ∀ r ∈ l, r.xs.length ≤ 1000000000000) (hm2 : ∀ r ∈ m, r.xs.length ≤ 1000000000000) {A A2 : Option Addr} {cap cap2 B : Nat} {w0 : World} {H : List HP} {w : World} (hr : Rd B w0 H A (l.flatMap rowF)) (hr2 : Rd B w0 H A2 (m.flatMap rowF)) (hrl : ∀ r ∈ l, Rd B w0 H r.A (r.xs.flatMap numF)) (hrm : ∀ r ∈ m, Rd B w0 H r.A (r.xs.flatMap numF)) (hw : St B w0 H w) :
    Calls Tryz.prog 129 [.slice A l.length cap, .slice A2 m.length cap2].toArray w (Post B w0 fun u K => u = .bool (decide (l.map (·.xs) = m.map (·.xs))) ∧ K = H) := by
  refine Yf Tryz.func129 Tryz.ntmps129 rfl rfl hw ?_
  by_cases hll : l.length = m.length
  rotate_left
  · repeat' (first | refine zgb ?_ | (refine zge ?_ ?_ <;> intro _ <;> try (exfalso; omega)) | fail)
    apply Yg; exact rfl; exact rfl
    exact ⟨by rw [decide_eq_false fun e => hll (by have := congrArg List.length e; simpa using this)], rfl⟩
  repeat' (first | refine zgb ?_ | (refine zge ?_ ?_ <;> intro _ <;> try (exfalso; omega)) | fail)
  refine Yn (fun (k : Nat) => [(5, .int .i64 k), (0, .slice A l.length cap), (1, .slice A2 m.length cap2)]) (fun _ => H) (fun k => k ≤ l.length ∧ (l.take k).map (·.xs) = (m.take k).map (·.xs)) (fun k => l.length - k) 0 ⟨Nat.zero_le _, by simp⟩ ?_ (fun w hw => hw) ?_
  · exact zu
  rintro k ⟨hk, hi⟩ K hK
  by_cases hlt : k < l.length
  · obtain ⟨a, ha⟩ : ∃ a, l[k]? = some a := ⟨_, List.getElem?_eq_getElem hlt⟩
    obtain ⟨b, hb⟩ : ∃ b, m[k]? = some b := ⟨_, List.getElem?_eq_getElem (by omega)⟩
    have ham := List.mem_of_getElem? ha
    have hbm := List.mem_of_getElem? hb
    have hss := fun {w : World} (hw : St B w0 H w) => Zn a.xs b.xs (cap := a.cap) (cap2 := b.cap) (hl2 a ham) (hm2 b hbm) (hrl a ham) (hrm b hbm) hw
    by_cases hab : a.xs = b.xs
    · rw [decide_eq_true hab] at hss
      repeat' (first | ((first | apply Ya XM | apply Yb XM); exact za; exact rfl; exact fun _ hw => (hss hw)) | refine zgd ?_ | (refine zge ?_ ?_ <;> intro _ <;> try (exfalso; omega)) | fail)
      apply hK (k + 1)
      · exact ⟨by omega, by rw [List.take_add_one, List.take_add_one, ha, hb, List.map_append, List.map_append, hi]; simp [hab]⟩
      · omega
      · exact zu
      · exact fun w hw => hw
    · rw [decide_eq_false hab] at hss
      repeat' (first | ((first | apply Ya XM | apply Yb XM); exact za; exact rfl; exact fun _ hw => (hss hw)) | refine zgd ?_ | (refine zge ?_ ?_ <;> intro _ <;> try (exfalso; omega)) | fail)
      apply Yg; exact rfl; exact rfl
      have hne : ¬ (l.map (·.xs) = m.map (·.xs)) := fun e => by
        have h1 : (l.map (·.xs))[k]? = (m.map (·.xs))[k]? := by rw [e]
        rw [List.getElem?_map, List.getElem?_map, ha, hb] at h1
        exact hab (Option.some.inj h1)
      exact ⟨by rw [decide_eq_false hne], rfl⟩
  · repeat' (first | refine zgc ?_ | (refine zge ?_ ?_ <;> intro _ <;> try (exfalso; omega)) | fail)
    apply Yg; exact rfl; exact rfl
    rw [List.take_of_length_le (by omega), List.take_of_length_le (by omega)] at hi
    exact ⟨by rw [decide_eq_true hi], rfl⟩
def rowQ (r : RowM) : HP := ints r.A r.cap r.xs
open Go.RowKit Go.Eng Go.Nw Go.Rt
structure RqM where
  f : Flw
  A : Option Addr
  cap : Nat
  rows : List RowM
def rqF (x : RqM) : List Value := [.int .i64 x.f.1, .int .i64 x.f.2.1, .int .i64 x.f.2.2.1, .int .i64 x.f.2.2.2.1, .int .i64 x.f.2.2.2.2.1, .int .i64 x.f.2.2.2.2.2, .slice x.A x.rows.length x.cap]
def rqV (x : RqM) : Value := .agg #[.int .i64 x.f.1, .int .i64 x.f.2.1, .int .i64 x.f.2.2.1, .int .i64 x.f.2.2.2.1, .int .i64 x.f.2.2.2.2.1, .int .i64 x.f.2.2.2.2.2, .slice x.A x.rows.length x.cap]
def RqM.rq (x : RqM) : Rqs := (x.f, x.rows.map (·.xs))
abbrev netA (g : Nat) (n : NetM) : HP := blk g (.cells #[.int .i64 n.nodes, .slice n.pA n.rows.length n.pcap, .int .i64 n.noise, .int .i64 n.thr, .slice n.lA n.links.length n.lcap, .slice n.mA n.margin.length n.mcap] 26 (0, 0))
abbrev schA (g : Nat) (s : SchM) : HP := blk g (.cells #[.int .i64 s.len, .int .i64 s.off, .slice s.A s.cells.length s.cap] 30 (0, 0))
abbrev rqA (g : Nat) (x : RqM) : HP := blk g (.cells #[.int .i64 x.f.1, .int .i64 x.f.2.1, .int .i64 x.f.2.2.1, .int .i64 x.f.2.2.2.1, .int .i64 x.f.2.2.2.2.1, .int .i64 x.f.2.2.2.2.2, .slice x.A x.rows.length x.cap] 70 (0, 0))
structure RqM.In (B : Nat) (w0 : World) (H : List HP) (x : RqM) : Prop where
  rt : Rd B w0 H x.A (x.rows.flatMap rowF)
  rw_ : ∀ r ∈ x.rows, Rd B w0 H r.A (r.xs.flatMap numF)
  ln : x.rows.length ≤ 1000000000000
  rl : ∀ r ∈ x.rows, r.xs.length ≤ 1000000000000 ∧ r.xs.length ≤ r.cap
theorem RqM.In.mono {B : Nat} {w0 : World} {H H' : List HP} {x : RqM} (h : x.In B w0 H) (hH : ∀ w, St B w0 H' w → St B w0 H w) : x.In B w0 H' := ⟨h.rt.mono hH, fun r hr => (h.rw_ r hr).mono hH, h.ln, h.rl⟩
theorem RqM.In.cons {B : Nat} {w0 : World} {H : List HP} {X : HP} {x : RqM} (h : x.In B w0 H) : x.In B w0 (X :: H) := h.mono fun _ hw => hw.tail
structure QIn (B : Nat) (w0 : World) (H : List HP) (A : Option Addr) (q : List RqM) : Prop where
  rd : Rd B w0 H A (q.flatMap rqF)
  x : ∀ x ∈ q, x.In B w0 H
  ln : q.length ≤ 1000000000000
theorem QIn.mono {B : Nat} {w0 : World} {H H' : List HP} {A : Option Addr} {q : List RqM} (h : QIn B w0 H A q) (hH : ∀ w, St B w0 H' w → St B w0 H w) : QIn B w0 H' A q := ⟨h.rd.mono hH, fun x hx => (h.x x hx).mono hH, h.ln⟩
theorem QIn.cons {B : Nat} {w0 : World} {H : List HP} {X : HP} {A : Option Addr} {q : List RqM} (h : QIn B w0 H A q) : QIn B w0 (X :: H) A q := h.mono fun _ hw => hw.tail
structure ClM where
  flow : Int
  rA : Option Addr
  rcap : Nat
  rs : List RowM
  bA : Option Addr
  bcap : Nat
  bs : List Int
  wA : Option Addr
  wcap : Nat
  ws : List Int
  sA : Option Addr
  scap : Nat
  ss : List RowM
def clF (c : ClM) : List Value := [.int .i64 c.flow, .slice c.rA c.rs.length c.rcap, .slice c.bA c.bs.length c.bcap, .slice c.wA c.ws.length c.wcap, .slice c.sA c.ss.length c.scap]
def clV (c : ClM) : Value := .agg #[.int .i64 c.flow, .slice c.rA c.rs.length c.rcap, .slice c.bA c.bs.length c.bcap, .slice c.wA c.ws.length c.wcap, .slice c.sA c.ss.length c.scap]
def ClM.clm (c : ClM) : Clm := ⟨c.flow, c.rs.map (·.xs), c.bs, c.ws, c.ss.map (·.xs)⟩
structure ClM.In (B : Nat) (w0 : World) (H : List HP) (c : ClM) : Prop where
  rt : Rd B w0 H c.rA (c.rs.flatMap rowF)
  rw_ : ∀ r ∈ c.rs, Rd B w0 H r.A (r.xs.flatMap numF)
  bd : Rd B w0 H c.bA (c.bs.flatMap numF)
  ws : Rd B w0 H c.wA (c.ws.flatMap numF)
  st : Rd B w0 H c.sA (c.ss.flatMap rowF)
  sw : ∀ r ∈ c.ss, Rd B w0 H r.A (r.xs.flatMap numF)
  ln : c.rs.length ≤ 1000000000000 ∧ c.bs.length ≤ 1000000000000 ∧ c.ws.length ≤ 1000000000000 ∧ c.ss.length ≤ 1000000000000
  rl : ∀ r ∈ c.rs, r.xs.length ≤ 1000000000000
  sl : ∀ r ∈ c.ss, r.xs.length ≤ 1000000000000
theorem ClM.In.mono {B : Nat} {w0 : World} {H H' : List HP} {c : ClM} (h : c.In B w0 H) (hH : ∀ w, St B w0 H' w → St B w0 H w) : c.In B w0 H' :=
  ⟨h.rt.mono hH, fun r hr => (h.rw_ r hr).mono hH, h.bd.mono hH, h.ws.mono hH, h.st.mono hH, fun r hr => (h.sw r hr).mono hH, h.ln, h.rl, h.sl⟩
theorem ClM.In.cons {B : Nat} {w0 : World} {H : List HP} {X : HP} {c : ClM} (h : c.In B w0 H) : c.In B w0 (X :: H) := h.mono fun _ hw => hw.tail
structure CIn (B : Nat) (w0 : World) (H : List HP) (A : Option Addr) (c : List ClM) : Prop where
  rd : Rd B w0 H A (c.flatMap clF)
  x : ∀ x ∈ c, x.In B w0 H
  ln : c.length ≤ 1000000000000
theorem CIn.mono {B : Nat} {w0 : World} {H H' : List HP} {A : Option Addr} {c : List ClM} (h : CIn B w0 H A c) (hH : ∀ w, St B w0 H' w → St B w0 H w) : CIn B w0 H' A c := ⟨h.rd.mono hH, fun x hx => (h.x x hx).mono hH, h.ln⟩
theorem CIn.cons {B : Nat} {w0 : World} {H : List HP} {X : HP} {A : Option Addr} {c : List ClM} (h : CIn B w0 H A c) : CIn B w0 (X :: H) A c := h.mono fun _ hw => hw.tail
def clP (c : ClM) : List HP := [sl 72 1 c.rA c.rs.length c.rcap (c.rs.flatMap rowF), many (c.rs.map rowQ), nrs c.bA c.bcap c.bs, nrs c.wA c.wcap c.ws, sl 24 1 c.sA c.ss.length c.scap (c.ss.flatMap rowF), many (c.ss.map rowQ)]
def clQ (c : ClM) : HP := many (clP c)
def nilC (f : Int) : ClM := ⟨f, none, 0, [], none, 0, [], none, 0, [], none, 0, []⟩
theorem Ylu {c : ClM} {B : Nat} {w0 : World} {H : List HP} (hm : clQ c ∈ H) (hl : (c.rs.length ≤ 1000000000000 ∧ c.bs.length ≤ 1000000000000 ∧ c.ws.length ≤ 1000000000000 ∧ c.ss.length ≤ 1000000000000) ∧ (∀ r ∈ c.rs, r.xs.length ≤ 1000000000000) ∧ ∀ r ∈ c.ss, r.xs.length ≤ 1000000000000) : c.In B w0 H := by
  have hb : ∀ w, St B w0 H w → St B w0 (clP c) w := fun w hw => hw.inM hm
  refine ClM.In.mono (H := clP c) ?_ hb
  unfold clP
  refine ⟨.sl (.head _), fun r hr => ?_, .sl (.tail _ (.tail _ (.head _))), .sl (.tail _ (.tail _ (.tail _ (.head _)))), .sl (.tail _ (.tail _ (.tail _ (.tail _ (.head _))))), fun r hr => ?_, hl.1, hl.2.1, hl.2.2⟩
  · exact Rd.many (L := c.rs.map rowQ) (.tail _ (.head _)) (List.mem_map_of_mem hr)
  · exact Rd.many (L := c.ss.map rowQ) (.tail _ (.tail _ (.tail _ (.tail _ (.tail _ (.head _)))))) (List.mem_map_of_mem hr)
theorem Yau {B : Nat} {w0 w : World} {H : List HP} (f : Int) (h : St B w0 H w) : St B w0 (clQ (nilC f) :: H) w := by
  unfold clQ clP nilC
  dsimp only [List.flatMap_nil, List.map_nil, List.length_nil]
  have h1 := (h.perm (.noMany H)).nilSlice 24 1
  have h2 := (((h1.nilSlice 3 1).nilSlice 3 1).perm (.noMany _)).nilSlice 72 1
  exact h2.perm (.close [_, _, _, _, _, _] H)
open Go.RowKit Go.Eng Go.Nw Go.Rt
abbrev flws (A : Option Addr) (cap : Nat) (l : List Flw) : HP := sl 68 6 A l.length cap (l.flatMap flwF)
theorem YbQ (A : Option Addr) (cap : Nat) (l : List Flw) (f : Flw) : sl 68 6 A (l.length + 1) cap (l.flatMap flwF ++ #[.int .i64 f.1, .int .i64 f.2.1, .int .i64 f.2.2.1, .int .i64 f.2.2.2.1, .int .i64 f.2.2.2.2.1, .int .i64 f.2.2.2.2.2].toList) = flws A cap (l ++ [f]) := by simp [flws, List.flatMap_append, flwF]
structure FlM where
  i : Nat
  A : Option Addr
  cap : Nat
def RqM.fl (q : List RqM) : List Flw := q.map (·.f)
set_option maxRecDepth 10000 in
theorem Ov (q : List RqM) {A : Option Addr} {cap B : Nat} {w0 : World} {H : List HP} {w : World} (hl : q.length ≤ 1000000000000) (hr : Rd B w0 H A (q.flatMap rqF)) (hw : St B w0 H w) :
    Calls Tryz.prog 68 [.slice A q.length cap].toArray w (Post B w0 fun v K => ∃ A2 cap2, v = .slice A2 (RqM.fl q).length cap2 ∧ K = flws A2 cap2 (RqM.fl q) :: H) := by
  refine Yf Tryz.func68 Tryz.ntmps68 rfl rfl hw ?_
  repeat' (first | refine zgb ?_ | fail)
  refine ZL 68 6 ?_
  refine Yn (fun z : FlM => [(8, .int .i64 (z.i : Nat)), (7, .int .i64 q.length), (6, .slice A q.length cap), (3, .slice z.A (RqM.fl (q.take z.i)).length z.cap)]) (fun z => flws z.A z.cap (RqM.fl (q.take z.i)) :: H) (fun z => z.i ≤ q.length) (fun z => q.length - z.i) ⟨0, none, 0⟩ (Nat.zero_le _) ?_ (fun w hw => hw) ?_
  · exact zu
  rintro ⟨i, A2, cap2⟩ hi K hK
  dsimp only at hi ⊢
  have hlen : (RqM.fl (q.take i)).length = i := by unfold RqM.fl; rw [List.length_map, List.length_take]; omega
  have hr' := hr.cons (X := flws A2 cap2 (RqM.fl (q.take i)))
  by_cases hlt : i < q.length
  · obtain ⟨x, hx⟩ : ∃ x, q[i]? = some x := ⟨_, List.getElem?_eq_getElem hlt⟩
    have hst : RqM.fl (q.take (i + 1)) = RqM.fl (q.take i) ++ [x.f] := by unfold RqM.fl; rw [List.take_add_one, hx, Option.toList_some, List.map_append]; rfl
    repeat' (first | (apply YW T; exact rfl; exact zm; exact rfl; exact zv; exact rfl; exact rfl) | refine zgd ?_ | (refine zge ?_ ?_ <;> intro _ <;> try (exfalso; omega)) | (refine zgh ?_; intro _) | (refine zgi ?_; intro _ _) | fail)
    rename_i A' cap'
    rw [YbQ, ← hst, show (RqM.fl (q.take i)).length + 1 = (RqM.fl (q.take (i + 1))).length from by rw [hst]; simp]
    apply hK ⟨i + 1, A', cap'⟩
    · show i + 1 ≤ _
      omega
    · dsimp only; omega
    · exact zu
    · exact zk
  · obtain rfl : i = q.length := by omega
    rw [List.take_length]
    repeat' (first | refine zgc ?_ | (refine zge ?_ ?_ <;> intro _ <;> try (exfalso; omega)) | fail)
    apply Yg; exact rfl; exact rfl
    exact ⟨A2, cap2, rfl, rfl⟩
theorem YaF {x : RqM} {k : Nat} {r : RowM} (h : x.rows[k]? = some r) : rtAt x.rq.2 k = r.xs := by
  have h2 : x.rq.2[k]? = some r.xs := by
    show (x.rows.map (·.xs))[k]? = _
    rw [List.getElem?_map, h]; rfl
  exact Option.some.inj ((Oc (List.getElem?_eq_some_iff.1 h2).1).symm.trans h2)
set_option maxRecDepth 10000 in
set_option maxHeartbeats 4000000 in
theorem WN (n : NetM) (x : RqM) {B : Nat} {w0 : World} {H : List HP} {w : World} (hin : n.In B w0 H) (hx : x.In B w0 H) (hw : St B w0 H w) :
    Calls Tryz.prog 121 [n.val, rqV x].toArray w (Post B w0 fun v K => v = .int .i64 (rtsE n.net x.rq) ∧ K = H) := by
  refine Yf Tryz.func121 Tryz.ntmps121 rfl rfl hw ?_
  have hln : x.rq.2.length = x.rows.length := by unfold RqM.rq; rw [List.length_map]
  have hlx := hx.ln
  have e1 : x.rq.1 = x.f := rfl
  unfold rtsE
  rw [hln, e1]
  have p1 := fun {H' : List HP} {w : World} (r : RowM) (hr : r ∈ x.rows) (hin : n.In B w0 H') (hx : x.In B w0 H') (hw : St B w0 H' w) => Qp n x.f.2.1 x.f.2.2.1 r.xs (cap := r.cap) hin (hx.rw_ r hr) (Nat.le_trans (hx.rl r hr).1 (by decide)) (hx.rl r hr).2 hw
  unfold NetM.val rqV
  by_cases h0 : x.rows.length = 0
  · rw [if_pos h0]
    repeat' (first | refine zgb ?_ | (refine zgf ?_ ?_ <;> intro _ <;> try (exfalso; omega)) | (refine zgh ?_; intro _) | fail)
    apply Yk H
    · exact zk
    apply Yg; exact rfl; exact rfl; exact ⟨rfl, rfl⟩
  rw [if_neg h0]
  by_cases h2 : 2 < x.rows.length
  · rw [if_pos h2]
    repeat' (first | refine zgb ?_ | (refine zgf ?_ ?_ <;> intro _ <;> try (exfalso; omega)) | (refine zgh ?_; intro _) | fail)
    apply Yk H
    · exact zk
    apply Yg; exact rfl; exact rfl; exact ⟨rfl, rfl⟩
  rw [if_neg h2]
  obtain ⟨F, hF⟩ : ∃ F, (fun k => XQ n.net x.f.2.1 x.f.2.2.1 (rtAt x.rq.2 k)) = F := ⟨_, rfl⟩
  rw [hF]
  have hFv : ∀ {k : Nat} {r : RowM}, x.rows[k]? = some r → F k = XQ n.net x.f.2.1 x.f.2.2.1 r.xs := fun h => by rw [← hF]; show XQ _ _ _ _ = _; rw [YaF h]
  repeat' (first | refine zgb ?_ | (refine zgf ?_ ?_ <;> intro _ <;> try (exfalso; omega)) | (refine zgh ?_; intro _) | fail)
  rename_i gn gx _ _
  refine Yn (fun k : Nat => [(19, .int .i64 (k : Nat)), (18, .int .i64 x.rows.length), (17, .slice x.A x.rows.length x.cap), (3, .pointer (some ⟨gx, 0, none⟩)), (2, .pointer (some ⟨gn, 0, none⟩))]) (fun _ => rqA gx x :: netA gn n :: H) (fun k => k ≤ x.rows.length ∧ ∀ j, 0 ≤ j → j < k → F j = 0) (fun k => x.rows.length - k) 0 ⟨Nat.zero_le _, fun j _ h => absurd h (Nat.not_lt_zero _)⟩ ?_ (fun w hw => hw) ?_
  · exact zu
  rintro k ⟨hk, hz⟩ K hK
  have hrt : Rd B w0 (rqA gx x :: netA gn n :: H) x.A (x.rows.flatMap rowF) := hx.rt.cons.cons
  by_cases hlt : k < x.rows.length
  · obtain ⟨r, hr⟩ : ∃ r, x.rows[k]? = some r := ⟨_, List.getElem?_eq_getElem hlt⟩
    have hFk := hFv hr
    have p2 := fun {H' : List HP} {w : World} (hin : n.In B w0 H') (hx : x.In B w0 H') (hw : St B w0 H' w) => p1 r (List.mem_of_getElem? hr) hin hx hw
    rw [← hFk] at p2
    by_cases hFz : F k = 0
    · rw [hFz] at p2
      repeat' (first | ((first | apply Ya YbD | apply Yb YbD); exact za; exact rfl; exact fun _ hw => (p2 (hin.mono zk) (hx.mono zk) hw)) | refine zgd ?_ | (refine zge ?_ ?_ <;> intro _ <;> try (exfalso; omega)) | fail)
      apply hK (k + 1)
      · exact ⟨by omega, fun j h1 h2 => by
          rcases Nat.lt_succ_iff_lt_or_eq.1 h2 with h | rfl
          · exact hz j h1 h
          · exact hFz⟩
      · omega
      · exact zu
      · exact zk
    · have hfe := Xu (f := F) (r := x.rows.length) (i0 := 0) (i := k) (fun j h1 h2 => hz j h1 h2) (Nat.zero_le _) (by omega) hFz
      rw [hfe, if_pos hFz]
      clear hK
      repeat' (first | ((first | apply Ya YbD | apply Yb YbD); exact za; exact rfl; exact fun _ hw => (p2 (hin.mono zk) (hx.mono zk) hw)) | refine zgd ?_ | (refine zge ?_ ?_ <;> intro _ <;> try (exfalso; omega)) | fail)
      apply Yk H
      · exact zk
      apply Yg; exact rfl; exact rfl; exact ⟨rfl, rfl⟩
  · obtain rfl : k = x.rows.length := by omega
    have hfe := X7 (f := F) (r := x.rows.length) (i0 := 0) fun j h1 h2 => hz j h1 (by omega)
    rw [hfe, if_neg (fun e => e rfl)]
    clear hK
    by_cases h3 : x.rows.length = 2
    rotate_left
    · rw [if_neg (fun e => h3 e.1)]
      repeat' (first | refine zgd ?_ | (refine zgf ?_ ?_ <;> intro _ <;> try (exfalso; omega)) | fail)
      apply Yk H
      · exact zk
      apply Yg; exact rfl; exact rfl; exact ⟨rfl, rfl⟩
    obtain ⟨r0, hr0⟩ : ∃ r, x.rows[0]? = some r := ⟨_, List.getElem?_eq_getElem (by omega)⟩
    obtain ⟨r1, hr1⟩ : ∃ r, x.rows[1]? = some r := ⟨_, List.getElem?_eq_getElem (by omega)⟩
    rw [YaF hr0, YaF hr1]
    have p3 := fun {H' : List HP} {w : World} (hx : x.In B w0 H') (hw : St B w0 H' w) => OB r0.xs r1.xs (cap := r0.cap) (cap2 := r1.cap) (Nat.le_trans (hx.rl r0 (List.mem_of_getElem? hr0)).1 (by decide)) (Nat.le_trans (hx.rl r1 (List.mem_of_getElem? hr1)).1 (by decide)) (hx.rw_ r0 (List.mem_of_getElem? hr0)) (hx.rw_ r1 (List.mem_of_getElem? hr1)) hw
    by_cases heq : r0.xs = r1.xs
    · rw [if_pos ⟨h3, heq⟩]
      rw [decide_eq_true heq] at p3
      repeat' (first | refine zgc ?_ | (refine zge ?_ ?_ <;> intro _ <;> try (exfalso; omega)) | fail)
      apply YN [0, 1, 2, 3, 4, 5, 6, 7, 8, 9, 10, 11, 12, 13, 14] []
      kernel_rfl
      kernel_rfl
      (simp only [Yl, nthO]; rfl)
      exact rfl
      repeat' (first | refine zgd ?_ | (refine zgf ?_ ?_ <;> intro _ <;> try (exfalso; omega)) | fail)
      first | apply Ya en33 | apply Yb en33
      exact za
      exact rfl
      exact fun _ hw => (p3 (hx.mono zk) hw)
      repeat' (first | (apply Yi; (repeat (first | with_reducible exact Yh | (with_reducible apply Yd; (repeat (first | with_reducible exact Ye | with_reducible apply Yc)))))) | refine zgd ?_ | fail)
      · show Perm H (H ++ [])
        rw [List.append_nil]; exact Perm.refl _
      repeat' (first | fail)
      apply Yk H
      · exact zk
      apply Yg; exact rfl; exact rfl; exact ⟨rfl, rfl⟩
    · rw [if_neg (fun e => heq e.2)]
      rw [decide_eq_false heq] at p3
      repeat' (first | refine zgc ?_ | (refine zge ?_ ?_ <;> intro _ <;> try (exfalso; omega)) | fail)
      apply YN [0, 1, 2, 3, 4, 5, 6, 7, 8, 9, 10, 11, 12, 13, 14] []
      kernel_rfl
      kernel_rfl
      (simp only [Yl, nthO]; rfl)
      exact rfl
      repeat' (first | refine zgd ?_ | (refine zgf ?_ ?_ <;> intro _ <;> try (exfalso; omega)) | fail)
      first | apply Ya en33 | apply Yb en33
      exact za
      exact rfl
      exact fun _ hw => (p3 (hx.mono zk) hw)
      repeat' (first | (apply Yi; (repeat (first | with_reducible exact Yh | (with_reducible apply Yd; (repeat (first | with_reducible exact Ye | with_reducible apply Yc)))))) | refine zgd ?_ | fail)
      · show Perm H (H ++ [])
        rw [List.append_nil]; exact Perm.refl _
      repeat' (first | fail)
      apply Yk H
      · exact zk
      apply Yg; exact rfl; exact rfl; exact ⟨rfl, rfl⟩
theorem YiQ (q : List RqM) : RqM.fl q = V9 (q.map RqM.rq) := by unfold RqM.fl V9; rw [List.map_map]; rfl
theorem YaD {q : List RqM} {i : Nat} {x : RqM} (h : q[i]? = some x) : rqAt (q.map RqM.rq) i = x.rq := by
  have h2 : (q.map RqM.rq)[i]? = some x.rq := by rw [List.getElem?_map, h]; rfl
  exact Option.some.inj ((Ob (List.getElem?_eq_some_iff.1 h2).1).symm.trans h2)
set_option maxRecDepth 10000 in
set_option maxHeartbeats 4000000 in
theorem Ybh (n : NetM) (q : List RqM) {A : Option Addr} {cap B : Nat} {w0 : World} {H : List HP} {w : World} (hin : n.In B w0 H) (hq : QIn B w0 H A q) (hw : St B w0 H w) :
    Calls Tryz.prog 67 [n.val, .slice A q.length cap].toArray w (Post B w0 fun v K => v = .tuple #[.int .i64 (rqsE n.net (q.map RqM.rq)).1, .int .i64 (rqsE n.net (q.map RqM.rq)).2] ∧ K = H) := by
  refine Yf Tryz.func67 Tryz.ntmps67 rfl rfl hw ?_
  have hql := hq.ln
  have hqr := hq.rd
  have p1 := fun {H' : List HP} {w : World} (hin : n.In B w0 H') (hw : St B w0 H' w) => YT n hin hw
  have p2 := fun {H' : List HP} {w : World} (hq : QIn B w0 H' A q) (hw : St B w0 H' w) => Ov q (cap := cap) hql hq.rd hw
  have p3 := fun {A2 : Option Addr} {cap2 : Nat} {H' : List HP} {w : World} (hr : Rd B w0 H' A2 ((RqM.fl q).flatMap flwF)) (hw : St B w0 H' w) => YU n.nodes (RqM.fl q) (by unfold RqM.fl; rw [List.length_map]; omega) (cap := cap2) hr hw
  unfold rqsE
  rw [← YiQ, List.length_map]
  rw [show n.net.nodes = n.nodes from rfl]
  obtain ⟨c, hc⟩ : ∃ c, YF n.net = c := ⟨_, rfl⟩
  obtain ⟨⟨fi, fe⟩, hf⟩ : ∃ f, YR n.nodes (RqM.fl q) = f := ⟨_, rfl⟩
  obtain ⟨F, hF⟩ : ∃ F, (fun i => rtsE n.net (rqAt (q.map RqM.rq) i)) = F := ⟨_, rfl⟩
  rw [hc] at p1 ⊢
  rw [hf] at p3 ⊢
  rw [hF]
  dsimp only at p3 ⊢
  have hFv : ∀ {k : Nat} {x : RqM}, q[k]? = some x → F k = rtsE n.net x.rq := fun h => by rw [← hF]; show rtsE _ _ = _; rw [YaD h]
  unfold NetM.val
  by_cases h0 : c = 0
  rotate_left
  · rw [if_pos h0]
    repeat' (first | ((first | apply Ya en50 | apply Yb en50); exact za; exact rfl; exact fun _ hw => (p1 hin.cons hw)) | refine zgc ?_ | (refine zge ?_ ?_ <;> intro _ <;> try (exfalso; omega)) | (refine zgh ?_; intro _) | fail)
    apply Yk H
    · exact zk
    apply Yt; exact rfl; exact rfl; exact rfl; exact ⟨rfl, rfl⟩
  subst h0
  rw [if_neg (fun e => e rfl)]
  by_cases h1 : fe = 0
  rotate_left
  · rw [if_pos h1]
    repeat' (first | ((first | apply Ya en50 | apply Yb en50); exact za; exact rfl; exact fun _ hw => (p1 hin.cons hw)) | refine zgc ?_ | (refine zge ?_ ?_ <;> intro _ <;> try (exfalso; omega)) | (refine zgh ?_; intro _) | fail)
    apply Y0 [0, 1, 2, 3, 4, 5, 6, 7, 8, 9] [] [true]
    kernel_rfl
    kernel_rfl
    exact zy
    (simp only [Yl, nthO]; rfl)
    exact rfl
    repeat' (first | refine zgd ?_ | fail)
    apply Yr _ en68
    exact za
    exact rfl
    exact fun _ hw => (p2 (hq.mono zk) (hw))
    rintro _ _ ⟨A2, cap2, rfl, rfl⟩
    repeat' (first | (apply Yi; (repeat (first | with_reducible exact Yh | (with_reducible apply Yd; (repeat (first | with_reducible exact Ye | with_reducible apply Yc)))))) | refine zgd ?_ | fail)
    first | apply Ya en51 | apply Yb en51
    exact za
    exact rfl
    exact fun _ hw => (p3 (Rd.sl zm) hw)
    repeat' (first | (apply Yi; (repeat (first | with_reducible exact Yh | (with_reducible apply Yd; (repeat (first | with_reducible exact Ye | with_reducible apply Yc)))))) | refine zgd ?_ | (refine zge ?_ ?_ <;> intro _ <;> try (exfalso; omega)) | fail)
    apply Yk H
    · exact zk
    apply Yt; exact rfl; exact rfl; exact rfl; exact ⟨rfl, rfl⟩
  subst h1
  rw [if_neg (fun e => e rfl)]
  repeat' (first | ((first | apply Ya en50 | apply Yb en50); exact za; exact rfl; exact fun _ hw => (p1 hin.cons hw)) | refine zgc ?_ | (refine zge ?_ ?_ <;> intro _ <;> try (exfalso; omega)) | (refine zgh ?_; intro _) | fail)
  first | (rename_i gn; guard_hyp gn : Nat) | (rename_i gn _; guard_hyp gn : Nat) | (rename_i gn _ _; guard_hyp gn : Nat)
  apply Y0 [0, 1, 2, 3, 4, 5, 6, 7, 8, 9] [] [true]
  kernel_rfl
  kernel_rfl
  exact zy
  (simp only [Yl, nthO]; rfl)
  exact rfl
  repeat' (first | refine zgd ?_ | fail)
  apply Yr _ en68
  exact za
  exact rfl
  exact fun _ hw => (p2 (hq.mono zk) (hw))
  rintro _ _ ⟨A2, cap2, rfl, rfl⟩
  repeat' (first | (apply Yi; (repeat (first | with_reducible exact Yh | (with_reducible apply Yd; (repeat (first | with_reducible exact Ye | with_reducible apply Yc)))))) | refine zgd ?_ | fail)
  first | apply Ya en51 | apply Yb en51
  exact za
  exact rfl
  exact fun _ hw => (p3 (Rd.sl zm) hw)
  repeat' (first | (apply Yi; (repeat (first | with_reducible exact Yh | (with_reducible apply Yd; (repeat (first | with_reducible exact Ye | with_reducible apply Yc)))))) | refine zgd ?_ | (refine zge ?_ ?_ <;> intro _ <;> try (exfalso; omega)) | fail)
  refine Yn (fun k : Nat => [(28, .int .i64 (k : Nat)), (27, .int .i64 q.length), (26, .slice A q.length cap), (2, .pointer (some ⟨gn, 0, none⟩))]) (fun _ => netA gn n :: H) (fun k => k ≤ q.length ∧ ∀ j, 0 ≤ j → j < k → F j = 0) (fun k => q.length - k) 0 ⟨Nat.zero_le _, fun j _ h => absurd h (Nat.not_lt_zero _)⟩ ?_ ?_ ?_
  · exact zu
  · exact zk
  rintro k ⟨hk, hz⟩ K hK
  have hqr' : Rd B w0 (netA gn n :: H) A (q.flatMap rqF) := hqr.cons
  by_cases hlt : k < q.length
  · obtain ⟨x, hx⟩ : ∃ x, q[k]? = some x := ⟨_, List.getElem?_eq_getElem hlt⟩
    have hFk := hFv hx
    have hxi := hq.x x (List.mem_of_getElem? hx)
    have p4 := fun {H' : List HP} {w : World} (hin : n.In B w0 H') (hx : x.In B w0 H') (hw : St B w0 H' w) => WN n x hin hx hw
    rw [← hFk] at p4
    by_cases hFz : F k = 0
    · rw [hFz] at p4
      repeat' (first | ((first | apply Ya Ygn | apply Yb Ygn); exact za; exact rfl; exact fun _ hw => (p4 (hin.mono zk) (hxi.mono zk) hw)) | refine zgd ?_ | (refine zge ?_ ?_ <;> intro _ <;> try (exfalso; omega)) | (refine zgh ?_; intro _) | fail)
      apply hK (k + 1)
      · exact ⟨by omega, fun j h1 h2 => by
          rcases Nat.lt_succ_iff_lt_or_eq.1 h2 with h | rfl
          · exact hz j h1 h
          · exact hFz⟩
      · omega
      · exact zu
      · exact zk
    · have hfe := Xu (f := F) (r := q.length) (i0 := 0) (i := k) (fun j h1 h2 => hz j h1 h2) (Nat.zero_le _) (by omega) hFz
      rw [hfe]
      clear hK
      repeat' (first | ((first | apply Ya Ygn | apply Yb Ygn); exact za; exact rfl; exact fun _ hw => (p4 (hin.mono zk) (hxi.mono zk) hw)) | refine zgd ?_ | (refine zge ?_ ?_ <;> intro _ <;> try (exfalso; omega)) | (refine zgh ?_; intro _) | fail)
      apply Yk H
      · exact zk
      apply Yt; exact rfl; exact rfl; exact rfl; exact ⟨rfl, rfl⟩
  · obtain rfl : k = q.length := by omega
    have hfe := X7 (f := F) (r := q.length) (i0 := 0) fun j h1 h2 => hz j h1 (by omega)
    rw [hfe]
    clear hK
    repeat' (first | refine zgc ?_ | (refine zge ?_ ?_ <;> intro _ <;> try (exfalso; omega)) | fail)
    apply Yk H
    · exact zk
    apply Yt; exact rfl; exact rfl; exact rfl; exact ⟨rfl, rfl⟩
open Go.RowKit Go.Eng Go.Nw Go.Rt
def runW (x : WayM) (a : Int) : List (Cel × Int) := runP x.s.len (Xk x.s.sch x.f.1) (a + x.f.2.2.2.1) (YB x.n.net x.r) a
def cntV (z : Cel × Int) : List Value := [celV z.1, .int .i64 z.2]
def Ygi (x : WayM) (a : Int) : List (List Value) := (runW x a).map cntV
structure CtM where
  c : Nat
  a : Int
  L : List HP
structure CuM where
  k : Nat
  slot : Int
  a : Int
  c : Nat
  L : List HP
structure CvM where
  j : Nat
  k : Nat
  a : Int
  c : Nat
  L : List HP
theorem Yjy {α : Type} {W r : List α} {c : Nat} {z : α} (hc : c ≤ W.length) (h : W = W.take c ++ z :: r) : W[c]? = some z ∧ c + 1 ≤ W.length ∧ W = W.take (c + 1) ++ r := by
  have hl : (W.take c).length = c := by rw [List.length_take]; omega
  have hg : W[c]? = some z := by
    rw [h, List.getElem?_append_right (by omega), hl, Nat.sub_self]; rfl
  refine ⟨hg, (List.getElem?_eq_some_iff.1 hg).1, ?_⟩
  rw [List.take_add_one, hg]
  conv => lhs; rw [h]
  simp
theorem YeW {α : Type} {W : List α} {c : Nat} (hc : c ≤ W.length) (h : W = W.take c ++ []) : c = W.length := by
  rw [List.append_nil] at h
  have := congrArg List.length h
  rw [List.length_take] at this
  omega
set_option maxRecDepth 10000 in
set_option maxHeartbeats 8000000 in
theorem YcI (x : WayM) (at0 : Int) (hok : VX x) (hat : 0 ≤ at0 ∧ at0 ≤ 1000000) (ga gw : Nat) {B : Nat} {w0 : World} {H : List HP} (hi : x.In B w0 H) :
    Ybo Tryz.prog 247 [.pointer (some ⟨ga, 0, none⟩), .pointer (some ⟨gw, 0, none⟩)] (Ygi x at0) B w0 (intB ga at0 :: wayB gw x :: H) := by
  refine YgP Tryz.func247 Tryz.ntmps247 rfl rfl ?_
  intro l SS XX hy L0 h0
  have hper := hok.per
  have hslen := hok.slen
  obtain ⟨W, hW⟩ : ∃ W, runW x at0 = W := ⟨_, rfl⟩
  have hxs : Ygi x at0 = W.map cntV := by unfold Ygi; rw [hW]
  rw [hxs] at hy ⊢
  rw [List.length_map]
  obtain ⟨endd, hend⟩ : ∃ e, at0 + x.f.2.2.2.1 = e := ⟨_, rfl⟩
  unfold runW at hW
  rw [hend] at hW
  unfold intB at hy ⊢
  iterate 3 (first | refine zga ?_ | (refine zgh ?_; intro _) | fail)
  rename_i gy
  apply Yie
  apply Ycz
  apply Zx
  refine Zb (fun z : Nat × Nat => [(5, .pointer (some ⟨z.2, 0, none⟩)), (4, .pointer (some ⟨z.1, 0, none⟩)), (3, .pointer (some ⟨gy, 0, none⟩)), (1, .pointer (some ⟨ga, 0, none⟩)), (2, .pointer (some ⟨gw, 0, none⟩))])
    (fun z => intB z.1 at0 :: many L0 :: intB z.2 endd :: blk gy (.cells #[.func (.yield l) #[] #[]] 291 (0, 0)) :: intB ga at0 :: wayB gw x :: H) ?_ ?_
  · intro K hK
    repeat' (first | fail)
    apply Ur (.n1 0 (.n1 1 (.n1 2 (.n1 3 (.n1 4 (.n1 5 (.n2 6 (.n1 7 (.n1 8 .done)) 7 (.n1 6 (.n1 8 .done))))))))) [9] [false, false, true, true]
    kernel_rfl
    kernel_rfl
    exact zy
    (simp only [Yl, nthO]; rfl)
    repeat' (first | (apply Yi; (repeat (first | with_reducible exact Yh | (with_reducible apply Yd; (repeat (first | with_reducible exact Ye | with_reducible apply Yc)))))) | apply (zs91 ?_ ?_) | (apply Yo; (repeat (first | with_reducible exact Yh | (with_reducible apply Yd; (repeat (first | with_reducible exact Ye | with_reducible apply Yc)))))) | refine zgd ?_ | (refine zgh ?_; intro _) | fail)
    · rename_i a b
      rw [hend]
      apply hK (a, b)
      · exact zu
      · unfold intB
        dsimp only
        exact zk
    · rename_i a b
      rw [hend]
      apply hK (b, a)
      · exact zu
      · unfold intB
        dsimp only
        exact zk
  rintro ⟨g4, g5⟩
  unfold intB
  dsimp only
  repeat' (first | refine zgc ?_ | fail)
  apply Yr _ Yk6
  exact za
  exact rfl
  exact fun _ hw => (Yap x (hw))
  rintro _ _ ⟨g2, rfl, rfl⟩
  repeat' (first | refine zgb ?_ | fail)
  have hiK : x.In B w0 (wayB g2 x :: blk g5 (.cells #[.int .i64 endd] 3 (0, 0)) :: blk gy (.cells #[.func (.yield l) #[] #[]] 291 (0, 0)) :: blk ga (.cells #[.int .i64 at0] 3 (0, 0)) :: wayB gw x :: H) := hi.cons.cons.cons.cons.cons
  refine XG (gf := 285) (lb := [.pointer (some ⟨g2, 0, none⟩)]) (xs := ZE x) (wayB g2 x :: blk g5 (.cells #[.int .i64 endd] 3 (0, 0)) :: blk gy (.cells #[.func (.yield l) #[] #[]] 291 (0, 0)) :: blk ga (.cells #[.int .i64 at0] 3 (0, 0)) :: wayB gw x :: H) (fun y : CtM => [blk g4 (.cells #[.int .i64 y.a] 3 (0, 0)), many y.L])
    (fun k y => y.c ≤ W.length ∧ W = W.take y.c ++ runP x.s.len (Xk x.s.sch x.f.1) endd ((YB x.n.net x.r).drop k) y.a ∧ SS y.c y.L ∧ at0 ≤ y.a ∧ y.a ≤ endd)
    (fun e K => e = .ret ∧ ∃ a L, (SS W.length L ∨ XX L) ∧ K = [blk g4 (.cells #[.int .i64 a] 3 (0, 0)), many L]) ⟨0, at0, L0⟩ rfl Yk8 (OI x g2 hok hiK (.head _)) rfl ?_ (by kernel_rfl) (by kernel_rfl) ?_ ⟨Nat.zero_le _, by simpa using hW.symm, h0, Int.le_refl _, by show at0 ≤ endd; omega⟩ ?_ ?_ ?_
  · intro args h
    obtain ⟨k, hk⟩ := List.mem_iff_getElem?.1 h
    obtain ⟨l, _, rfl⟩ := Vo hk
    rfl
  · simp only [List.cons_append, List.nil_append]
    exact zk
  · rintro l2 k args R ⟨c, a, L⟩ hk ⟨hc, hWk, hS, ha0, ha1⟩
    obtain ⟨lk, hlk, rfl⟩ := Vo hk
    have hbd := Wv hok hlk
    dsimp only at hc hWk hS ha0 ha1
    dsimp only [Vx, List.cons_append, List.nil_append]
    unfold lkV
    repeat' (first | refine zgd ?_ | (refine zgh ?_; intro _) | fail)
    rename_i gl
    apply Ja (Yc Ye)
    intro R'
    repeat' (first | refine zgd ?_ | fail)
    have hfew := hok.few
    apply Yr _ Ymr
    exact za
    exact rfl
    exact fun _ hw => (Yfk x lk (by omega) (hi.mono zk).s (hw))
    rintro _ _ ⟨A, cap, rfl, rfl⟩
    have hcsl : (Xk x.s.sch x.f.1 lk).length ≤ 512 := Nat.le_trans (List.length_filter_le _ _) hfew
    have hdk : (YB x.n.net x.r).drop k = lk :: (YB x.n.net x.r).drop (k + 1) := by
      obtain ⟨h1, h2⟩ := List.getElem?_eq_some_iff.1 hlk
      rw [← h2]; exact List.drop_eq_getElem_cons h1
    rw [hdk, Yjq] at hWk
    obtain ⟨cs, hcs⟩ : ∃ cs, Xk x.s.sch x.f.1 lk = cs := ⟨_, rfl⟩
    obtain ⟨ls, hls⟩ : ∃ ls, (YB x.n.net x.r).drop (k + 1) = ls := ⟨_, rfl⟩
    obtain ⟨C, hC⟩ : ∃ C, Xk x.s.sch x.f.1 = C := ⟨_, rfl⟩
    rw [hcs, hls, hC] at hWk
    rw [hcs] at hcsl ⊢
    rw [hC, hls]
    unfold cels
    repeat' (first | refine zgb ?_ | fail)
    rw [show lk.2.2 + 1 = ((YL lk : Nat) : Int) from by unfold YL; omega]
    have hnl8 : YL lk ≤ 8 := by unfold YL; omega
    refine Yn (fun z : CuM => [(9, .int .i64 z.slot), (7, .int .i64 (z.k : Nat)), (8, .slice A cs.length cap), (6, .pointer (some ⟨gl, 0, none⟩)), (5, .pointer (some ⟨g5, 0, none⟩)), (4, .pointer (some ⟨g4, 0, none⟩)), (3, .pointer (some ⟨gy, 0, none⟩)), (1, .pointer (some ⟨ga, 0, none⟩)), (2, .pointer (some ⟨gw, 0, none⟩))])
      (fun z => R' :: blk g4 (.cells #[.int .i64 z.a] 3 (0, 0)) :: many z.L :: sl 40 5 A cs.length cap (cs.flatMap celF) :: blk gl (.cells #[.int .i64 lk.1, .int .i64 lk.2.1, .int .i64 lk.2.2] 172 (0, 0)) :: wayB g2 x :: blk g5 (.cells #[.int .i64 endd] 3 (0, 0)) :: blk gy (.cells #[.func (.yield l) #[] #[]] 291 (0, 0)) :: blk ga (.cells #[.int .i64 at0] 3 (0, 0)) :: wayB gw x :: H)
      (fun z => z.c ≤ W.length ∧ W = W.take z.c ++ VN x.s.len C endd cs ls (endd - z.slot).toNat z.k z.slot z.a ∧ SS z.c z.L ∧ (at0 ≤ z.a ∧ z.a ≤ endd) ∧ (at0 ≤ z.slot ∧ z.slot ≤ endd) ∧ z.k ≤ 8) (fun z => (endd - z.slot).toNat) ⟨YL lk, a, a, c, L⟩ ⟨hc, hWk, hS, ⟨ha0, ha1⟩, ⟨ha0, ha1⟩, hnl8⟩ ?_ ?_ ?_
    · exact zu
    · exact zk
    rintro ⟨kk, slot, a, c, L⟩ ⟨hc, hWk, hS, ⟨ha0, ha1⟩, ⟨hs0, hs1⟩, hk8⟩ K hK
    dsimp only at hc hWk hS ha0 ha1 hs0 hs1 hk8 ⊢
    by_cases hk0 : kk = 0
    · subst hk0
      rw [YhV] at hWk
      clear hK
      repeat' (first | refine zgc ?_ | (refine zge ?_ ?_ <;> intro _ <;> try (exfalso; omega)) | fail)
      apply JA (CtM.mk c a L)
      · exact ⟨hc, hWk, hS, ha0, ha1⟩
      · dsimp only [List.cons_append, List.nil_append]
        exact zk
    by_cases hse : endd ≤ slot
    · rw [show (endd - slot).toNat = 0 by omega, Yjx hk0] at hWk
      have hce := YeW hc hWk
      rw [hce] at hS
      clear hK
      repeat' (first | refine zgc ?_ | (refine zgf ?_ ?_ <;> intro _ <;> try (exfalso; omega)) | fail)
      apply QB [blk g4 (.cells #[.int .i64 a] 3 (0, 0)), many L]
      · exact ⟨rfl, a, L, .inl hS, rfl⟩
      · dsimp only [List.cons_append, List.nil_append]
        exact zk
    obtain ⟨f, hf⟩ : ∃ f, (endd - (slot + 1)).toNat = f := ⟨_, rfl⟩
    have hf1 : (endd - slot).toNat = f + 1 := by omega
    have hmt : slot.tmod x.s.len = slot % x.s.len := Int.tmod_eq_emod_of_nonneg (by omega)
    rw [hf1, ← Yjm] at hWk
    repeat' (first | refine zgb ?_ | (refine zgf ?_ ?_ <;> intro _ <;> try (exfalso; omega)) | fail)
    refine Yn (fun y : CvM => [(37, .int .i64 (y.j : Nat)), (36, .int .i64 cs.length), (35, .slice A cs.length cap), (9, .int .i64 slot), (7, .int .i64 (y.k : Nat)), (8, .slice A cs.length cap), (6, .pointer (some ⟨gl, 0, none⟩)), (5, .pointer (some ⟨g5, 0, none⟩)), (4, .pointer (some ⟨g4, 0, none⟩)), (3, .pointer (some ⟨gy, 0, none⟩)), (1, .pointer (some ⟨ga, 0, none⟩)), (2, .pointer (some ⟨gw, 0, none⟩))])
      (fun y => R' :: blk g4 (.cells #[.int .i64 y.a] 3 (0, 0)) :: many y.L :: sl 40 5 A cs.length cap (cs.flatMap celF) :: blk gl (.cells #[.int .i64 lk.1, .int .i64 lk.2.1, .int .i64 lk.2.2] 172 (0, 0)) :: wayB g2 x :: blk g5 (.cells #[.int .i64 endd] 3 (0, 0)) :: blk gy (.cells #[.func (.yield l) #[] #[]] 291 (0, 0)) :: blk ga (.cells #[.int .i64 at0] 3 (0, 0)) :: wayB gw x :: H)
      (fun y => y.j ≤ cs.length ∧ y.c ≤ W.length ∧ W = W.take y.c ++ UP x.s.len C endd cs (cs.drop y.j) ls f y.k slot y.a ∧ SS y.c y.L ∧ (at0 ≤ y.a ∧ y.a ≤ endd) ∧ y.k ≤ 8) (fun y => cs.length - y.j) ⟨0, kk, a, c, L⟩ ⟨Nat.zero_le _, hc, hWk, hS, ⟨ha0, ha1⟩, hk8⟩ ?_ ?_ ?_
    · exact zu
    · exact zk
    clear hWk hS hc hk0 hk8 ha0 ha1
    rintro ⟨j, kk, a, c, L⟩ ⟨hj, hc, hWk, hS, ⟨ha0, ha1⟩, hk8⟩ K2 hK2
    dsimp only at hj hc hWk hS ha0 ha1 hk8 ⊢
    by_cases hjl : j < cs.length
    rotate_left
    · obtain rfl : j = cs.length := by omega
      rw [List.drop_length, Yjn] at hWk
      clear hK2
      repeat' (first | refine zgd ?_ | (refine zge ?_ ?_ <;> intro _ <;> try (exfalso; omega)) | fail)
      apply hK ⟨kk, slot + 1, a, c, L⟩
      · exact ⟨hc, by rw [hf]; exact hWk, hS, ⟨ha0, ha1⟩, ⟨by show at0 ≤ slot + 1; omega, by show slot + 1 ≤ endd; omega⟩, hk8⟩
      · dsimp only; omega
      · exact zu
      · exact fun w hw => hw
    obtain ⟨d, hd⟩ : ∃ d, cs[j]? = some d := ⟨_, List.getElem?_eq_getElem hjl⟩
    have hdj : cs.drop j = d :: cs.drop (j + 1) := by
      obtain ⟨h1, h2⟩ := List.getElem?_eq_some_iff.1 hd
      rw [← h2]; exact List.drop_eq_getElem_cons h1
    rw [hdj] at hWk
    by_cases hcd : d.1 = slot % x.s.len ∧ kk ≠ 0
    · obtain ⟨hcd1, hcd2⟩ := hcd
      obtain ⟨k3, rfl⟩ : ∃ k3, kk = k3 + 1 := ⟨kk - 1, by omega⟩
      rw [Yjo (by rw [hmt]; exact hcd1) hcd2, Nat.add_sub_cancel] at hWk
      obtain ⟨hx, hc1, hW1⟩ := Yjy hc hWk
      have hx : (W.map cntV)[c]? = some [celV d, .int .i64 slot] := by rw [List.getElem?_map, hx]; rfl
      repeat' (first | (refine Ycj 3 57 rfl rfl rfl ?_) | refine zgd ?_ | (refine zgf ?_ ?_ <;> intro _ <;> try (exfalso; omega)) | (refine zgh ?_; intro _) | fail)
      first | (rename_i gc _ _; guard_hyp gc : Nat) | (rename_i gc _; guard_hyp gc : Nat) | (rename_i gc _ _ _; guard_hyp gc : Nat)
      rw [show ((k3 + 1 : Nat) : Int) - 1 = (k3 : Int) by omega]
      apply Yk (R' :: blk gc (.cells #[.int .i64 d.1, .int .i64 d.2.1, .int .i64 d.2.2.1, .int .i64 d.2.2.2.1, .int .i64 d.2.2.2.2] 40 (0, 0)) :: sl 40 5 A cs.length cap (cs.flatMap celF) :: blk gl (.cells #[.int .i64 lk.1, .int .i64 lk.2.1, .int .i64 lk.2.2] 172 (0, 0)) :: blk g4 (.cells #[.int .i64 (slot + 1)] 3 (0, 0)) :: wayB g2 x :: blk g5 (.cells #[.int .i64 endd] 3 (0, 0)) :: blk gy (.cells #[.func (.yield l) #[] #[]] 291 (0, 0)) :: many L :: blk ga (.cells #[.int .i64 at0] 3 (0, 0)) :: wayB gw x :: H)
      · exact zk
      have hY := hy c _ hx [R', blk gc (.cells #[.int .i64 d.1, .int .i64 d.2.1, .int .i64 d.2.2.1, .int .i64 d.2.2.2.1, .int .i64 d.2.2.2.2] 40 (0, 0)), sl 40 5 A cs.length cap (cs.flatMap celF), blk gl (.cells #[.int .i64 lk.1, .int .i64 lk.2.1, .int .i64 lk.2.2] 172 (0, 0)), blk g4 (.cells #[.int .i64 (slot + 1)] 3 (0, 0)), wayB g2 x, blk g5 (.cells #[.int .i64 endd] 3 (0, 0)), blk gy (.cells #[.func (.yield l) #[] #[]] 291 (0, 0))] L hS
      apply Yg0 _ _ (hy := hY)
      · exact OZ
      · exact rfl
      · exact za
      · exact rfl
      · rintro ⟨_, _, h⟩; exact h
      · exact rfl
      · rintro _ ⟨L', hS', rfl⟩
        dsimp only [List.cons_append, List.nil_append]
        repeat' (first | refine zgd ?_ | fail)
        apply hK2 ⟨j + 1, k3, slot + 1, c + 1, L'⟩
        · exact ⟨by show j + 1 ≤ _; omega, hc1, hW1, hS', ⟨by show at0 ≤ slot + 1; omega, by show slot + 1 ≤ endd; omega⟩, by show k3 ≤ 8; omega⟩
        · dsimp only; omega
        · exact zu
        · exact zk
      · rintro _ ⟨L', hX', rfl⟩
        dsimp only [List.cons_append, List.nil_append]
        repeat' (first | refine zgd ?_ | fail)
        apply QB [blk g4 (.cells #[.int .i64 (slot + 1)] 3 (0, 0)), many L']
        · exact ⟨rfl, slot + 1, L', .inr hX', rfl⟩
        · dsimp only [List.cons_append, List.nil_append]
          exact zk
    · rw [YkA (by rw [hmt]; exact hcd)] at hWk
      repeat' (first | refine zgd ?_ | (refine zgf ?_ ?_ <;> intro _ <;> try (exfalso; omega)) | (refine zgh ?_; intro _) | fail)
      all_goals (
        apply hK2 ⟨j + 1, kk, a, c, L⟩
        · exact ⟨by show j + 1 ≤ _; omega, hc, hWk, hS, ⟨ha0, ha1⟩, hk8⟩
        · dsimp only; omega
        · exact zu
        · exact zk)
  · rintro D ⟨c, a, L⟩ ⟨hc, hWk, hS, ha0, ha1⟩
    dsimp only at hc hWk hS ha0 ha1
    have hle : (ZE x).length = (YB x.n.net x.r).length := by unfold ZE; rw [List.length_map]
    rw [hle, List.drop_length] at hWk
    have hce := YeW hc hWk
    rw [hce] at hS
    dsimp only [List.cons_append, List.nil_append]
    repeat' (first | refine zgc ?_ | fail)
    apply YjZ
    apply Zf Ye
    apply VQ_m
    apply Yk (many L :: blk ga (.cells #[.int .i64 at0] 3 (0, 0)) :: wayB gw x :: H)
    · exact zk
    apply XU; exact rfl
    exact .inl ⟨L, hS, rfl⟩
  · rintro D _ _ ⟨rfl, a, L, hSL, rfl⟩ _
    dsimp only [List.cons_append, List.nil_append]
    repeat' (first | refine zgc ?_ | fail)
    apply Zf Ye
    apply VQ_m
    apply Yk (many L :: blk ga (.cells #[.int .i64 at0] 3 (0, 0)) :: wayB gw x :: H)
    · exact zk
    apply XU; exact rfl
    rcases hSL with h | h
    · exact .inl ⟨L, h, rfl⟩
    · exact .inr ⟨L, h, rfl⟩
open Go.RowKit Go.Eng Go.Nw Go.Rt
def relE (x : WayM) (a : Int) : Int × List Int × Bool := match YaQ x.n.net x.s.sch x.f x.r a with
  | none => (0, [], false)
  | some l => (ZN l - a + 1, l.map (fun z => z - a), true)
theorem Oh (x : WayM) (a : Int) : YaQ x.n.net x.s.sch x.f x.r a = if (runW x a).length < Y8 (YB x.n.net x.r) then none else some ((runW x a).map Prod.snd) := Yc6 _ _ _ _ _
theorem Yd2 (x : WayM) (a : Int) {B : Nat} {w0 : World} {H : List HP} {w : World} (hw : St B w0 H w) :
    Calls Tryz.prog 207 [x.val, .int .i64 a].toArray w (Post B w0 fun v K => ∃ ga gw, v = .func (.func 247) #[] #[.pointer (some ⟨ga, 0, none⟩), .pointer (some ⟨gw, 0, none⟩)] ∧ K = intB ga a :: wayB gw x :: H) := by
  refine Yf Tryz.func207 Tryz.ntmps207 rfl rfl hw ?_
  unfold WayM.val intB
  repeat' (first | (apply zg23; first | (refine zs52 ?_; intro _) | (refine zs53 ?_; intro _)) | (apply zg29; (apply Yj; exact za ; exact rfl)) | refine zga ?_ | fail)
  apply Yg; exact rfl; exact rfl
  exact ⟨_, _, rfl, rfl⟩
structure NlM where
  A : Option Addr
  cap : Nat
  l : List Int
theorem Yeu {x : WayM} (hok : VX x) : 1 ≤ Y8 (YB x.n.net x.r) := by
  have hl := hok.len
  have h0 := U5 (n := x.n.net) (r := x.r) (i := 0) (by omega)
  have hbd := Wv hok h0
  have hne : (YB x.n.net x.r) = X0 x.n.net x.r 0 :: (YB x.n.net x.r).tail := by
    cases h : YB x.n.net x.r with
    | nil => rw [h] at h0; cases h0
    | cons a t => rw [h] at h0; cases h0; rfl
  rw [hne]
  unfold Y8 YL
  rw [List.map_cons, List.sum_cons]
  omega
set_option maxRecDepth 10000 in
set_option maxHeartbeats 4000000 in
theorem Yc3 (x : WayM) (at0 : Int) (hok : VX x) (hat : 0 ≤ at0 ∧ at0 ≤ 1000000) {B : Nat} {w0 : World} {H : List HP} {w : World} (hi : x.In B w0 H) (hw : St B w0 H w) :
    Calls Tryz.prog 149 [x.val, .int .i64 at0].toArray w (Post B w0 fun v K => ∃ A cap, v = .tuple #[.int .i64 (relE x at0).1, .slice A (relE x at0).2.1.length cap, .bool (relE x at0).2.2] ∧ K = nrs A cap (relE x at0).2.1 :: H) := by
  refine XF Tryz.func149 Tryz.ntmps149 rfl rfl hw ?_
  have hper := hok.per
  have hl9 := hok.len
  have hnp := Yeu hok
  have hnl : Y8 (YB x.n.net x.r) ≤ 72 := by
    have h1 := Qg hok (YB x.n.net x.r).length
    rw [List.take_length, Vp] at h1
    omega
  have hRE : relE x at0 = if (runW x at0).length < Y8 (YB x.n.net x.r) then (0, [], false) else (ZN ((runW x at0).map Prod.snd) - at0 + 1, ((runW x at0).map Prod.snd).map (fun z => z - at0), true) := by
    unfold relE
    rw [Oh]
    by_cases h : (runW x at0).length < Y8 (YB x.n.net x.r)
    · rw [if_pos h, if_pos h]
    · rw [if_neg h, if_neg h]
  have hWl : (runW x at0).length ≤ Y8 (YB x.n.net x.r) := Qk _ _ _ _ _
  have hWs : ∀ z ∈ runW x at0, at0 ≤ z.2 ∧ z.2 < at0 + x.f.2.2.2.1 := fun z hz => Ql (by omega) hz
  have hiter := fun {ga gw : Nat} {H' : List HP} (hi : x.In B w0 H') => YcI x at0 hok hat ga gw hi
  have hxs : Ygi x at0 = (runW x at0).map cntV := rfl
  rw [hxs] at hiter
  obtain ⟨W, hW⟩ : ∃ W, runW x at0 = W := ⟨_, rfl⟩
  obtain ⟨nd, hnd⟩ : ∃ nd, Y8 (YB x.n.net x.r) = nd := ⟨_, rfl⟩
  have hned := fun {H' : List HP} {w : World} (hi : x.In B w0 H') (hw : St B w0 H' w) => Yev x hok hi hw
  rw [hW, hnd] at hRE hWl
  rw [hW] at hWs hiter
  rw [hnd] at hnp hnl hned
  rw [hRE]
  unfold WayM.val
  unfold intB at hiter
  repeat' (first | (apply zg23; first | (refine zs52 ?_; intro _) | (refine zs53 ?_; intro _)) | refine zgc ?_ | (refine zgh ?_; intro _) | fail)
  rename_i g2 g3 gO
  apply Yr _ Ymk
  exact za
  exact rfl
  exact fun _ hw => (Yd2 x at0 (hw))
  rintro _ _ ⟨ga, gw, rfl, rfl⟩
  unfold intB
  repeat' (first | refine zgb ?_ | fail)
  refine ZL 3 1 ?_
  refine XG (gf := 247) (lb := [.pointer (some ⟨ga, 0, none⟩), .pointer (some ⟨gw, 0, none⟩)]) (xs := W.map cntV) (blk ga (.cells #[.int .i64 at0] 3 (0, 0)) :: wayB gw x :: blk g3 (.cells #[.int .i64 at0] 3 (0, 0)) :: wayB g2 x :: H) (fun y : NlM => [blk gO (.cells #[.slice y.A y.l.length y.cap] 24 (0, 0)), nrs y.A y.cap y.l]) (fun i y => y.l = (W.take i).map (fun z => z.2 - at0)) (fun _ _ => False) ⟨none, 0, []⟩ rfl Ymq (hiter hi.cons.cons) rfl ?_ (by kernel_rfl) (by kernel_rfl) ?_ rfl ?_ ?_ (fun _ _ _ h => h.elim)
  · intro args h
    obtain ⟨z, _, rfl⟩ := List.mem_map.1 h
    rfl
  · simp only [List.cons_append, List.nil_append, List.length_nil]
    intro w hw
    have h1 : St B w0 (nrs none 0 [] :: blk ga (.cells #[.int .i64 at0] 3 (0, 0)) :: wayB gw x :: blk gO (.cells #[.slice none 0 0] 24 (0, 0)) :: blk g3 (.cells #[.int .i64 at0] 3 (0, 0)) :: wayB g2 x :: H) w := hw
    clear hw
    revert w
    exact zk
  · rintro l k args R ⟨A, cap, xs⟩ hk hI
    rw [List.getElem?_map] at hk
    obtain ⟨⟨d, sl⟩, hz, rfl⟩ : ∃ z, W[k]? = some z ∧ args = cntV z := by
      cases h : W[k]? with
      | none => rw [h] at hk; cases hk
      | some z => rw [h] at hk; exact ⟨z, rfl, (Option.some.inj hk).symm⟩
    have hzb := hWs _ (List.mem_of_getElem? hz)
    have hI : xs = (W.take k).map (fun z => z.2 - at0) := hI
    have hxl : xs.length ≤ 72 := by
      rw [hI, List.length_map, List.length_take]; omega
    dsimp only at hzb
    dsimp only [Vx, cntV, List.cons_append, List.nil_append]
    repeat' (first | refine zga ?_ | fail)
    apply Ja Ye
    intro R'
    repeat' (first | refine zgd ?_ | (refine zgh ?_; intro _) | (refine zgi ?_; intro _ _) | fail)
    rename_i A' cap'
    apply JA (NlM.mk A' cap' (xs ++ [sl - at0]))
    · show xs ++ [sl - at0] = _
      rw [List.take_add_one, hz, Option.toList_some, List.map_append, hI]; rfl
    · dsimp only [List.cons_append, List.nil_append]
      rw [ZQ, show xs.length + 1 = (xs ++ [sl - at0]).length by simp]
      exact zk
  · rintro D ⟨A, cap, xs⟩ hI
    have hI : xs = (W.take (W.map cntV).length).map (fun z => z.2 - at0) := hI
    rw [List.length_map, List.take_length] at hI
    have hxl : xs.length = W.length := by rw [hI, List.length_map]
    dsimp only [List.cons_append, List.nil_append]
    have hll : ((W.map Prod.snd).map (fun z => z - at0)) = xs := by rw [hI, List.map_map]; rfl
    by_cases hlt : W.length < nd
    · rw [if_pos hlt]
      repeat' (first | refine zgc ?_ | fail)
      apply YN [0, 1, 2, 3, 4] []
      kernel_rfl
      kernel_rfl
      (simp only [Yl, nthO]; rfl)
      exact rfl
      repeat' (first | refine zgd ?_ | fail)
      first | apply Ya Ygt | apply Yb Ygt
      exact za
      exact rfl
      exact fun _ hw => (hned (hi.mono zk) hw)
      repeat' (first | (apply Yi; (repeat (first | with_reducible exact Yh | (with_reducible apply Yd; (repeat (first | with_reducible exact Ye | with_reducible apply Yc)))))) | refine zga ?_ | fail)
      · show Perm H (H ++ [])
        rw [List.append_nil]; exact Perm.refl _
      repeat' (first | refine zgd ?_ | (refine zge ?_ ?_ <;> intro _ <;> try (exfalso; omega)) | fail)
      apply Zf Ye
      apply VQ_m
      apply Yk (nrs none 0 [] :: H)
      · intro w hw
        have h5 : St B w0 H w := by
          revert w
          exact zk
        exact h5.nilSlice _ _
      apply XV; exact rfl; exact rfl; exact rfl; exact rfl
      exact ⟨none, 0, rfl, rfl⟩
    · rw [if_neg hlt, hll]
      obtain ⟨z, hz⟩ : ∃ z, W[W.length - 1]? = some z := ⟨_, List.getElem?_eq_getElem (by omega)⟩
      have hzb := hWs _ (List.mem_of_getElem? hz)
      have hx1 : xs[((xs.length : Int) - 1).toNat]? = some (z.2 - at0) := by
        rw [show ((xs.length : Int) - 1).toNat = W.length - 1 by omega, hI, List.getElem?_map, hz]; rfl
      have hla : ZN (W.map Prod.snd) = z.2 := by
        unfold ZN
        rw [List.length_map, List.getD_eq_getElem?_getD, List.getElem?_map, hz]; rfl
      rw [hla]
      repeat' (first | refine zgc ?_ | fail)
      apply YN [0, 1, 2, 3, 4] []
      kernel_rfl
      kernel_rfl
      (simp only [Yl, nthO]; rfl)
      exact rfl
      repeat' (first | refine zgd ?_ | fail)
      first | apply Ya Ygt | apply Yb Ygt
      exact za
      exact rfl
      exact fun _ hw => (hned (hi.mono zk) hw)
      repeat' (first | (apply Yi; (repeat (first | with_reducible exact Yh | (with_reducible apply Yd; (repeat (first | with_reducible exact Ye | with_reducible apply Yc)))))) | refine zga ?_ | fail)
      · show Perm H (H ++ [])
        rw [List.append_nil]; exact Perm.refl _
      repeat' (first | refine zgd ?_ | (refine zge ?_ ?_ <;> intro _ <;> try (exfalso; omega)) | fail)
      apply Zf Ye
      apply VQ_m
      apply Yk (nrs A cap xs :: H)
      · exact zk
      apply XV; exact rfl; exact rfl; exact rfl; exact rfl
      exact ⟨A, cap, rfl, rfl⟩
def Qd (R : Option (Int × Int × List Int)) : Int × Int × List Int × Bool := match R with
  | none => (0, 0, [], false)
  | some b => (b.1, b.2.1, b.2.2, true)
def V0 (x : WayM) : Int × Int × List Int × Bool := Qd (VZ x.n.net x.s.sch x.f x.r)
theorem Yju {x : WayM} (hok : VX x) {a : Int} {l : List Int} (h : YaQ x.n.net x.s.sch x.f x.r a = some l) : 1 ≤ l.length ∧ a ≤ ZN l ∧ ZN l < a + x.f.2.2.2.1 := by
  have hper := hok.per
  have hnp := Yeu hok
  rw [Oh] at h
  split at h
  · cases h
  rename_i hge
  obtain rfl := Option.some.inj h
  rw [List.length_map]
  obtain ⟨z, hz⟩ : ∃ z, (runW x a)[(runW x a).length - 1]? = some z := ⟨_, List.getElem?_eq_getElem (by omega)⟩
  have hzb := Ql (by omega) (List.mem_of_getElem? hz)
  have hla : ZN ((runW x a).map Prod.snd) = z.2 := by
    unfold ZN
    rw [List.length_map, List.getD_eq_getElem?_getD, List.getElem?_map, hz]; rfl
  rw [hla]
  exact ⟨by omega, hzb⟩
structure BdM where
  k : Nat
  rel : Int
  b : Int × Int × List Int
  A : Option Addr
  cap : Nat
set_option maxRecDepth 10000 in
set_option maxHeartbeats 4000000 in
theorem Yfh (x : WayM) (hok : VX x) {B : Nat} {w0 : World} {H : List HP} {w : World} (hi : x.In B w0 H) (hw : St B w0 H w) :
    Calls Tryz.prog 86 [x.val].toArray w (Post B w0 fun v K => ∃ A cap, v = .tuple #[.int .i64 (V0 x).1, .int .i64 (V0 x).2.1, .slice A (V0 x).2.2.1.length cap, .bool (V0 x).2.2.2] ∧ K = nrs A cap (V0 x).2.2.1 :: H) := by
  refine Yf Tryz.func86 Tryz.ntmps86 rfl rfl hw ?_
  have hper := hok.per
  have hph := hok.ph
  have hsl := hok.slen
  obtain ⟨R, hR⟩ : ∃ R, VZ x.n.net x.s.sch x.f x.r = R := ⟨_, rfl⟩
  have hO : V0 x = Qd R := by unfold V0; rw [hR]
  rw [hO]
  unfold VZ at hR
  rw [show x.s.sch.len = x.s.len from rfl] at hR
  obtain ⟨S, hS⟩ : ∃ S, YaQ x.n.net x.s.sch x.f x.r = S := ⟨_, rfl⟩
  rw [hS] at hR
  have hrl := fun {H' : List HP} {w : World} (a : Int) (ha : 0 ≤ a ∧ a ≤ 1000000) (hi : x.In B w0 H') (hw : St B w0 H' w) => Yc3 x a hok ha hi hw
  unfold WayM.val
  repeat' (first | refine zgb ?_ | (refine zgh ?_; intro _) | fail)
  rename_i g
  refine ZL 3 1 ?_
  refine Yn (fun z : BdM => [(9, .int .i64 z.rel), (8, .slice z.A z.b.2.2.length z.cap), (7, .int .i64 z.b.2.1), (6, .int .i64 z.b.1), (1, .pointer (some ⟨g, 0, none⟩))]) (fun z => nrs z.A z.cap z.b.2.2 :: wayB g x :: H)
    (fun z => VG S x.s.len x.f.2.2.2.1 z.k z.rel z.b = R ∧ x.s.len - z.rel ≤ z.k ∧ 0 ≤ z.rel ∧ z.rel ≤ 2000 ∧ 0 ≤ z.b.1 ∧ z.b.1 ≤ 2000) (fun z => z.k) ⟨x.s.len.toNat, x.f.2.2.2.2.1, (0, 0, []), none, 0⟩ ⟨hR, by show x.s.len - x.f.2.2.2.2.1 ≤ ((x.s.len.toNat : Nat) : Int); omega, hph.1, by show x.f.2.2.2.2.1 ≤ 2000; omega, Int.le_refl _, by show (0 : Int) ≤ 2000; decide⟩ ?_ (fun w hw => hw) ?_
  · exact zu
  rintro ⟨k, rel, ⟨b1, b2, bl⟩, A, cap⟩ ⟨hb, hk, h0, h1, hb0, hb1⟩ K hK
  dsimp only at hb hk h0 h1 hb0 hb1 ⊢
  by_cases hge : x.s.len ≤ rel
  · have hRe : R = some (b1, b2, bl) := by
      rw [← hb]
      cases k with
      | zero => rfl
      | succ k => unfold VG; rw [if_pos hge]
    rw [hRe]
    clear hK
    repeat' (first | refine zgc ?_ | (refine zge ?_ ?_ <;> intro _ <;> try (exfalso; omega)) | fail)
    apply Yk (nrs A cap bl :: H)
    · exact zk
    apply We; exact rfl; exact rfl; exact rfl; exact rfl; exact rfl
    exact ⟨A, cap, rfl, rfl⟩
  obtain ⟨k, rfl⟩ : ∃ k', k = k' + 1 := ⟨k - 1, by omega⟩
  unfold VG at hb
  rw [if_neg hge] at hb
  have hrr := fun {H' : List HP} {w : World} (hi : x.In B w0 H') (hw : St B w0 H' w) => hrl rel (by omega) hi hw
  unfold relE at hrr
  rw [hS] at hrr
  cases hSr : S rel with
  | none =>
    rw [hSr] at hb hrr
    dsimp only at hb hrr
    rw [← hb]
    clear hK
    repeat' (first | refine zgc ?_ | (refine zge ?_ ?_ <;> intro _ <;> try (exfalso; omega)) | fail)
    apply Yr _ YkX
    exact za
    exact rfl
    exact fun _ hw => (hrr (hi.mono zk) (hw))
    rintro _ _ ⟨A2, cap2, rfl, rfl⟩
    repeat' (first | refine zgd ?_ | fail)
    apply Yk (nrs none 0 [] :: H)
    · intro w hw
      have h5 : St B w0 H w := by
        revert w
        exact zk
      exact h5.nilSlice _ _
    apply We; exact rfl; exact rfl; exact rfl; exact rfl; exact rfl
    exact ⟨none, 0, rfl, rfl⟩
  | some l =>
    rw [hSr] at hb hrr
    dsimp only at hb hrr
    have hlb : 0 ≤ ZN l - rel + 1 ∧ ZN l - rel + 1 ≤ 513 := by
      have := Yju hok (a := rel) (l := l) (by rw [hS]; exact hSr)
      omega
    obtain ⟨m, hm⟩ : ∃ m, ZN l - rel + 1 = m := ⟨_, rfl⟩
    rw [hm] at hb hrr hlb
    repeat' (first | refine zgc ?_ | (refine zge ?_ ?_ <;> intro _ <;> try (exfalso; omega)) | fail)
    apply Yr _ YkX
    exact za
    exact rfl
    exact fun _ hw => (hrr (hi.mono zk) (hw))
    rintro _ _ ⟨A2, cap2, rfl, rfl⟩
    by_cases hgt : b1 < m
    · rw [if_pos hgt] at hb
      repeat' (first | refine zgd ?_ | (refine zge ?_ ?_ <;> intro _ <;> try (exfalso; omega)) | fail)
      apply hK ⟨k, rel + x.f.2.2.2.1, (m, rel, l.map fun z => z - rel), A2, cap2⟩
      · exact ⟨hb, by show x.s.len - (rel + x.f.2.2.2.1) ≤ ((k : Nat) : Int); omega, by show 0 ≤ rel + x.f.2.2.2.1; omega, by show rel + x.f.2.2.2.1 ≤ 2000; omega, hlb.1, by show m ≤ 2000; omega⟩
      · dsimp only; omega
      · exact zu
      · exact zk
    · rw [if_neg hgt] at hb
      repeat' (first | refine zgd ?_ | (refine zge ?_ ?_ <;> intro _ <;> try (exfalso; omega)) | fail)
      apply hK ⟨k, rel + x.f.2.2.2.1, (b1, b2, bl), A, cap⟩
      · exact ⟨hb, by show x.s.len - (rel + x.f.2.2.2.1) ≤ ((k : Nat) : Int); omega, by show 0 ≤ rel + x.f.2.2.2.1; omega, by show rel + x.f.2.2.2.1 ≤ 2000; omega, hb0, hb1⟩
      · dsimp only; omega
      · exact zu
      · exact zk
open Go.RowKit Go.Eng Go.Nw Go.Rt
set_option maxRecDepth 10000 in
set_option maxHeartbeats 4000000 in
theorem YfQ (x : WayM) {B : Nat} {w0 : World} {H : List HP} {w : World} (ht : TabsB B w0) (hi : x.In B w0 H) (hw : St B w0 H w) :
    Calls Tryz.prog 34 [x.n.val, x.s.val, flwV x.f, .slice x.A x.r.length x.cap].toArray w (Post B w0 fun v K => ∃ A cap, v = .tuple #[.int .i64 (YS x.n.net x.s.sch x.f x.r).1.1, .int .i64 (YS x.n.net x.s.sch x.f x.r).1.2.1, .slice A (YS x.n.net x.s.sch x.f x.r).1.2.2.length cap, .int .i64 (YS x.n.net x.s.sch x.f x.r).2] ∧ K = nrs A cap (YS x.n.net x.s.sch x.f x.r).1.2.2 :: H) := by
  refine Yf Tryz.func34 Tryz.ntmps34 rfl rfl hw ?_
  have p1 := fun {H' : List HP} {w : World} (hi : x.In B w0 H') (hw : St B w0 H' w) => Ye1 x ht hi hw
  obtain ⟨R, hR⟩ : ∃ R, YS x.n.net x.s.sch x.f x.r = R := ⟨_, rfl⟩
  rw [hR]
  unfold YS at hR
  obtain ⟨e, he⟩ : ∃ e, wayE x.n.net x.s.sch x.f x.r = e := ⟨_, rfl⟩
  rw [he] at p1 hR
  unfold NetM.val SchM.val flwV
  by_cases h0 : e = 0
  rotate_left
  · rw [if_pos h0] at hR
    subst hR
    repeat' (first | ((first | apply Ya en85 | apply Yb en85); exact za; exact rfl; exact fun _ hw => (p1 (hi.mono zk) hw)) | refine zgd ?_ | (refine zge ?_ ?_ <;> intro _ <;> try (exfalso; omega)) | (refine zgh ?_; intro _) | fail)
    apply Yk (nrs none 0 [] :: H)
    · intro w hw
      have h5 : St B w0 H w := by
        revert w
        exact zk
      exact h5.nilSlice _ _
    apply We; exact rfl; exact rfl; exact rfl; exact rfl; exact rfl
    exact ⟨none, 0, rfl, rfl⟩
  subst h0
  rw [if_neg (fun h => h rfl)] at hR
  have hok := YgO he
  have p2 := fun {H' : List HP} {w : World} (hi : x.In B w0 H') (hw : St B w0 H' w) => Yfh x hok hi hw
  unfold V0 at p2
  cases hb : VZ x.n.net x.s.sch x.f x.r with
  | none =>
    rw [hb] at hR p2
    dsimp only [Qd] at hR p2
    subst hR
    repeat' (first | ((first | apply Ya en85 | apply Yb en85); exact za; exact rfl; exact fun _ hw => (p1 (hi.mono zk) hw)) | refine zgd ?_ | (refine zge ?_ ?_ <;> intro _ <;> try (exfalso; omega)) | (refine zgh ?_; intro _) | fail)
    apply Yr _ en86
    exact za
    exact rfl
    exact fun _ hw => (p2 (hi.mono zk) (hw))
    rintro _ _ ⟨A2, cap2, rfl, rfl⟩
    repeat' (first | refine zgd ?_ | fail)
    apply Yk (nrs none 0 [] :: H)
    · intro w hw
      have h5 : St B w0 H w := by
        revert w
        exact zk
      exact h5.nilSlice _ _
    apply We; exact rfl; exact rfl; exact rfl; exact rfl; exact rfl
    exact ⟨none, 0, rfl, rfl⟩
  | some b =>
    rw [hb] at hR p2
    dsimp only [Qd] at hR p2
    subst hR
    repeat' (first | ((first | apply Ya en85 | apply Yb en85); exact za; exact rfl; exact fun _ hw => (p1 (hi.mono zk) hw)) | refine zgd ?_ | (refine zge ?_ ?_ <;> intro _ <;> try (exfalso; omega)) | (refine zgh ?_; intro _) | fail)
    apply Yr _ en86
    exact za
    exact rfl
    exact fun _ hw => (p2 (hi.mono zk) (hw))
    rintro _ _ ⟨A2, cap2, rfl, rfl⟩
    repeat' (first | refine zgc ?_ | fail)
    apply Yk (nrs A2 cap2 b.2.2 :: H)
    · exact zk
    apply We; exact rfl; exact rfl; exact rfl; exact rfl; exact rfl
    exact ⟨A2, cap2, rfl, rfl⟩
open Go.RowKit Go.Eng Go.Nw Go.Rt
set_option maxRecDepth 10000 in
theorem O5 (l : List Int) (hlen : l.length ≤ 1000) {A : Option Addr} {cap B : Nat} {w0 : World} {H : List HP} {w : World} (hr : Rd B w0 H A (l.flatMap numF)) (hw : St B w0 H w) :
    Calls Tryz.prog 122 [.slice A l.length cap].toArray w (Post B w0 fun v K => ∃ A' cap', v = .slice A' l.length cap' ∧ K = sl 3 1 A' l.length cap' (l.flatMap numF) :: H) := by
  cases A with
  | none =>
    have hl : l = [] := by
      cases l with
      | nil => rfl
      | cons x l =>
        obtain ⟨g, o, e, _⟩ := hr w hw 0 _ rfl
        cases e
    subst hl
    refine Yf Tryz.func122 Tryz.ntmps122 rfl rfl hw ?_
    repeat' (first | (apply Us; exact rfl; exact rfl; exact rfl) | refine zgb ?_ | fail)
    apply Oo 3 1; apply Yg; exact rfl; exact rfl; exact ⟨none, 0, rfl, rfl⟩
  | some a =>
    refine Yf Tryz.func122 Tryz.ntmps122 rfl rfl hw ?_
    repeat' (first | (apply Us; exact rfl; exact rfl; exact rfl) | (apply Jf T; exact rfl; exact rfl; intro g2) | refine zgb ?_ | fail)
    apply Wb T (f := numF) (l2 := l) (e := 3) (size := 1) (xs := []); exact rfl; exact rfl; exact rfl; exact hr.cons; exact (fun _ => rfl); exact (fun _ => rfl); exact rfl; (intro _ _; exact zd); omega; intro A' cap'
    repeat' (first | refine zga ?_ | fail)
    rw [Nat.zero_add, List.nil_append]
    apply Yg; exact rfl; exact rfl; exact ⟨A', cap', rfl, rfl⟩
abbrev clA (g : Nat) (c : ClM) : HP := blk g (.cells #[.int .i64 c.flow, .slice c.rA c.rs.length c.rcap, .slice c.bA c.bs.length c.bcap, .slice c.wA c.ws.length c.wcap, .slice c.sA c.ss.length c.scap] 61 (0, 0))
theorem WB (e : Nat) (A : Option Addr) (cap : Nat) (l : List RowM) (r : RowM) : sl e 1 A (l.length + 1) cap (l.flatMap rowF ++ #[Value.slice r.A r.xs.length r.cap].toList) = sl e 1 A (l ++ [r]).length cap ((l ++ [r]).flatMap rowF) := by simp [List.flatMap_append, rowF]
theorem UB (f : RowM → HP) (l : List RowM) (r : RowM) (H : List HP) : Perm (f r :: many (l.map f) :: H) (many ((l ++ [r]).map f) :: H) := by
  have := Perm.push (f r) (l.map f) [] H
  rw [List.append_nil] at this
  rw [List.map_append]
  exact this
theorem YdO {S : Int → Option (List Int)} {len per : Int} {N : Nat} (hS : ∀ a l, S a = some l → l.length ≤ N) : ∀ {k : Nat} {rel : Int} {b0 b : Int × Int × List Int}, b0.2.2.length ≤ N → VG S len per k rel b0 = some b → b.2.2.length ≤ N
  | 0, rel, b0, b, h0, h => by
    unfold VG at h
    rw [← Option.some.inj h]; exact h0
  | k + 1, rel, b0, b, h0, h => by
    unfold VG at h
    split at h
    · rw [← Option.some.inj h]; exact h0
    cases hs : S rel with
    | none => rw [hs] at h; cases h
    | some l =>
      rw [hs] at h
      refine YdO hS ?_ h
      split
      · show (l.map _).length ≤ N
        rw [List.length_map]; exact hS _ _ hs
      · exact h0
theorem Yg3 {x : WayM} (hok : VX x) {b : Int × Int × List Int} (h : VZ x.n.net x.s.sch x.f x.r = some b) : b.2.2.length ≤ 72 := by
  have hl := hok.len
  refine YdO (fun a l hs => ?_) (Nat.zero_le _) h
  rw [Oh] at hs
  split at hs
  · cases hs
  rw [← Option.some.inj hs, List.length_map]
  have h1 : (runW x a).length ≤ Y8 (YB x.n.net x.r) := Qk _ _ _ _ _
  have h2 := Qg hok (YB x.n.net x.r).length
  rw [List.take_length, Vp] at h2
  omega
structure M8 (xs : List Int) where
  A1 : Option Addr
  c1 : Nat
  r : RowM
  hr : r.xs = xs
  A3 : Option Addr
  c3 : Nat
structure CkM where
  i : Nat
  c : ClM
def ClM.lens (c : ClM) : Prop := (c.rs.length ≤ 1000 ∧ c.bs.length ≤ 1000 ∧ c.ws.length ≤ 1000 ∧ c.ss.length ≤ 1000) ∧ (∀ r ∈ c.rs, r.xs.length ≤ 1000) ∧ ∀ r ∈ c.ss, r.xs.length ≤ 1000
set_option maxRecDepth 10000 in
set_option maxHeartbeats 8000000 in
theorem Yfm (n : NetM) (s : SchM) (x : RqM) {B : Nat} {w0 : World} {H : List HP} {w : World} (ht : TabsB B w0) (hin : n.In B w0 H) (hrs : Rd B w0 H s.A (s.cells.flatMap celF)) (hsl : s.cells.length ≤ 1000000000000) (hx : x.In B w0 H) (hr9 : x.rows.length ≤ 9) (hw : St B w0 H w) :
    Calls Tryz.prog 69 [n.val, s.val, rqV x].toArray w (Post B w0 fun v K => ∃ c : ClM, v = .tuple #[clV c, .bool (!(ZO n.net s.sch x.rq))] ∧ (ZO n.net s.sch x.rq = false → c.clm = clmE n.net s.sch x.rq ∧ c.lens) ∧ K = clQ c :: H) := by
  refine Yf Tryz.func69 Tryz.ntmps69 rfl rfl hw ?_
  have e1 : x.rq.1 = x.f := rfl
  have p1 := fun {H' : List HP} {w : World} (r : RowM) (hr : r ∈ x.rows) (hin : n.In B w0 H') (hrs : Rd B w0 H' s.A (s.cells.flatMap celF)) (hx : x.In B w0 H') (hw : St B w0 H' w) => YfQ ⟨n, s, x.f, r.A, r.cap, r.xs⟩ ht ⟨hin, hrs, hx.rw_ r hr, hsl, (hx.rl r hr).1, (hx.rl r hr).2⟩ hw
  unfold NetM.val SchM.val rqV
  repeat' (first | refine zgd ?_ | (refine zgh ?_; intro _) | fail)
  rename_i g3 g4 g5 g6 g8
  have hln : x.rq.2 = x.rows.map (·.xs) := rfl
  obtain ⟨P, hP⟩ : ∃ P, badR n.net s.sch x.f = P := ⟨_, rfl⟩
  have hla : ZO n.net s.sch x.rq = (x.rows.map (·.xs)).any P := by unfold ZO; rw [hln, e1, hP]
  rw [hla]
  refine Yn (fun z : CkM => [(22, .int .i64 (z.i : Nat)), (21, .int .i64 x.rows.length), (20, .slice x.A x.rows.length x.cap), (8, .pointer (some ⟨g8, 0, none⟩)), (6, .pointer (some ⟨g6, 0, none⟩)), (5, .pointer (some ⟨g5, 0, none⟩)), (4, .pointer (some ⟨g4, 0, none⟩)), (3, .pointer (some ⟨g3, 0, none⟩))]) (fun z => clA g8 z.c :: clQ z.c :: clA g6 (nilC 0) :: rqA g5 x :: schA g4 s :: netA g3 n :: H)
    (fun z => z.i ≤ x.rows.length ∧ z.c.clm = YdY n.net s.sch x.rq ((x.rows.take z.i).map (·.xs)) ∧ z.c.lens ∧ ((x.rows.take z.i).map (·.xs)).any P = false) (fun z => x.rows.length - z.i) ⟨0, nilC x.f.1⟩ ⟨Nat.zero_le _, rfl, ⟨by unfold nilC; simp, by unfold nilC; simp, by unfold nilC; simp⟩, by simp⟩ ?_ ?_ ?_
  · exact zu
  · intro w hw
    have h1 := Yau x.f.1 hw
    have h2 : St B w0 (clQ (nilC x.f.1) :: clA g8 (nilC x.f.1) :: clA g6 (nilC 0) :: rqA g5 x :: schA g4 s :: netA g3 n :: H) w := h1
    clear hw h1
    revert w
    exact zk
  rintro ⟨i, c⟩ ⟨hi, hcm, hlen, hno⟩ K hK
  dsimp only at hi hcm hlen hno ⊢
  have hrt : Rd B w0 (clA g8 c :: clQ c :: clA g6 (nilC 0) :: rqA g5 x :: schA g4 s :: netA g3 n :: H) x.A (x.rows.flatMap rowF) := hx.rt.cons.cons.cons.cons.cons.cons
  by_cases hlt : i < x.rows.length
  rotate_left
  · obtain rfl : i = x.rows.length := by omega
    rw [List.take_length] at hcm hno
    rw [hno]
    clear hK
    repeat' (first | refine zgd ?_ | (refine zge ?_ ?_ <;> intro _ <;> try (exfalso; omega)) | fail)
    apply Wf T (H2 := clQ c :: H); exact rfl; exact rfl; exact rfl; exact zm; exact rfl; exact rfl; exact zk
    exact ⟨c, rfl, fun _ => ⟨hcm, hlen⟩, rfl⟩
  obtain ⟨r, hr⟩ : ∃ r, x.rows[i]? = some r := ⟨_, List.getElem?_eq_getElem hlt⟩
  have hrm := List.mem_of_getElem? hr
  have hri := hx.rw_ r hrm
  have p2 := fun {H' : List HP} {w : World} (hin : n.In B w0 H') (hrs : Rd B w0 H' s.A (s.cells.flatMap celF)) (hx : x.In B w0 H') (hw : St B w0 H' w) => p1 r hrm hin hrs hx hw
  dsimp only at p2
  obtain ⟨⟨⟨m, wst, sx⟩, e⟩, hRt⟩ : ∃ z, YS n.net s.sch x.f r.xs = z := ⟨_, rfl⟩
  rw [hRt] at p2
  dsimp only at p2
  unfold flwV at p2
  repeat' (first | (apply YW T; exact rfl; exact zm; exact rfl; exact zv; exact rfl; exact rfl) | refine zgd ?_ | (refine zge ?_ ?_ <;> intro _ <;> try (exfalso; omega)) | fail)
  apply Yr _ en34
  exact za
  exact rfl
  exact fun _ hw => (p2 (hin.mono zk) (hrs.mono zk) (hx.mono zk) (hw))
  rintro _ _ ⟨A2, cap2, rfl, rfl⟩
  have hPr : P r.xs = decide (e ≠ 0 ∨ x.f.2.2.2.2.2 < m) := by rw [← hP]; unfold badR; rw [hRt]
  by_cases hbad : e ≠ 0 ∨ x.f.2.2.2.2.2 < m
  · rw [decide_eq_true hbad] at hPr
    have hany : (x.rows.map (·.xs)).any P = true := List.any_eq_true.2 ⟨r.xs, List.mem_map_of_mem hrm, hPr⟩
    rw [hany]
    clear hK
    by_cases he0 : e = 0
    all_goals (
      repeat' (first | refine zgd ?_ | (refine zge ?_ ?_ <;> intro _ <;> try (exfalso; omega)) | fail)
      apply Wf T (H2 := clQ (nilC 0) :: H); exact rfl; exact rfl; exact rfl; exact zm; exact rfl; exact rfl
      · intro w hw
        have h5 : St B w0 H w := by
          revert w
          exact zk
        exact Yau 0 h5
      exact ⟨nilC 0, rfl, (fun h => by cases h), rfl⟩)
  rw [decide_eq_false hbad] at hPr
  have he0 : e = 0 := Decidable.byContradiction fun h => hbad (.inl h)
  have hml : m ≤ x.f.2.2.2.2.2 := by omega
  subst he0
  obtain ⟨hri9, hsx9⟩ : r.xs.length ≤ 9 ∧ sx.length ≤ 72 := by
    have h0 : (YS n.net s.sch x.f r.xs).2 = 0 := by rw [hRt]
    obtain ⟨h1, b, h2, h3⟩ := WA h0
    have hok := YgO (x := ⟨n, s, x.f, r.A, r.cap, r.xs⟩) h1
    have h4 := Yg3 hok h2
    rw [hRt] at h3
    injection h3 with h3 _
    rw [← h3] at h4
    exact ⟨hok.len.2, h4⟩
  have hinv : ∀ (A1 : Option Addr) (c1 : Nat) (r8 : RowM) (_ : r8.xs = r.xs) (A3 : Option Addr) (c3 : Nat) (A4 : Option Addr) (c4 : Nat) (A5 : Option Addr) (c5 : Nat), (i + 1 ≤ x.rows.length ∧ (ClM.mk c.flow A1 c1 (c.rs ++ [r8]) A3 c3 (c.bs ++ [m]) A4 c4 (c.ws ++ [wst]) A5 c5 (c.ss ++ [⟨A2, cap2, sx⟩])).clm = YdY n.net s.sch x.rq ((x.rows.take (i + 1)).map (·.xs)) ∧ (ClM.mk c.flow A1 c1 (c.rs ++ [r8]) A3 c3 (c.bs ++ [m]) A4 c4 (c.ws ++ [wst]) A5 c5 (c.ss ++ [⟨A2, cap2, sx⟩])).lens ∧ ((x.rows.take (i + 1)).map (·.xs)).any P = false) := by
    intro A1 c1 r8 hr8 A3 c3 A4 c4 A5 c5
    have hst : (x.rows.take (i + 1)).map (·.xs) = (x.rows.take i).map (·.xs) ++ [r.xs] := by
      rw [List.take_add_one, hr, Option.toList_some, List.map_append]; rfl
    have hli : ((x.rows.take i).map (·.xs)).length = i := by rw [List.length_map, List.length_take]; omega
    rw [hst]
    unfold ClM.clm YdY at hcm
    injection hcm with f1 f2 f3 f4 f5
    have l1 : c.rs.length = i := by rw [← hli, ← f2, List.length_map]
    have l2 : c.bs.length = i := by rw [f3, List.length_map, hli]
    have l3 : c.ws.length = i := by rw [f4, List.length_map, hli]
    have l4 : c.ss.length = i := by
      have := congrArg List.length f5
      rw [List.length_map, List.length_map, hli] at this
      exact this
    refine ⟨by omega, ?_, ⟨?_, ?_, ?_⟩, ?_⟩
    · unfold ClM.clm YdY
      simp only [List.map_append, List.map_cons, List.map_nil, hr8, f1, f2, f3, f4, f5, e1, hRt]
    · simp only [List.length_append, List.length_cons, List.length_nil, l1, l2, l3, l4]
      omega
    · intro q hq
      rcases List.mem_append.1 hq with h | h
      · exact hlen.2.1 q h
      · rw [List.mem_singleton.1 h, hr8]; omega
    · intro q hq
      rcases List.mem_append.1 hq with h | h
      · exact hlen.2.2 q h
      · rw [List.mem_singleton.1 h]; show sx.length ≤ 1000; omega
    · rw [List.any_append, hno]
      simp [hPr]
  repeat' (first | refine zgc ?_ | (refine zge ?_ ?_ <;> intro _ <;> try (exfalso; omega)) | fail)
  refine VP (nrs A2 cap2 sx :: clA g8 c :: sl 72 1 c.rA c.rs.length c.rcap (c.rs.flatMap rowF) :: many (c.rs.map rowQ) :: nrs c.bA c.bcap c.bs :: nrs c.wA c.wcap c.ws :: sl 24 1 c.sA c.ss.length c.scap (c.ss.flatMap rowF) :: many (c.ss.map rowQ) :: clA g6 (nilC 0) :: rqA g5 x :: schA g4 s :: netA g3 n :: H) (fun w hw => hw.perm (.cons _ (.cons _ (.open_ (clP c) _)))) ?_
  have hl1 := hlen.1
  refine Zb (fun z : M8 r.xs => [(22, .int .i64 (i : Nat)), (21, .int .i64 x.rows.length), (20, .slice x.A x.rows.length x.cap), (8, .pointer (some ⟨g8, 0, none⟩)), (6, .pointer (some ⟨g6, 0, none⟩)), (5, .pointer (some ⟨g5, 0, none⟩)), (4, .pointer (some ⟨g4, 0, none⟩)), (3, .pointer (some ⟨g3, 0, none⟩)), (13, .slice A2 sx.length cap2), (12, .int .i64 wst)])
    (fun z => nrs A2 cap2 sx :: blk g8 (.cells #[.int .i64 c.flow, .slice z.A1 (c.rs ++ [z.r]).length z.c1, .slice z.A3 (c.bs ++ [m]).length z.c3, .slice c.wA c.ws.length c.wcap, .slice c.sA c.ss.length c.scap] 61 (0, 0)) :: sl 72 1 z.A1 (c.rs ++ [z.r]).length z.c1 ((c.rs ++ [z.r]).flatMap rowF) :: many ((c.rs ++ [z.r]).map rowQ) :: nrs z.A3 z.c3 (c.bs ++ [m]) :: nrs c.wA c.wcap c.ws :: sl 24 1 c.sA c.ss.length c.scap (c.ss.flatMap rowF) :: many (c.ss.map rowQ) :: clA g6 (nilC 0) :: rqA g5 x :: schA g4 s :: netA g3 n :: H) ?_ ?_
  · intro K8 hK8
    apply Wa (.n1 0 (.n1 1 (.n1 2 (.n1 6 (.n1 7 (.n1 8 (.n2 3 (.n2 4 (.n2 5 (.n1 11 (.n1 9 (.n1 10 .done))) 9 (.n1 5 (.n1 11 (.n1 10 .done)))) 9 (.n1 4 (.n1 5 (.n1 11 (.n1 10 .done))))) 9 (.n1 3 (.n1 4 (.n1 5 (.n1 11 (.n1 10 .done)))))))))))) [12, 13, 14] [false, true]
    kernel_rfl
    kernel_rfl
    exact zy
    (simp only [Yl, nthO]; rfl)
    repeat' (first | ((apply Yr _ Yl2); exact za; exact rfl; exact fun _ hw => O5 r.xs (by omega) (hri.mono zk) hw; rintro _ _ ⟨A8, cap8, rfl, rfl⟩) | (apply Yge; (simp only [nthO]; rfl); (simp only [nthO]; rfl)) | (apply Ygd; (simp only [nthO]; rfl)) | (apply Wg; (repeat (first | with_reducible exact Yh | (with_reducible apply Yd; (repeat (first | with_reducible exact Ye | with_reducible apply Yc)))))) | (apply Yi; (repeat (first | with_reducible exact Yh | (with_reducible apply Yd; (repeat (first | with_reducible exact Ye | with_reducible apply Yc)))))) | refine zgd ?_ | (refine zgh ?_; intro _) | (refine zgi ?_; intro _ _) | fail)
    all_goals (
      first
        | (rename_i A1 c1 g A3 c3; guard_hyp g : Nat; guard_hyp A1 : Option Addr)
        | (rename_i A1 c1 A3 c3; guard_hyp A1 : Option Addr)
      refine hK8 ⟨A1, c1, ⟨A8, cap8, r.xs⟩, rfl, A3, c3⟩ _ _ zu ?_
      intro w hw
      have q1 : sl 72 1 A1 (c.rs.length + 1) c1 (c.rs.flatMap rowF ++ #[Value.slice A8 r.xs.length cap8].toList) = sl 72 1 A1 (c.rs ++ [(⟨A8, cap8, r.xs⟩ : RowM)]).length c1 ((c.rs ++ [(⟨A8, cap8, r.xs⟩ : RowM)]).flatMap rowF) := WB _ _ _ _ ⟨A8, cap8, r.xs⟩
      rw [q1, ZQ, show c.rs.length + 1 = (c.rs ++ [(⟨A8, cap8, r.xs⟩ : RowM)]).length by simp, show c.bs.length + 1 = (c.bs ++ [m]).length by simp] at hw
      have h5 : St B w0 (nrs A2 cap2 sx :: blk g8 (.cells #[.int .i64 c.flow, .slice A1 (c.rs ++ [(⟨A8, cap8, r.xs⟩ : RowM)]).length c1, .slice A3 (c.bs ++ [m]).length c3, .slice c.wA c.ws.length c.wcap, .slice c.sA c.ss.length c.scap] 61 (0, 0)) :: sl 72 1 A1 (c.rs ++ [(⟨A8, cap8, r.xs⟩ : RowM)]).length c1 ((c.rs ++ [(⟨A8, cap8, r.xs⟩ : RowM)]).flatMap rowF) :: sl 3 1 A8 r.xs.length cap8 (r.xs.flatMap numF) :: many (c.rs.map rowQ) :: nrs A3 c3 (c.bs ++ [m]) :: nrs c.wA c.wcap c.ws :: sl 24 1 c.sA c.ss.length c.scap (c.ss.flatMap rowF) :: many (c.ss.map rowQ) :: clA g6 (nilC 0) :: rqA g5 x :: schA g4 s :: netA g3 n :: H) w := by
        clear q1
        revert w
        exact zk
      exact h5.perm (.cons _ (.cons _ (.cons _ (UB rowQ c.rs ⟨A8, cap8, r.xs⟩ _)))))
  rintro ⟨A1, c1, r8, hr8, A3, c3⟩
  dsimp only
  repeat' (first | fail)
  apply Wa (.n1 0 (.n1 1 (.n1 2 (.n1 5 (.n1 6 (.n1 7 (.n2 3 (.n2 4 (.n1 10 (.n1 8 (.n1 9 .done))) 8 (.n1 4 (.n1 10 (.n1 9 .done)))) 8 (.n1 3 (.n1 4 (.n1 10 (.n1 9 .done))))))))))) [11, 12, 13] [false, true]
  kernel_rfl
  kernel_rfl
  exact zy
  (simp only [Yl, nthO]; rfl)
  repeat' (first | (apply Yge; (simp only [nthO]; rfl); (simp only [nthO]; rfl)) | (apply Ygd; (simp only [nthO]; rfl)) | (apply Wg; (repeat (first | with_reducible exact Yh | (with_reducible apply Yd; (repeat (first | with_reducible exact Ye | with_reducible apply Yc)))))) | (apply Yi; (repeat (first | with_reducible exact Yh | (with_reducible apply Yd; (repeat (first | with_reducible exact Ye | with_reducible apply Yc)))))) | refine zgd ?_ | (refine zgh ?_; intro _) | (refine zgi ?_; intro _ _) | fail)
  all_goals (
    first
      | (rename_i A4 c4 g A5 c5; guard_hyp g : Nat; guard_hyp A4 : Option Addr)
      | (rename_i A4 c4 A5 c5; guard_hyp A4 : Option Addr)
    refine hK ⟨i + 1, ⟨c.flow, A1, c1, c.rs ++ [r8], A3, c3, c.bs ++ [m], A4, c4, c.ws ++ [wst], A5, c5, c.ss ++ [⟨A2, cap2, sx⟩]⟩⟩ ?_ ?_ _ _ zu ?_
    · exact hinv A1 c1 r8 hr8 A3 c3 A4 c4 A5 c5
    · dsimp only; omega
    intro w hw
    have q1 : sl 24 1 A5 (c.ss.length + 1) c5 (c.ss.flatMap rowF ++ #[Value.slice A2 sx.length cap2].toList) = sl 24 1 A5 (c.ss ++ [(⟨A2, cap2, sx⟩ : RowM)]).length c5 ((c.ss ++ [(⟨A2, cap2, sx⟩ : RowM)]).flatMap rowF) := WB _ _ _ _ ⟨A2, cap2, sx⟩
    rw [q1, ZQ, show c.ss.length + 1 = (c.ss ++ [(⟨A2, cap2, sx⟩ : RowM)]).length by simp, show c.ws.length + 1 = (c.ws ++ [wst]).length by simp] at hw
    have h5 : St B w0 (blk g8 (.cells #[.int .i64 c.flow, .slice A1 (c.rs ++ [r8]).length c1, .slice A3 (c.bs ++ [m]).length c3, .slice A4 (c.ws ++ [wst]).length c4, .slice A5 (c.ss ++ [(⟨A2, cap2, sx⟩ : RowM)]).length c5] 61 (0, 0)) :: sl 72 1 A1 (c.rs ++ [r8]).length c1 ((c.rs ++ [r8]).flatMap rowF) :: many ((c.rs ++ [r8]).map rowQ) :: nrs A3 c3 (c.bs ++ [m]) :: nrs A4 c4 (c.ws ++ [wst]) :: sl 24 1 A5 (c.ss ++ [(⟨A2, cap2, sx⟩ : RowM)]).length c5 ((c.ss ++ [(⟨A2, cap2, sx⟩ : RowM)]).flatMap rowF) :: nrs A2 cap2 sx :: many (c.ss.map rowQ) :: clA g6 (nilC 0) :: rqA g5 x :: schA g4 s :: netA g3 n :: H) w := by
      clear q1
      revert w
      exact zk
    have h6 := h5.perm (.cons _ (.cons _ (.cons _ (.cons _ (.cons _ (.cons _ (UB rowQ c.ss ⟨A2, cap2, sx⟩ _)))))))
    exact h6.perm (.cons _ (.close [_, _, _, _, _, _] _)))
open Go.RowKit Go.Eng Go.Nw Go.Rt
structure AttM where
  slot : Int
  frame : Int
  c : Cel
  o : Int
structure StM where
  frame : Int
  since : Int → Option Int
  acked : Int → Int → Option Int
  done : Bool
structure PlM where
  st : List StM
  atts : List AttM
  dels : List (Int × Int × Int)
def perF (f : Flw) : Int := f.2.2.2.1
def phaF (f : Flw) : Int := f.2.2.2.2.1
def dstF (f : Flw) : Int := f.2.2.1
def Yy (f : Flw) (k : Int) : Int := phaF f + k * perF f
def JX (f : Flw) (n : Int) : Int := if n < phaF f then -1 else (n - phaF f) / perF f
def newS (f : Flw) (n k : Int) : StM := ⟨k, fun v => if v = f.2.1 then some n else none, fun _ _ => none, false⟩
def relS (f : Flw) (n : Int) (x : StM) : StM := if n < phaF f then x else if (n - phaF f) / perF f = x.frame then x else newS f n ((n - phaF f) / perF f)
def canT (f : Flw) (x : StM) (c : Cel) (n : Int) : Prop := 0 ≤ x.frame ∧ (∃ a, x.since (Yz c) = some a ∧ a ≤ n) ∧ Yz c ≠ dstF f ∧ ∀ t, x.acked (Yz c) (toC c) = some t → n ≤ t
def ZS (f : Flw) (x : StM) (c : Cel) (n o : Int) : StM :=
  ⟨x.frame, if o = 3 ∨ (x.since (toC c)).isSome then x.since else fun v => if v = toC c then some (n + 1) else x.since v,
    if o = 1 ∧ x.acked (Yz c) (toC c) = none then fun u v => if u = Yz c ∧ v = toC c then some n else x.acked u v else x.acked,
    x.done || (decide (o ≠ 3) && decide (toC c = dstF f))⟩
def delS (f : Flw) (x : StM) (c : Cel) (n o : Int) : List (Int × Int × Int) := if o ≠ 3 ∧ toC c = dstF f ∧ x.done = false then [(f.1, x.frame, n)] else []
def Yf4 : StM := ⟨-1, fun _ => none, fun _ _ => none, false⟩
inductive Pl (l : List Flw) (s : Sch) : Int → Nat → PlM → Prop
  | start : Pl l s 0 0 ⟨l.map fun _ => Yf4, [], []⟩
  | rel {n : Int} {p : PlM} (st : List StM) : Pl l s n 0 p → st.length = l.length → (∀ (i : Nat) f x, l[i]? = some f → p.st[i]? = some x → st[i]? = some (relS f n x)) → Pl l s n 1 ⟨st, p.atts, p.dels⟩
  | skip {n : Int} {j : Nat} {p : PlM} {c : Cel} : Pl l s n (j + 1) p → (atE s n)[j]? = some c → (∀ (i : Nat) f x, l[i]? = some f → p.st[i]? = some x → f.1 = Xo c → ¬ canT f x c n) → Pl l s n (j + 2) p
  | att {n : Int} {j i : Nat} {p : PlM} {c : Cel} {f : Flw} {x : StM} (o : Int) : Pl l s n (j + 1) p → (atE s n)[j]? = some c → l[i]? = some f → p.st[i]? = some x → f.1 = Xo c → canT f x c n →
      Pl l s n (j + 2) ⟨p.st.set i (ZS f x c n o), p.atts ++ [⟨n, x.frame, c, o⟩], p.dels ++ delS f x c n o⟩
  | next {n : Int} {p : PlM} (ds : List (Int × Int × Int)) : Pl l s n ((atE s n).length + 1) p → ds.Perm p.dels → Pl l s (n + 1) 0 ⟨p.st, p.atts, ds⟩
def onK (id k u v : Int) (a : AttM) : Bool := decide (Xo a.c = id ∧ a.frame = k ∧ Yz a.c = u ∧ toC a.c = v)
def keyL (atts : List AttM) (id k u v : Int) : List AttM := atts.filter (onK id k u v)
def cntL (s : Sch) (q : Cel → Bool) : Nat → Int → Nat
  | 0, _ => 0
  | m + 1, a => ((atE s a).filter q).length + cntL s q m (a + 1)
def Zv (s : Sch) (q : Cel → Bool) (b : Option Int) (a0 n : Int) (j : Nat) : Nat :=
  match b with
  | some b => cntL s q (b - 1 - a0).toNat a0
  | none => cntL s q (n - a0).toNat a0 + if a0 ≤ n then (((atE s n).take j).filter q).length else 0
def Hop (s : Sch) (f : Flw) (k : Int) (atts : List AttM) (since : Int → Option Int) (n : Int) (j : Nat) : Prop :=
  ∀ u v a0, u ≠ dstF f → since u = some a0 → ∃ K1, K1 <+: keyL atts f.1 k u v ∧ (∀ a ∈ K1, a.o = 3) ∧ Zv s (onP f.1 u v) (since v) a0 n j ≤ K1.length
def Dlv (f : Flw) (k : Int) (dels : List (Int × Int × Int)) (since : Int → Option Int) : Prop :=
  (∀ d ∈ dels, d.1 = f.1 → d.2.1 = k → since (dstF f) = some (d.2.2 + 1)) ∧ ∀ b, since (dstF f) = some b → (f.1, k, b - 1) ∈ dels
structure Arch (s : Sch) (f : Flw) (k n : Int) (j : Nat) (p : PlM) (since : Int → Option Int) : Prop where
  src : since f.2.1 = some (Yy f k)
  hop : Hop s f k p.atts since n j
  dlv : Dlv f k p.dels since
structure Cur (f : Flw) (x : StM) (p : PlM) (n : Int) (m : Nat) : Prop where
  done : x.done = (x.since (dstF f)).isSome
  ack : ∀ u v t, x.acked u v = some t → (x.since v).isSome = true
  lost : ∀ u v, x.since v = none → ∀ a ∈ keyL p.atts f.1 x.frame u v, a.o = 3
  bd : ∀ v b, x.since v = some b → b ≤ n + m
structure JO (s : Sch) (f : Flw) (x : StM) (n : Int) (J : Nat) (p : PlM) : Prop where
  frame : x.frame = JX f (if J = 0 then n - 1 else n)
  none_a : ∀ a ∈ p.atts, Xo a.c = f.1 → a.frame ≤ x.frame
  none_d : ∀ d ∈ p.dels, d.1 = f.1 → d.2.1 ≤ x.frame
  cur : 0 ≤ x.frame → Cur f x p n (if J = 0 then 0 else 1) ∧ Arch s f x.frame n (J - 1) p x.since
  old : ∀ k, 0 ≤ k → k < x.frame → ∃ since, Arch s f k (Yy f k + perF f) 0 p since
structure FlOk (f : Flw) : Prop where
  per : 1 ≤ perF f
  pha : 0 ≤ phaF f
  ne : f.2.1 ≠ dstF f
theorem YbX (atts : List AttM) (a : AttM) (id k u v : Int) : keyL (atts ++ [a]) id k u v = keyL atts id k u v ++ if onK id k u v a then [a] else [] := by
  unfold keyL
  rw [List.filter_append]
  congr 1
  by_cases h : onK id k u v a = true <;> simp [h]
theorem YbA (s : Sch) (q : Cel → Bool) : ∀ (m : Nat) (a : Int), cntL s q (m + 1) a = cntL s q m a + ((atE s (a + m)).filter q).length
  | 0, a => by simp [cntL]
  | m + 1, a => by
    rw [cntL, YbA s q m (a + 1), cntL]
    rw [show a + 1 + (m : Int) = a + ((m + 1 : Nat) : Int) by omega]
    omega
theorem QN (s : Sch) (q : Cel → Bool) : ∀ (m k : Nat) (a : Int), cntL s q (m + k) a = cntL s q m a + cntL s q k (a + m)
  | 0, k, a => by simp [cntL]
  | m + 1, k, a => by
    rw [show m + 1 + k = (m + k) + 1 by omega, cntL, QN s q m k (a + 1), cntL]
    rw [show a + 1 + (m : Int) = a + ((m + 1 : Nat) : Int) by omega]
    omega
theorem Ybz (s : Sch) (q : Cel → Bool) {a0 a b b0 : Int} (h1 : a0 ≤ a) (h2 : b ≤ b0) : cntL s q (b - a).toNat a ≤ cntL s q (b0 - a0).toNat a0 := by
  by_cases h : a ≤ b
  · obtain ⟨x, hx⟩ : ∃ x : Nat, a = a0 + x := ⟨(a - a0).toNat, by omega⟩
    obtain ⟨y, hy⟩ : ∃ y : Nat, b = a + y := ⟨(b - a).toNat, by omega⟩
    obtain ⟨z, hz⟩ : ∃ z : Nat, b0 = b + z := ⟨(b0 - b).toNat, by omega⟩
    rw [show (b - a).toNat = y by omega, show (b0 - a0).toNat = x + (y + z) by omega, QN, QN, hx]
    omega
  · rw [show (b - a).toNat = 0 by omega]
    exact Nat.zero_le _
theorem Arch.mono {s : Sch} {f : Flw} {k n : Int} {j : Nat} {p p' : PlM} {since : Int → Option Int} (h : Arch s f k n j p since)
    (ha : ∀ u v, keyL p.atts f.1 k u v <+: keyL p'.atts f.1 k u v) (hd : ∀ d, d.1 = f.1 → d.2.1 = k → (d ∈ p'.dels ↔ d ∈ p.dels)) : Arch s f k n j p' since := by
  refine ⟨h.src, fun u v a0 hu hs => ?_, ?_, ?_⟩
  · obtain ⟨K1, h1, h2, h3⟩ := h.hop u v a0 hu hs
    exact ⟨K1, h1.trans (ha u v), h2, h3⟩
  · intro d hm h1 h2
    exact h.dlv.1 d ((hd d h1 h2).1 hm) h1 h2
  · intro b hb
    exact (hd (f.1, k, b - 1) rfl rfl).2 (h.dlv.2 b hb)
theorem Yf0 {α : Type} {L : List α} {j : Nat} {c : α} (h : L[j]? = some c) : L.take (j + 1) = L.take j ++ [c] := by
  rw [List.take_add_one, h]; rfl
theorem YbN {L : List Cel} {j : Nat} {c : Cel} (h : L[j]? = some c) (q : Cel → Bool) : ((L.take (j + 1)).filter q).length = ((L.take j).filter q).length + if q c then 1 else 0 := by
  rw [Yf0 h, List.filter_append, List.length_append]
  by_cases hq : q c = true <;> simp [hq]
theorem Yas {s : Sch} {n a0 : Int} {j : Nat} {c : Cel} (h : (atE s n)[j]? = some c) {q : Cel → Bool} (hq : q c = false) (b : Option Int) : Zv s q b a0 n (j + 1) = Zv s q b a0 n j := by
  unfold Zv
  cases b with
  | some b => rfl
  | none => simp only [YbN h, hq, Bool.false_eq_true, if_false, Nat.add_zero]
theorem Ykn {s : Sch} {n a0 : Int} {j : Nat} {c : Cel} (h : (atE s n)[j]? = some c) (q : Cel → Bool) (b : Option Int) : Zv s q b a0 n (j + 1) ≤ Zv s q b a0 n j + 1 := by
  unfold Zv
  cases b with
  | some b => exact Nat.le_succ _
  | none =>
    simp only [YbN h]
    split <;> (try split) <;> omega
theorem Yb4 {s : Sch} {n a0 : Int} {j : Nat} {q : Cel → Bool} (h : n < a0) : Zv s q none a0 n j = 0 := by
  unfold Zv
  simp only [if_neg (show ¬ a0 ≤ n by omega), show (n - a0).toNat = 0 by omega, cntL]
theorem YcW {id u v : Int} {c : Cel} : onP id u v c = true ↔ Xo c = id ∧ Yz c = u ∧ toC c = v := by simp [onP]
theorem Arch.offs {s : Sch} {f : Flw} {k n : Int} {j : Nat} {p : PlM} {since : Int → Option Int} {c : Cel} (h : Arch s f k n j p since) (hc : (atE s n)[j]? = some c) (hf : Xo c ≠ f.1) : Arch s f k n (j + 1) p since := by
  refine ⟨h.src, fun u v a0 hu hs => ?_, h.dlv⟩
  obtain ⟨K1, h1, h2, h3⟩ := h.hop u v a0 hu hs
  refine ⟨K1, h1, h2, ?_⟩
  rw [Yas hc]
  · exact h3
  · cases hq : onP f.1 u v c with
    | false => rfl
    | true => exact absurd (YcW.1 hq).1 hf
theorem YiR {f : Flw} (hf : FlOk f) {n : Int} (h : phaF f ≤ n) : (n - phaF f) / perF f = JX f (n - 1) ∨ ((n - phaF f) / perF f = JX f (n - 1) + 1 ∧ n = Yy f ((n - phaF f) / perF f)) := by
  have hp := hf.per
  unfold JX Yy
  by_cases h1 : n - 1 < phaF f
  · right
    rw [if_pos h1]
    have : n = phaF f := by omega
    subst this
    simp
  · rw [if_neg h1]
    generalize phaF f = a at *
    generalize perF f = q at *
    have e1 := Int.mul_ediv_add_emod (n - a) q
    have e2 := Int.mul_ediv_add_emod (n - 1 - a) q
    have b1 := Int.emod_nonneg (n - a) (show q ≠ 0 by omega)
    have b2 := Int.emod_lt_of_pos (n - a) (show 0 < q by omega)
    have b3 := Int.emod_nonneg (n - 1 - a) (show q ≠ 0 by omega)
    have b4 := Int.emod_lt_of_pos (n - 1 - a) (show 0 < q by omega)
    generalize (n - a) / q = x at *
    generalize (n - 1 - a) / q = y at *
    by_cases hxy : x = y
    · exact .inl hxy
    · right
      have hge : y ≤ x := by
        apply Int.not_lt.1
        intro hlt
        have := Int.mul_le_mul_of_nonneg_left (show x + 1 ≤ y by omega) (show 0 ≤ q by omega)
        rw [Int.mul_add] at this
        omega
      have hle : x ≤ y + 1 := by
        apply Int.not_lt.1
        intro hlt
        have := Int.mul_le_mul_of_nonneg_left (show y + 2 ≤ x by omega) (show 0 ≤ q by omega)
        rw [Int.mul_add] at this
        omega
      have hx : x = y + 1 := by omega
      refine ⟨hx, ?_⟩
      subst hx
      rw [Int.mul_add] at e1
      rw [Int.mul_comm (y + 1) q, Int.mul_add]
      omega
theorem Yhn {atts : List AttM} {id k u v : Int} (h : ∀ a ∈ atts, Xo a.c = id → a.frame < k) : keyL atts id k u v = [] := by
  unfold keyL
  rw [List.filter_eq_nil_iff]
  intro a ha hq
  simp only [onK, decide_eq_true_eq] at hq
  have := h a ha hq.1
  omega
theorem Ykh {s : Sch} {f : Flw} {x : StM} {n : Int} {p : PlM} {st : List StM} (hf : FlOk f) (h : JO s f x n 0 p) : JO s f (relS f n x) n 1 ⟨st, p.atts, p.dels⟩ := by
  have hfr : x.frame = JX f (n - 1) := h.frame
  have same : x.frame = JX f n → relS f n x = x → JO s f (relS f n x) n 1 ⟨st, p.atts, p.dels⟩ := by
    intro h1 h2
    rw [h2]
    refine ⟨h1, h.none_a, h.none_d, fun h0 => ?_, fun k h1 h2 => ?_⟩
    · obtain ⟨hc, ha⟩ := h.cur h0
      refine ⟨⟨hc.done, hc.ack, hc.lost, fun v b hb => ?_⟩, ha.mono (fun u v => List.prefix_refl _) (fun d _ _ => Iff.rfl)⟩
      have := hc.bd v b hb
      simp only [if_true] at this
      simp only [Nat.one_ne_zero, if_false]
      omega
    · obtain ⟨since, ha⟩ := h.old k h1 h2
      exact ⟨since, ha.mono (fun u v => List.prefix_refl _) (fun d _ _ => Iff.rfl)⟩
  by_cases h1 : n < phaF f
  · refine same ?_ (by unfold relS; rw [if_pos h1])
    rw [hfr]; unfold JX; rw [if_pos h1, if_pos (by omega)]
  · have e : JX f n = (n - phaF f) / perF f := by unfold JX; rw [if_neg h1]
    rcases YiR hf (n := n) (by omega) with h2 | ⟨h2, h3⟩
    · refine same (by rw [hfr, e, h2]) ?_
      unfold relS; rw [if_neg h1, if_pos (by rw [h2, hfr])]
    · generalize hk : (n - phaF f) / perF f = k at *
      have hne : k ≠ x.frame := by omega
      have hrel : relS f n x = newS f n k := by unfold relS; rw [if_neg h1, hk, if_neg hne]
      rw [hrel]
      have ha0 : ∀ a ∈ p.atts, Xo a.c = f.1 → a.frame < k := fun a hm hq => by have := h.none_a a hm hq; omega
      have hk0 : ∀ u v, keyL p.atts f.1 k u v = [] := fun u v => Yhn ha0
      have hdst : (newS f n k).since (dstF f) = none := by
        show (if dstF f = f.2.1 then some n else none) = none
        rw [if_neg fun e => hf.ne e.symm]
      have hsince : ∀ v b, (newS f n k).since v = some b → v = f.2.1 ∧ b = n := by
        intro v b hb
        change (if v = f.2.1 then some n else none) = some b at hb
        split at hb
        · rename_i hv
          exact ⟨hv, (Option.some.inj hb).symm⟩
        · cases hb
      refine ⟨e.symm, fun a hm hq => Int.le_of_lt (ha0 a hm hq), fun d hm hq => ?_, fun h0 => ⟨⟨?_, ?_, ?_, ?_⟩, ⟨?_, ?_, ?_, ?_⟩⟩, fun k' hk1 hk2 => ?_⟩
      · have := h.none_d d hm hq
        show d.2.1 ≤ k
        omega
      · rw [hdst]; rfl
      · intro u v t ht; cases ht
      · intro u v _ a hm
        change a ∈ keyL p.atts f.1 k u v at hm
        rw [hk0] at hm; cases hm
      · intro v b hb
        obtain ⟨-, rfl⟩ := hsince v b hb
        simp only [Nat.one_ne_zero, if_false]; omega
      · show (if f.2.1 = f.2.1 then some n else none) = some (Yy f k)
        rw [if_pos rfl, h3]
      · intro u v a0 hu hs
        obtain ⟨rfl, rfl⟩ := hsince u a0 hs
        refine ⟨[], List.nil_prefix, fun a h => by simp at h, ?_⟩
        unfold Zv
        cases hv : (newS f a0 k).since v with
        | some b =>
          obtain ⟨-, rfl⟩ := hsince v b hv
          simp only [show (b - 1 - b).toNat = 0 by omega, cntL, Nat.le_refl, List.length_nil]
        | none => simp [cntL]
      · intro d hm h1 h2
        have := h.none_d d hm h1
        change d.2.1 = k at h2
        omega
      · intro b hb
        rw [hdst] at hb; cases hb
      · change k' < k at hk2
        by_cases hlt : k' < x.frame
        · obtain ⟨since, ha⟩ := h.old k' hk1 hlt
          exact ⟨since, ha.mono (fun u v => List.prefix_refl _) (fun d _ _ => Iff.rfl)⟩
        · have hk' : k' = x.frame := by omega
          subst hk'
          obtain ⟨hc, ha⟩ := h.cur hk1
          refine ⟨x.since, ?_⟩
          have hn : n = Yy f x.frame + perF f := by
            rw [h3, show k = x.frame + 1 by omega]
            unfold Yy
            rw [Int.add_mul]; omega
          rw [← hn]
          exact ha.mono (fun u v => List.prefix_refl _) (fun d _ _ => Iff.rfl)
theorem YiX {s : Sch} {f : Flw} {x : StM} {n : Int} {j : Nat} {p : PlM} {c : Cel} (h : JO s f x n (j + 1) p) (hc : (atE s n)[j]? = some c) (hn : f.1 = Xo c → ¬ canT f x c n) : JO s f x n (j + 2) p := by
  refine ⟨h.frame, h.none_a, h.none_d, fun h0 => ?_, h.old⟩
  obtain ⟨hu, ha⟩ := h.cur h0
  refine ⟨hu, ha.src, fun u v a0 hud hs => ?_, ha.dlv⟩
  obtain ⟨K1, h1, h2, h3⟩ := ha.hop u v a0 hud hs
  refine ⟨K1, h1, h2, ?_⟩
  change Zv s (onP f.1 u v) (x.since v) a0 n j ≤ K1.length at h3
  show Zv s (onP f.1 u v) (x.since v) a0 n (j + 1) ≤ K1.length
  cases hq : onP f.1 u v c with
  | false => rw [Yas hc hq]; exact h3
  | true =>
    obtain ⟨q1, q2, q3⟩ := YcW.1 hq
    cases hv : x.since v with
    | some b => rw [hv] at h3; exact h3
    | none =>
      by_cases hle : a0 ≤ n
      · exfalso
        refine hn q1.symm ⟨h0, ⟨a0, by rw [q2]; exact hs, hle⟩, by rw [q2]; exact hud, fun t ht => ?_⟩
        have := hu.ack _ _ t ht
        rw [q3, hv] at this
        cases this
      · rw [Yb4 (by omega)]; exact Nat.zero_le _
theorem Yhk {s : Sch} {f g : Flw} {x : StM} {n k o : Int} {j : Nat} {p : PlM} {c : Cel} {st : List StM} {ds : List (Int × Int × Int)} (h : JO s f x n (j + 1) p) (hc : (atE s n)[j]? = some c) (hg : g.1 = Xo c) (hne : f.1 ≠ g.1) (hds : ∀ d ∈ ds, d.1 = g.1) :
    JO s f x n (j + 2) ⟨st, p.atts ++ [⟨n, k, c, o⟩], p.dels ++ ds⟩ := by
  have hfc : Xo c ≠ f.1 := fun e => hne (by rw [hg, e])
  have hk : ∀ k' u v, keyL (p.atts ++ [⟨n, k, c, o⟩]) f.1 k' u v = keyL p.atts f.1 k' u v := by
    intro k' u v
    rw [YbX]
    have : onK f.1 k' u v ⟨n, k, c, o⟩ = false := by
      simp only [onK, decide_eq_false_iff_not]
      exact fun hq => hfc hq.1
    rw [this]; simp
  have hd : ∀ d, d.1 = f.1 → ∀ k', d.2.1 = k' → (d ∈ p.dels ++ ds ↔ d ∈ p.dels) := by
    intro d h1 k' _
    rw [List.mem_append]
    refine ⟨fun h => h.elim id fun h => absurd ((hds d h).symm.trans h1) (fun e => hne e.symm), .inl⟩
  refine ⟨h.frame, fun a hm hq => ?_, fun d hm hq => ?_, fun h0 => ?_, fun k' h1 h2 => ?_⟩
  · rcases List.mem_append.1 hm with hm | hm
    · exact h.none_a a hm hq
    · obtain rfl := List.mem_singleton.1 hm
      exact absurd hq hfc
  · exact h.none_d d ((hd d hq _ rfl).1 hm) hq
  · obtain ⟨hu, ha⟩ := h.cur h0
    refine ⟨⟨hu.done, hu.ack, fun u v hv a hm => ?_, hu.bd⟩, (ha.offs hc hfc).mono (fun u v => by rw [hk]; exact List.prefix_refl _) (fun d h1 h2 => hd d h1 _ h2)⟩
    change a ∈ keyL (p.atts ++ [⟨n, k, c, o⟩]) f.1 x.frame u v at hm
    rw [hk] at hm
    exact hu.lost u v hv a hm
  · obtain ⟨since, ha⟩ := h.old k' h1 h2
    exact ⟨since, ha.mono (fun u v => by rw [hk]; exact List.prefix_refl _) (fun d h1 h2 => hd d h1 _ h2)⟩
theorem XC {f : Flw} {x : StM} {c : Cel} {n o : Int} {v b : Int} (h : (ZS f x c n o).since v = some b) : x.since v = some b ∨ (v = toC c ∧ b = n + 1 ∧ o ≠ 3 ∧ x.since v = none) := by
  change (if o = 3 ∨ (x.since (toC c)).isSome then x.since else fun v => if v = toC c then some (n + 1) else x.since v) v = some b at h
  split at h
  · exact .inl h
  · rename_i hno
    simp only [] at h
    split at h
    · rename_i hv
      refine .inr ⟨hv, (Option.some.inj h).symm, fun e => hno (.inl e), ?_⟩
      rw [hv]
      cases hx : x.since (toC c) with
      | none => rfl
      | some z => exact absurd (.inr (by rw [hx]; rfl)) hno
    · exact .inl h
theorem Jc {f : Flw} {x : StM} {c : Cel} {n o : Int} {v b : Int} (h : x.since v = some b) : (ZS f x c n o).since v = some b := by
  show (if o = 3 ∨ (x.since (toC c)).isSome then x.since else fun v => if v = toC c then some (n + 1) else x.since v) v = some b
  split
  · exact h
  · rename_i hno
    simp only []
    split
    · rename_i hv
      exact absurd (.inr (by rw [← hv, h]; rfl)) hno
    · exact h
theorem Qi {f : Flw} {x : StM} {c : Cel} {n o : Int} (ho : o ≠ 3) : ((ZS f x c n o).since (toC c)).isSome = true := by
  show ((if o = 3 ∨ (x.since (toC c)).isSome then x.since else fun v => if v = toC c then some (n + 1) else x.since v) (toC c)).isSome = true
  split
  · rename_i h
    exact h.resolve_left ho
  · simp
theorem Yb8 {f : Flw} {x : StM} {c : Cel} {n o : Int} {v : Int} (h : (ZS f x c n o).since v = none) : x.since v = none ∧ (v = toC c → o = 3) := by
  constructor
  · cases hx : x.since v with
    | none => rfl
    | some b => rw [Jc hx] at h; cases h
  · rintro rfl
    by_cases ho : o = 3
    · exact ho
    · have := Qi (f := f) (x := x) (c := c) (n := n) ho
      rw [h] at this
      cases this
theorem Ykg {s : Sch} {f : Flw} {x : StM} {n o : Int} {j : Nat} {p : PlM} {c : Cel} {st : List StM} (h : JO s f x n (j + 1) p) (hc : (atE s n)[j]? = some c) (hn : canT f x c n) :
    JO s f (ZS f x c n o) n (j + 2) ⟨st, p.atts ++ [⟨n, x.frame, c, o⟩], p.dels ++ delS f x c n o⟩ := by
  obtain ⟨h0, ⟨a1, hs1, hle1⟩, hdst, hack⟩ := hn
  obtain ⟨hu, ha⟩ := h.cur h0
  have hk : ∀ k' u v, keyL (p.atts ++ [⟨n, x.frame, c, o⟩]) f.1 k' u v = keyL p.atts f.1 k' u v ++ if onK f.1 k' u v ⟨n, x.frame, c, o⟩ then [⟨n, x.frame, c, o⟩] else [] := fun k' u v => YbX ..
  have hdel : ∀ d ∈ delS f x c n o, d = (f.1, x.frame, n) ∧ o ≠ 3 ∧ toC c = dstF f ∧ x.done = false := by
    intro d hd
    unfold delS at hd
    split at hd
    · rename_i hq
      exact ⟨List.mem_singleton.1 hd, hq⟩
    · cases hd
  have hbd : ∀ v b, x.since v = some b → b ≤ n + 1 := fun v b hb => by
    have := hu.bd v b hb
    simp only [Nat.add_eq_zero_iff, Nat.one_ne_zero, and_false, if_false] at this
    omega
  refine ⟨h.frame, fun a hm hq => ?_, fun d hm hq => ?_, fun _ => ⟨⟨?_, fun u v t ht => ?_, fun u v hv a hm => ?_, fun v b hb => ?_⟩, ⟨Jc ha.src, fun u v a0 hud hs => ?_, fun d hm h1 h2 => ?_, fun b hb => ?_⟩⟩, fun k' h1 h2 => ?_⟩
  · rcases List.mem_append.1 hm with hm | hm
    · exact h.none_a a hm hq
    · obtain rfl := List.mem_singleton.1 hm
      exact Int.le_refl _
  · rcases List.mem_append.1 hm with hm | hm
    · exact h.none_d d hm hq
    · obtain ⟨rfl, -⟩ := hdel d hm
      exact Int.le_refl _
  · -- done
    show (x.done || (decide (o ≠ 3) && decide (toC c = dstF f))) = ((ZS f x c n o).since (dstF f)).isSome
    cases hx : x.since (dstF f) with
    | some b => rw [Jc hx, hu.done, hx]; rfl
    | none =>
      rw [hu.done, hx]
      by_cases h3 : o = 3
      · cases hr : (ZS f x c n o).since (dstF f) with
        | none => simp [h3]
        | some b =>
          rcases XC hr with h | h
          · rw [hx] at h; cases h
          · exact absurd h3 h.2.2.1
      · by_cases ht : toC c = dstF f
        · rw [← ht, Qi h3]; simp [h3]
        · cases hr : (ZS f x c n o).since (dstF f) with
          | none => simp [ht]
          | some b =>
            rcases XC hr with h | h
            · rw [hx] at h; cases h
            · exact absurd h.1.symm ht
  · -- acked
    change (if o = 1 ∧ x.acked (Yz c) (toC c) = none then fun u v => if u = Yz c ∧ v = toC c then some n else x.acked u v else x.acked) u v = some t at ht
    have old : x.acked u v = some t → ((ZS f x c n o).since v).isSome = true := by
      intro ht
      have := hu.ack u v t ht
      cases hx : x.since v with
      | none => rw [hx] at this; cases this
      | some b => rw [Jc hx]; rfl
    split at ht
    · rename_i ho
      simp only [] at ht
      split at ht
      · rename_i huv
        rw [huv.2]
        exact Qi (by rw [ho.1]; decide)
      · exact old ht
    · exact old ht
  · -- lost
    obtain ⟨hv1, hv2⟩ := Yb8 hv
    change a ∈ keyL (p.atts ++ [⟨n, x.frame, c, o⟩]) f.1 x.frame u v at hm
    rw [hk] at hm
    rcases List.mem_append.1 hm with hm | hm
    · exact hu.lost u v hv1 a hm
    · split at hm
      · rename_i hq
        obtain rfl := List.mem_singleton.1 hm
        simp only [onK, decide_eq_true_eq] at hq
        exact hv2 hq.2.2.2.symm
      · cases hm
  · -- bounds
    rw [if_neg (show ¬ j + 2 = 0 by omega)]
    rcases XC hb with h | h
    · have := hbd v b h; omega
    · omega
  · -- hop
    show ∃ K1, K1 <+: keyL (p.atts ++ [⟨n, x.frame, c, o⟩]) f.1 x.frame u v ∧ (∀ a ∈ K1, a.o = 3) ∧ Zv s (onP f.1 u v) ((ZS f x c n o).since v) a0 n (j + 1) ≤ K1.length
    rw [hk]
    rcases XC hs with hs | ⟨rfl, rfl, ho, hnone⟩
    · obtain ⟨K1, h1, h2, h3⟩ := ha.hop u v a0 hud hs
      change Zv s (onP f.1 u v) (x.since v) a0 n j ≤ K1.length at h3
      cases hx : x.since v with
      | some b =>
        rw [Jc hx]
        rw [hx] at h3
        exact ⟨K1, h1.trans (List.prefix_append _ _), h2, h3⟩
      | none =>
        rw [hx] at h3
        cases hr : (ZS f x c n o).since v with
        | some b =>
          rcases XC hr with h | ⟨rfl, rfl, ho, -⟩
          · rw [hx] at h; cases h
          · refine ⟨K1, h1.trans (List.prefix_append _ _), h2, Nat.le_trans ?_ h3⟩
            unfold Zv
            simp only [show n + 1 - 1 - a0 = n - a0 by omega]
            exact Nat.le_add_right _ _
        | none =>
          obtain ⟨-, hv2⟩ := Yb8 hr
          cases hq : onP f.1 u v c with
          | false => exact ⟨K1, h1.trans (List.prefix_append _ _), h2, by rw [Yas hc hq]; exact h3⟩
          | true =>
            obtain ⟨q1, q2, q3⟩ := YcW.1 hq
            have ho : o = 3 := hv2 q3.symm
            have hon : onK f.1 x.frame u v ⟨n, x.frame, c, o⟩ = true := by simp [onK, q1, q2, q3]
            rw [hon, if_pos rfl]
            refine ⟨keyL p.atts f.1 x.frame u v ++ [⟨n, x.frame, c, o⟩], List.prefix_refl _, fun a hm => ?_, ?_⟩
            · rcases List.mem_append.1 hm with hm | hm
              · exact hu.lost u v hx a hm
              · obtain rfl := List.mem_singleton.1 hm
                exact ho
            · have := Ykn (a0 := a0) hc (onP f.1 u v) none
              have hl := h1.length_le
              rw [List.length_append]
              simp only [List.length_singleton]
              omega
    · refine ⟨[], List.nil_prefix, fun a h => by simp at h, ?_⟩
      cases hr : (ZS f x c n o).since v with
      | none => rw [Yb4 (by omega)]; exact Nat.zero_le _
      | some b =>
        have hb : b ≤ n + 1 := by
          rcases XC hr with h | h
          · exact hbd v b h
          · omega
        unfold Zv
        simp only [show (b - 1 - (n + 1)).toNat = 0 by omega, cntL, List.length_nil, Nat.le_refl]
  · -- deliveries: the slot
    rcases List.mem_append.1 hm with hm | hm
    · exact Jc (ha.dlv.1 d hm h1 h2)
    · obtain ⟨rfl, ho, ht, hd⟩ := hdel d hm
      have hx : x.since (dstF f) = none := by
        have := hu.done
        rw [hd] at this
        cases hx : x.since (dstF f) with
        | none => rfl
        | some b => rw [hx] at this; cases this
      cases hr : (ZS f x c n o).since (dstF f) with
      | none =>
        have := Qi (f := f) (x := x) (c := c) (n := n) ho
        rw [ht, hr] at this; cases this
      | some b =>
        rcases XC hr with h | h
        · rw [hx] at h; cases h
        · show some b = some (n + 1); rw [h.2.1]
  · -- there is one
    show (f.1, x.frame, b - 1) ∈ p.dels ++ delS f x c n o
    rcases XC hb with h | ⟨h1, h2, h3, h4⟩
    · exact List.mem_append.2 (.inl (ha.dlv.2 b h))
    · have hd : x.done = false := by rw [hu.done, h4]; rfl
      refine List.mem_append.2 (.inr ?_)
      unfold delS
      rw [if_pos ⟨h3, h1.symm, hd⟩, h2]
      simp
  · -- the frames before
    change k' < x.frame at h2
    obtain ⟨since, hk'⟩ := h.old k' h1 h2
    refine ⟨since, hk'.mono (fun u v => by rw [hk]; exact List.prefix_append _ _) (fun d d1 d2 => ?_)⟩
    show d ∈ p.dels ++ delS f x c n o ↔ d ∈ p.dels
    rw [List.mem_append]
    refine ⟨fun hm => hm.elim id fun hm => ?_, .inl⟩
    obtain ⟨rfl, -⟩ := hdel d hm
    change x.frame = k' at d2
    omega
theorem YiW {s : Sch} {f : Flw} {x : StM} {n : Int} {p : PlM} {ds : List (Int × Int × Int)} (h : JO s f x n ((atE s n).length + 1) p) (hds : ds.Perm p.dels) : JO s f x (n + 1) 0 ⟨p.st, p.atts, ds⟩ := by
  have hfr : x.frame = JX f n := by
    have := h.frame
    rwa [if_neg (by omega)] at this
  refine ⟨by rw [if_pos rfl, show n + 1 - 1 = n by omega]; exact hfr, h.none_a, fun d hm hq => h.none_d d (hds.mem_iff.1 hm) hq, fun h0 => ?_, fun k h1 h2 => ?_⟩
  · obtain ⟨hu, ha⟩ := h.cur h0
    have hbd : ∀ v b, x.since v = some b → b ≤ n + 1 := fun v b hb => by
      have := hu.bd v b hb
      rw [if_neg (by omega)] at this
      omega
    refine ⟨⟨hu.done, hu.ack, hu.lost, fun v b hb => by have := hbd v b hb; simp only [if_true]; omega⟩, ⟨ha.src, fun u v a0 hud hs => ?_, fun d hm h1 h2 => ha.dlv.1 d (hds.mem_iff.1 hm) h1 h2, fun b hb => hds.mem_iff.2 (ha.dlv.2 b hb)⟩⟩
    obtain ⟨K1, h1, h2, h3⟩ := ha.hop u v a0 hud hs
    refine ⟨K1, h1, h2, Nat.le_trans ?_ h3⟩
    cases x.since v with
    | some b => exact Nat.le_refl _
    | none =>
      unfold Zv
      simp only [Nat.zero_sub, List.take_zero, List.filter_nil, List.length_nil, ite_self, Nat.add_zero, Nat.add_sub_cancel]
      have hle := hbd u a0 hs
      by_cases h : a0 ≤ n
      · rw [if_pos h, List.take_length, show (n + 1 - a0).toNat = (n - a0).toNat + 1 by omega, YbA, show a0 + ((n - a0).toNat : Int) = n by omega]
        exact Nat.le_refl _
      · rw [show (n + 1 - a0).toNat = 0 by omega]
        exact Nat.zero_le _
  · obtain ⟨since, ha⟩ := h.old k h1 h2
    exact ⟨since, ha.mono (fun u v => List.prefix_refl _) (fun d _ _ => hds.mem_iff)⟩
theorem YlC {l : List Flw} {s : Sch} (hok : ∀ f ∈ l, FlOk f) (hid : l.Pairwise fun a b => a.1 ≠ b.1) {n : Int} {J : Nat} {p : PlM} (h : Pl l s n J p) : 0 ≤ n ∧ p.st.length = l.length ∧ ∀ (i : Nat) f x, l[i]? = some f → p.st[i]? = some x → JO s f x n J p := by
  induction h with
  | start =>
    refine ⟨Int.le_refl _, by simp, fun i f x hf hx => ?_⟩
    have hx : x = Yf4 := by
      rw [List.getElem?_map, hf] at hx
      exact (Option.some.inj hx).symm
    subst hx
    have hp := (hok f (List.mem_of_getElem? hf)).pha
    refine ⟨by unfold JX; rw [if_pos rfl, if_pos (by omega)]; rfl, fun a h => by simp at h, fun a h => by simp at h, fun h => absurd h (by decide), fun k h1 h2 => ?_⟩
    change k < -1 at h2
    omega
  | rel st hp hl hst ih =>
    obtain ⟨h1, h2, h3⟩ := ih
    refine ⟨h1, hl, fun i f x hf hx => ?_⟩
    have hi : i < l.length := (List.getElem?_eq_some_iff.1 hf).1
    obtain ⟨y, hy⟩ : ∃ y, _ = some y := ⟨_, List.getElem?_eq_getElem (by rw [h2]; exact hi)⟩
    have := hst i f y hf hy
    change st[i]? = some x at hx
    rw [hx] at this
    obtain rfl := Option.some.inj this
    exact Ykh (hok f (List.mem_of_getElem? hf)) (h3 i f y hf hy)
  | skip hp hc hn ih =>
    obtain ⟨h1, h2, h3⟩ := ih
    exact ⟨h1, h2, fun i f x hf hx => YiX (h3 i f x hf hx) hc (hn i f x hf hx)⟩
  | @att n j i p c f x o hp hc hf hx hg hn ih =>
    obtain ⟨h1, h2, h3⟩ := ih
    refine ⟨h1, by simp [h2], fun i' f' x' hf' hx' => ?_⟩
    change (p.st.set i _)[i']? = some x' at hx'
    by_cases hi : i = i'
    · subst hi
      rw [hf] at hf'
      obtain rfl := Option.some.inj hf'
      have hlt : i < p.st.length := (List.getElem?_eq_some_iff.1 hx).1
      rw [List.getElem?_set_self hlt] at hx'
      obtain rfl := Option.some.inj hx'
      exact Ykg (h3 i f x hf hx) hc hn
    · rw [List.getElem?_set_ne hi] at hx'
      refine Yhk (g := f) (h3 i' f' x' hf' hx') hc hg ?_ (fun d hd => ?_)
      · obtain ⟨hlt, e1⟩ := List.getElem?_eq_some_iff.1 hf
        obtain ⟨hlt', e2⟩ := List.getElem?_eq_some_iff.1 hf'
        rw [← e1, ← e2]
        rcases Nat.lt_or_gt_of_ne hi with h | h
        · exact fun e => (List.pairwise_iff_getElem.1 hid i i' hlt hlt' h) e.symm
        · exact List.pairwise_iff_getElem.1 hid i' i hlt' hlt h
      · unfold delS at hd
        split at hd
        · rw [List.mem_singleton.1 hd]
        · cases hd
  | next ds hp hd ih =>
    obtain ⟨h1, h2, h3⟩ := ih
    exact ⟨by omega, h2, fun i f x hf hx => YiW (h3 i f x hf hx) hd⟩
theorem YfS {len : Int} {C : Lk → List Cel} {endd : Int} : ∀ {ls : List Lk} {a : Int} {z : Cel × Int}, z ∈ runP len C endd ls a → a ≤ z.2
  | [], a, z, h => by cases h
  | l :: ls, a, z, h => by
    rw [runP] at h
    have h1 : ∀ z ∈ hopP len (C l) (endd - a).toNat (YL l) a, a ≤ z.2 := fun z hz => (Uy hz).1
    split at h
    · exact h1 z h
    · rcases List.mem_append.1 h with h | h
      · exact h1 z h
      · have h2 := YfS h
        have h3 : a ≤ Yx (hopP len (C l) (endd - a).toNat (YL l) a) a := by
          unfold Yx
          cases e : (hopP len (C l) (endd - a).toNat (YL l) a).getLast? with
          | none => exact Int.le_refl _
          | some y => have := h1 y (List.mem_of_getLast? e); simp only []; omega
        omega
def brO (loss : Int) : List Int → Nat → Bool
  | [], _ => false
  | o :: os, r => if o = 1 then brO loss os 0 else if loss < (r : Int) + 1 then true else brO loss os (r + 1)
theorem YdP {loss : Int} : ∀ (os more : List Int) (r : Nat), (∀ o ∈ os, o = 3) → 1 ≤ os.length → loss < (r : Int) + os.length → brO loss (os ++ more) r = true
  | [], _, _, _, h, _ => by simp at h
  | o :: os, more, r, h3, _, hl => by
    rw [List.cons_append, brO, h3 o (by simp), if_neg (by decide)]
    split
    · rfl
    · rename_i hno
      rw [List.length_cons] at hl
      exact YdP os more (r + 1) (fun o ho => h3 o (by simp [ho])) (by omega) (by omega)
theorem Yjt {s : Sch} {q : Cel → Bool} {a : Int} (h0 : 0 ≤ a) (hs : Y7 s = true) : ∀ k : Nat, (Y5 s.len a (s.cells.filter q) k).length ≤ ((atE s a).filter q).length := by
  intro k
  unfold atE
  rw [if_neg (by rintro (h | h); rw [hs] at h; cases h; omega), List.filter_filter]
  generalize s.cells = L
  induction L generalizing k with
  | nil => simp [Y5]
  | cons c L ih =>
    by_cases hq : q c = true
    · rw [List.filter_cons, if_pos hq, Y5]
      by_cases hc : c.1 = a.tmod s.len
      · have e : (List.filter (fun a_1 => q a_1 && decide (a_1.1 = a.tmod s.len)) (c :: L)).length = (List.filter (fun a_1 => q a_1 && decide (a_1.1 = a.tmod s.len)) L).length + 1 := by
          rw [List.filter_cons, if_pos (by simp [hq, hc]), List.length_cons]
        rw [e]
        split
        · rw [List.length_cons]; have := ih (k - 1); omega
        · have := ih k; omega
      · rw [if_neg (fun h => hc h.1), List.filter_cons, if_neg (by simp [hc])]
        exact ih k
    · rw [List.filter_cons, if_neg hq, List.filter_cons, if_neg (by simp [hq])]
      exact ih k
theorem QD {x y : List (Cel × Int)} {a : Int} (hy : y ≠ []) : Yx (x ++ y) a = Yx y a := by
  unfold Yx
  rw [List.getLast?_append]
  cases h : y.getLast? with
  | none => exact absurd (List.getLast?_eq_none_iff.1 h) hy
  | some z => rfl
theorem Ybr {y : List (Cel × Int)} (hy : y ≠ []) (a b : Int) : Yx y a = Yx y b := by
  unfold Yx
  cases h : y.getLast? with
  | none => exact absurd (List.getLast?_eq_none_iff.1 h) hy
  | some z => rfl
theorem Wh {y : List (Cel × Int)} {a lo : Int} (hy : y ≠ []) (h : ∀ z ∈ y, lo ≤ z.2) : lo + 1 ≤ Yx y a := by
  unfold Yx
  cases e : y.getLast? with
  | none => exact absurd (List.getLast?_eq_none_iff.1 e) hy
  | some z => have := h z (List.mem_of_getLast? e); simp only []; omega
theorem YgA {s : Sch} {q : Cel → Bool} (hs : Y7 s = true) : ∀ (f k : Nat) (a : Int), 0 ≤ a → (hopP s.len (s.cells.filter q) f k a).length ≤ cntL s q (Yx (hopP s.len (s.cells.filter q) f k a) a - a).toNat a
  | 0, _, _, _ => Nat.zero_le _
  | f + 1, k, a, h0 => by
    rw [hopP]
    have h1 := Yjt (q := q) h0 hs k
    generalize hx : Y5 s.len a (s.cells.filter q) k = x at *
    have ih := YgA (q := q) hs f (k - x.length) (a + 1) (by omega)
    have hsnd : ∀ z ∈ hopP s.len (s.cells.filter q) f (k - x.length) (a + 1), a + 1 ≤ z.2 := fun z hz => (Uy hz).1
    generalize hopP s.len (s.cells.filter q) f (k - x.length) (a + 1) = y at *
    by_cases hy : y = []
    · subst hy
      rw [List.append_nil]
      by_cases hx0 : x = []
      · subst hx0; exact Nat.zero_le _
      · have : Yx x a = a + 1 := by
          unfold Yx
          cases e : x.getLast? with
          | none => exact absurd (List.getLast?_eq_none_iff.1 e) hx0
          | some z =>
            have hz := List.mem_of_getLast? e
            rw [← hx] at hz
            simp only [Ul hz]
        rw [this, show (a + 1 - a).toNat = 0 + 1 by omega, cntL]
        omega
    · rw [QD hy, Ybr hy a (a + 1)]
      have hlt := Wh (a := a + 1) hy hsnd
      rw [show (Yx y (a + 1) - a).toNat = (Yx y (a + 1) - (a + 1)).toNat + 1 by omega, cntL, List.length_append]
      omega
def Yde (d : Int) : Int → List Lk → Prop
  | u, [] => u = d
  | u, l :: ls => u = l.1 ∧ u ≠ d ∧ Yde d l.2.1 ls
theorem YiS {s : Sch} {f : Flw} {k n : Int} {p : PlM} {since : Int → Option Int} (ha : Arch s f k n 0 p since) {u v a0 a a' : Int} (hu : u ≠ dstF f) (hs : since u = some a0) (hle : a0 ≤ a) {m : Nat} (hm : m ≤ cntL s (onP f.1 u v) (a' - a).toNat a) (hn : a' ≤ n)
    (hno : ∀ K1, K1 <+: keyL p.atts f.1 k u v → (∀ x ∈ K1, x.o = 3) → K1.length < m) : ∃ b, since v = some b ∧ b ≤ a' := by
  obtain ⟨K1, h1, h2, h3⟩ := ha.hop u v a0 hu hs
  have h4 := hno K1 h1 h2
  cases hv : since v with
  | none =>
    exfalso
    rw [hv] at h3
    unfold Zv at h3
    simp only [List.take_zero, List.filter_nil, List.length_nil, ite_self, Nat.add_zero] at h3
    have := Ybz s (onP f.1 u v) hle hn
    omega
  | some b =>
    refine ⟨b, rfl, Int.not_lt.1 fun hlt => ?_⟩
    rw [hv] at h3
    change cntL s (onP f.1 u v) (b - 1 - a0).toNat a0 ≤ K1.length at h3
    have := Ybz s (onP f.1 u v) hle (show a' ≤ b - 1 by omega)
    omega
theorem Ye0 {s : Sch} (hs : Y7 s = true) {f : Flw} {k n : Int} {p : PlM} {since : Int → Option Int} (ha : Arch s f k n 0 p since) (endd : Int) : ∀ (ls : List Lk) (u a0 a : Int), Yde (dstF f) u ls → since u = some a0 → a0 ≤ a → 0 ≤ a → (∀ l ∈ ls, 0 ≤ l.2.2) →
    (∀ l ∈ ls, brO l.2.2 ((keyL p.atts f.1 k l.1 l.2.1).map AttM.o) 0 = false) →
    Y8 ls ≤ (runP s.len (Xk s f.1) endd ls a).length → Yx (runP s.len (Xk s f.1) endd ls a) a ≤ n → ∃ b, since (dstF f) = some b ∧ b ≤ Yx (runP s.len (Xk s f.1) endd ls a) a
  | [], u, a0, a, hc, hsu, hle, _, _, _, _, _ => by
    change u = dstF f at hc
    refine ⟨a0, by rw [← hc]; exact hsu, ?_⟩
    simpa [runP, Yx] using hle
  | l :: ls, u, a0, a, hc, hsu, hle, h0, hl0, hbr, hfull, hn => by
    obtain ⟨hc1, hc2, hc3⟩ := hc
    have hlen := Wr s.len (Xk s f.1 l) (endd - a).toNat (YL l) a
    have hcnt := YgA (q := onP f.1 l.1 l.2.1) hs (endd - a).toNat (YL l) a h0
    have hsnd : ∀ z ∈ hopP s.len (Xk s f.1 l) (endd - a).toNat (YL l) a, a ≤ z.2 := fun z hz => (Uy hz).1
    change (hopP s.len (Xk s f.1 l) (endd - a).toNat (YL l) a).length ≤ cntL s (onP f.1 l.1 l.2.1) (Yx (hopP s.len (Xk s f.1 l) (endd - a).toNat (YL l) a) a - a).toNat a at hcnt
    rw [runP] at hfull hn ⊢
    generalize hopP s.len (Xk s f.1 l) (endd - a).toNat (YL l) a = x at *
    have hneed : Y8 (l :: ls) = YL l + Y8 ls := by simp [Y8]
    have h1 : 1 ≤ YL l := by have := hl0 l (by simp); unfold YL; omega
    by_cases hx : x.length < YL l
    · rw [if_pos hx] at hfull
      omega
    · rw [if_neg hx] at hfull hn ⊢
      have hxl : x.length = YL l := by omega
      have hxne : x ≠ [] := by rintro rfl; simp at hxl; omega
      have hafter : a + 1 ≤ Yx x a := Wh hxne hsnd
      have hrl := Qk s.len (Xk s f.1) endd ls (Yx x a)
      rw [List.length_append] at hfull
      have hzn : Yx x a ≤ n ∧ Yx (x ++ runP s.len (Xk s f.1) endd ls (Yx x a)) a = Yx (runP s.len (Xk s f.1) endd ls (Yx x a)) (Yx x a) := by
        by_cases hr : runP s.len (Xk s f.1) endd ls (Yx x a) = []
        · rw [hr, List.append_nil] at hn ⊢
          exact ⟨hn, by simp [Yx]⟩
        · rw [QD hr, Ybr hr a (Yx x a)] at hn ⊢
          refine ⟨?_, rfl⟩
          have := Wh (a := Yx x a) (lo := Yx x a) hr (fun z hz => (YfS hz))
          omega
      obtain ⟨b, hb, hbl⟩ := YiS ha (v := l.2.1) hc2 hsu hle (m := YL l) (by rw [hc1]; omega) hzn.1 (fun K1 k1 k2 => by
        apply Nat.lt_of_not_le
        intro hge
        rw [hc1] at k1
        obtain ⟨more, hm⟩ := k1
        have := hbr l (by simp)
        rw [← hm, List.map_append] at this
        rw [YdP (K1.map AttM.o) (more.map AttM.o) 0 (fun o ho => by obtain ⟨z, hz, rfl⟩ := List.mem_map.1 ho; exact k2 z hz) (by rw [List.length_map]; omega) (by rw [List.length_map]; unfold YL at hge; omega)] at this
        cases this)
      rw [hzn.2] at hn ⊢
      exact Ye0 hs ha endd ls l.2.1 b (Yx x a) hc3 hb hbl (by omega) (fun z hz => hl0 z (by simp [hz])) (fun z hz => hbr z (by simp [hz])) (by omega) hn
theorem Yj6 {s : Sch} {f : Flw} {x : StM} {n : Int} {p : PlM} (hf : FlOk f) (h : JO s f x n 0 p) {k : Int} (h0 : 0 ≤ k) (hk : Yy f k < n) : ∃ m since, Arch s f k m 0 p since ∧ ∀ z, z ≤ n → z ≤ Yy f k + perF f → z ≤ m := by
  have hp := hf.per
  have hpha := hf.pha
  have hfr : x.frame = JX f (n - 1) := h.frame
  have hk0 : 0 ≤ k * perF f := Int.mul_nonneg h0 (by omega)
  have hge : k ≤ x.frame := by
    rw [hfr]
    unfold Yy at hk
    unfold JX
    rw [if_neg (by omega)]
    exact (Int.le_ediv_iff_mul_le (by omega)).2 (by omega)
  by_cases hlt : k < x.frame
  · obtain ⟨since, ha⟩ := h.old k h0 hlt
    exact ⟨_, since, ha, fun z _ h2 => h2⟩
  · obtain rfl : k = x.frame := by omega
    exact ⟨n, x.since, (h.cur h0).2, fun z h1 _ => h1⟩
def shP (d : Int) (y : Cel × Int) : Cel × Int := (y.1, y.2 + d)
theorem U7 {len a z : Int} (hz : 0 ≤ z) (hl : 1 ≤ len) (ha : 0 ≤ a) : ∀ (cs : List Cel) (k : Nat), Y5 len (a + z * len) cs k = (Y5 len a cs k).map (shP (z * len))
  | [], _ => rfl
  | c :: cs, k => by
    have e : (a + z * len).tmod len = a.tmod len := by
      have h1 : 0 ≤ z * len := Int.mul_nonneg hz (by omega)
      rw [Int.tmod_eq_emod_of_nonneg (by omega), Int.tmod_eq_emod_of_nonneg ha, Int.add_mul_emod_self_right]
    rw [Y5, Y5, e]
    split
    · rw [List.map_cons, U7 hz hl ha cs (k - 1)]; rfl
    · exact U7 hz hl ha cs k
theorem YbR {len z : Int} (hz : 0 ≤ z) (hl : 1 ≤ len) (cs : List Cel) : ∀ (f k : Nat) (a : Int), 0 ≤ a → hopP len cs f k (a + z * len) = (hopP len cs f k a).map (shP (z * len))
  | 0, _, _, _ => rfl
  | f + 1, k, a, ha => by
    rw [hopP, hopP, U7 hz hl ha, List.length_map, List.map_append, show a + z * len + 1 = a + 1 + z * len by omega, YbR hz hl cs f _ (a + 1) (by omega)]
theorem Oq (x : List (Cel × Int)) (a d : Int) : Yx (x.map (shP d)) (a + d) = Yx x a + d := by
  unfold Yx
  rw [List.getLast?_map]
  cases x.getLast? with
  | none => rfl
  | some y => simp only [Option.map_some, shP]; omega
theorem Yiz {x : List (Cel × Int)} {a : Int} (h : ∀ z ∈ x, a ≤ z.2) : a ≤ Yx x a := by
  unfold Yx
  cases e : x.getLast? with
  | none => exact Int.le_refl _
  | some y => have := h y (List.mem_of_getLast? e); simp only []; omega
theorem Yb9 {len z : Int} (hz : 0 ≤ z) (hl : 1 ≤ len) (C : Lk → List Cel) (endd : Int) : ∀ (ls : List Lk) (a : Int), 0 ≤ a → runP len C (endd + z * len) ls (a + z * len) = (runP len C endd ls a).map (shP (z * len))
  | [], _, _ => rfl
  | l :: ls, a, ha => by
    rw [runP, runP, show endd + z * len - (a + z * len) = endd - a by omega, YbR hz hl _ _ _ _ ha, List.length_map, Oq]
    split
    · rfl
    · rw [List.map_append, Yb9 hz hl C endd ls _ (by
        have := Yiz (x := hopP len (C l) (endd - a).toNat (YL l) a) (a := a) (fun z hz => (Uy hz).1)
        omega)]
theorem YdN {S : Int → Option (List Int)} {len per : Int} (hp : 1 ≤ per) {r : Int × Int × List Int} : ∀ {fuel : Nat} {rel : Int} {b : Int × Int × List Int}, VG S len per fuel rel b = some r →
    b.1 ≤ r.1 ∧ ∀ i : Nat, i < fuel → rel + i * per < len → ∃ l, S (rel + i * per) = some l ∧ ZN l - (rel + i * per) + 1 ≤ r.1
  | 0, rel, b, h => by
    obtain rfl := Option.some.inj (show some b = some r from h)
    exact ⟨Int.le_refl _, fun i hi => absurd hi (Nat.not_lt_zero _)⟩
  | fuel + 1, rel, b, h => by
    rw [VG] at h
    split at h
    · rename_i hle
      obtain rfl := Option.some.inj h
      refine ⟨Int.le_refl _, fun i _ hi => ?_⟩
      have : 0 ≤ (i : Int) * per := Int.mul_nonneg (by omega) (by omega)
      omega
    · cases hS : S rel with
      | none => rw [hS] at h; cases h
      | some l =>
        rw [hS] at h
        obtain ⟨h1, h2⟩ := YdN hp h
        have h3 : b.1 ≤ r.1 ∧ ZN l - rel + 1 ≤ r.1 := by
          split at h1
          · rename_i hlt
            simp only [] at h1
            omega
          · omega
        refine ⟨h3.1, fun i hi hlt => ?_⟩
        cases i with
        | zero => exact ⟨l, by simpa using hS, by simpa using h3.2⟩
        | succ i =>
          have e : rel + ((i + 1 : Nat) : Int) * per = rel + per + (i : Int) * per := by
            rw [show ((i + 1 : Nat) : Int) = (i : Int) + 1 by omega, Int.add_mul]; omega
          rw [e] at hlt ⊢
          exact h2 i (by omega) hlt
theorem YfF {x : List (Cel × Int)} {a : Int} (hx : x ≠ []) : ZN (x.map Prod.snd) + 1 = Yx x a := by
  unfold ZN Yx
  rw [List.getD_eq_getElem?_getD, ← List.getLast?_eq_getElem?, List.getLast?_map]
  cases h : x.getLast? with
  | none => exact absurd (List.getLast?_eq_none_iff.1 h) hx
  | some y => rfl
theorem Yhg {len per pha : Int} {C : Lk → List Cel} {ls : List Lk} {b : Int × Int × List Int} (hl : 1 ≤ len) (hp : 1 ≤ per) (h0 : 0 ≤ pha) (h1 : pha < per) (hm : len.tmod per = 0) (hne : 1 ≤ Y8 ls)
    (hb : VG (fun a => runR len C (a + per) ls a) len per len.toNat pha (0, 0, []) = some b) {k : Int} (hk : 0 ≤ k) :
    Y8 ls ≤ (runP len C (pha + k * per + per) ls (pha + k * per)).length ∧ Yx (runP len C (pha + k * per + per) ls (pha + k * per)) (pha + k * per) ≤ pha + k * per + b.1 := by
  rw [Int.tmod_eq_emod_of_nonneg (by omega)] at hm
  have hq : len = per * (len / per) := by have := Int.mul_ediv_add_emod len per; omega
  generalize len / per = q at hq
  have hq1 : 1 ≤ q := by
    apply Int.not_lt.1
    intro hlt
    have := Int.mul_le_mul_of_nonneg_left (show q ≤ 0 by omega) (show 0 ≤ per by omega)
    rw [Int.mul_zero] at this
    omega
  have e1 := Int.mul_ediv_add_emod k q
  have b1 := Int.emod_nonneg k (show q ≠ 0 by omega)
  have b2 := Int.emod_lt_of_pos k (show 0 < q by omega)
  have b3 : 0 ≤ k / q := Int.ediv_nonneg hk (by omega)
  generalize k / q = z at *
  generalize hi : k % q = i at *
  have hrel : pha + i * per < len := by
    have := Int.mul_le_mul_of_nonneg_right (show i ≤ q - 1 by omega) (show 0 ≤ per by omega)
    rw [Int.sub_mul, Int.one_mul, Int.mul_comm q per] at this
    omega
  have hfirst : pha + k * per = pha + i * per + z * len := by
    rw [hq, ← e1, Int.add_mul, Int.mul_comm q z, Int.mul_assoc, Int.mul_comm q per]
    omega
  have hi0 : 0 ≤ i * per := Int.mul_nonneg b1 (by omega)
  obtain ⟨-, h2⟩ := YdN hp hb
  have hle : i ≤ i * per := by
    have := Int.mul_le_mul_of_nonneg_left hp b1
    rw [Int.mul_one] at this
    omega
  obtain ⟨l, h3, h4⟩ := h2 i.toNat (by omega) (by rw [Int.toNat_of_nonneg b1]; exact hrel)
  rw [Int.toNat_of_nonneg b1] at h3 h4
  rw [Yc6] at h3
  split at h3
  · cases h3
  rename_i hfull
  obtain rfl := Option.some.inj h3
  have hne' : runP len C (pha + i * per + per) ls (pha + i * per) ≠ [] := by
    intro e
    rw [e] at hfull
    simp only [List.length_nil] at hfull
    omega
  have h5 := YfF (a := pha + i * per) hne'
  rw [hfirst, show pha + i * per + z * len + per = pha + i * per + per + z * len by omega, Yb9 b3 hl C _ ls _ (by omega), List.length_map, Oq]
  refine ⟨by omega, ?_⟩
  omega
theorem Yhm {l : List Flw} {s : Sch} (hok : ∀ f ∈ l, FlOk f) (hid : l.Pairwise fun a b => a.1 ≠ b.1) {n : Int} {p : PlM} (h : Pl l s n 0 p) {f : Flw} (hf : f ∈ l) (hs : Y7 s = true) (hl : 1 ≤ s.len) (hpp : phaF f < perF f) (hm : s.len.tmod (perF f) = 0)
    {ls : List Lk} (hne : ls ≠ []) (hch : Yde (dstF f) f.2.1 ls) (hloss : ∀ x ∈ ls, 0 ≤ x.2.2) {b : Int × Int × List Int} (hb : VG (fun a => runR s.len (Xk s f.1) (a + perF f) ls a) s.len (perF f) s.len.toNat (phaF f) (0, 0, []) = some b)
    {k : Int} (hk : 0 ≤ k) (hn : Yy f k + b.1 ≤ n) (hbr : ∀ x ∈ ls, brO x.2.2 ((keyL p.atts f.1 k x.1 x.2.1).map AttM.o) 0 = false) :
    ∃ t, (f.1, k, t) ∈ p.dels ∧ t - Yy f k + 1 ≤ b.1 ∧ ∀ d ∈ p.dels, d.1 = f.1 → d.2.1 = k → d.2.2 = t := by
  obtain ⟨-, hst, hinv⟩ := YlC hok hid h
  obtain ⟨i, hi⟩ := List.mem_iff_getElem?.1 hf
  have hil : i < l.length := (List.getElem?_eq_some_iff.1 hi).1
  obtain ⟨x, hx⟩ : ∃ x, p.st[i]? = some x := ⟨_, List.getElem?_eq_getElem (by rw [hst]; exact hil)⟩
  have hI := hinv i f x hi hx
  have hfo := hok f hf
  have hp := hfo.per
  have hneed : 1 ≤ Y8 ls := by
    cases ls with
    | nil => exact absurd rfl hne
    | cons y ys =>
      have := hloss y (by simp)
      unfold Y8
      rw [List.map_cons, List.sum_cons]
      unfold YL
      omega
  obtain ⟨h1, h2⟩ := Yhg hl hfo.per hfo.pha hpp hm hneed hb hk
  change Y8 ls ≤ (runP s.len (Xk s f.1) (Yy f k + perF f) ls (Yy f k)).length at h1
  change Yx (runP s.len (Xk s f.1) (Yy f k + perF f) ls (Yy f k)) (Yy f k) ≤ Yy f k + b.1 at h2
  have hk0 : 0 ≤ Yy f k := by
    have := hfo.pha
    have := Int.mul_nonneg hk (show 0 ≤ perF f by omega)
    unfold Yy; omega
  have hne' : runP s.len (Xk s f.1) (Yy f k + perF f) ls (Yy f k) ≠ [] := by
    intro e; rw [e] at h1; simp only [List.length_nil] at h1; omega
  have h3 := Wh (a := Yy f k) (lo := Yy f k) hne' (fun z hz => YfS hz)
  have h4 : Yx (runP s.len (Xk s f.1) (Yy f k + perF f) ls (Yy f k)) (Yy f k) ≤ Yy f k + perF f := by
    unfold Yx
    cases e : (runP s.len (Xk s f.1) (Yy f k + perF f) ls (Yy f k)).getLast? with
    | none => simp only []; omega
    | some z => have := (Ql (by omega) (List.mem_of_getLast? e)).2; simp only []; omega
  obtain ⟨m, since, ha, hm'⟩ := Yj6 hfo hI hk (by omega)
  obtain ⟨t, ht, htl⟩ := Ye0 hs ha (Yy f k + perF f) ls f.2.1 (Yy f k) (Yy f k) hch ha.src (Int.le_refl _) hk0 hloss hbr h1 (hm' _ (by omega) h4)
  refine ⟨t - 1, ha.dlv.2 t ht, by omega, fun d hd d1 d2 => ?_⟩
  have := ha.dlv.1 d hd d1 d2
  rw [ht] at this
  have := Option.some.inj this
  omega
open Go.RowKit Go.Eng Go.Nw Go.Rt
theorem V4 (f : Flw) (hf : YX 32 f = 0) {B : Nat} {w0 : World} {H : List HP} {w : World} (hw : St B w0 H w) :
    Calls Tryz.prog 100 [flwV f].toArray w (Post B w0 fun v K => v = .int .i64 0 ∧ K = H) := by
  refine Yf Tryz.func100 Tryz.ntmps100 rfl rfl hw ?_
  have p1 := fun {H' : List HP} {w : World} (hw : St B w0 H' w) => V5 32 f hw
  rw [hf] at p1
  unfold flwV at p1 ⊢
  repeat' (first | ((first | apply Ya UJ | apply Yb UJ); exact za; exact rfl; exact fun _ hw => (p1 hw)) | refine zgc ?_ | (refine zgh ?_; intro _) | fail)
  apply Yk H
  · exact zk
  apply Yg; exact rfl; exact rfl
  exact ⟨rfl, rfl⟩
theorem Xm {f : Flw} (hf : YX 32 f = 0) : (1 ≤ f.2.2.2.1 ∧ f.2.2.2.1 ≤ 512) ∧ (0 ≤ f.2.2.2.2.1 ∧ f.2.2.2.2.1 < f.2.2.2.1) ∧ f.2.1 ≠ f.2.2.1 ∧ (1 ≤ f.2.2.2.2.2 ∧ f.2.2.2.2.2 ≤ f.2.2.2.1) := by
  unfold YX at hf
  split at hf
  · cases hf
  split at hf
  · cases hf
  split at hf
  · cases hf
  refine ⟨by omega, by omega, by assumption, by omega⟩
theorem Ykd {f : Flw} (hf : YX 32 f = 0) : FlOk f := by
  obtain ⟨h1, h2, h3, h4⟩ := Xm hf
  exact ⟨h1.1, h2.1, h3⟩
set_option maxRecDepth 10000 in
set_option maxHeartbeats 2000000 in
theorem YcJ (f : Flw) (n : Int) (hf : YX 32 f = 0) (hn : 0 ≤ n ∧ n ≤ 1000000) {B : Nat} {w0 : World} {H : List HP} {w : World} (hw : St B w0 H w) :
    Calls Tryz.prog 211 [flwV f, .int .i64 n].toArray w (Post B w0 fun v K => v = .tuple #[.int .i64 (if n < f.2.2.2.2.1 then 0 else (n - f.2.2.2.2.1) / f.2.2.2.1), .bool (decide (f.2.2.2.2.1 ≤ n))] ∧ K = H) := by
  refine Yf Tryz.func211 Tryz.ntmps211 rfl rfl hw ?_
  obtain ⟨h1, h2, -, -⟩ := Xm hf
  have p1 := fun {H' : List HP} {w : World} (hw : St B w0 H' w) => V4 f hf hw
  unfold flwV at p1 ⊢
  by_cases hlt : n < f.2.2.2.2.1
  · rw [if_pos hlt, decide_eq_false (by omega)]
    repeat' (first | ((first | apply Ya Ox | apply Yb Ox); exact za; exact rfl; exact fun _ hw => (p1 hw)) | refine zgc ?_ | (refine zge ?_ ?_ <;> intro _ <;> try (exfalso; omega)) | (refine zgh ?_; intro _) | fail)
    apply Yk H
    · exact zk
    apply Yt; exact rfl; exact rfl; exact rfl
    exact ⟨rfl, rfl⟩
  · rw [if_neg hlt, decide_eq_true (by omega)]
    repeat' (first | ((first | apply Ya Ox | apply Yb Ox); exact za; exact rfl; exact fun _ hw => (p1 hw)) | refine zgd ?_ | (refine zge ?_ ?_ <;> intro _ <;> try (exfalso; omega)) | (refine zgh ?_; intro _) | fail)
    apply Yk H
    · exact zk
    apply Yt; exact rfl; exact rfl; exact rfl
    exact ⟨rfl, rfl⟩
theorem Yeb {f : Flw} {k : Int} (hf : YX 32 f = 0) (hk : 0 ≤ k ∧ k ≤ 1000000) : 0 ≤ k * f.2.2.2.1 ∧ k * f.2.2.2.1 ≤ 512000000 := by
  obtain ⟨h1, -, -, -⟩ := Xm hf
  have a := Int.mul_nonneg hk.1 (show 0 ≤ f.2.2.2.1 by omega)
  have b := Int.mul_le_mul hk.2 h1.2 (by omega) (by omega)
  exact ⟨a, by omega⟩
set_option maxRecDepth 10000 in
set_option maxHeartbeats 2000000 in
theorem Ybg (f : Flw) (k : Int) (hf : YX 32 f = 0) (hk : 0 ≤ k ∧ k ≤ 1000000) {B : Nat} {w0 : World} {H : List HP} {w : World} (hw : St B w0 H w) :
    Calls Tryz.prog 102 [flwV f, .int .i64 k].toArray w (Post B w0 fun v K => v = .tuple #[.int .i64 (Yy f k), .int .i64 0] ∧ K = H) := by
  refine Yf Tryz.func102 Tryz.ntmps102 rfl rfl hw ?_
  obtain ⟨h1, h2, -, -⟩ := Xm hf
  have h3 := Yeb hf hk
  have p1 := fun {H' : List HP} {w : World} (hw : St B w0 H' w) => V4 f hf hw
  unfold Yy phaF perF
  unfold flwV at p1 ⊢
  repeat' (first | ((first | apply Ya Ox | apply Yb Ox); exact za; exact rfl; exact fun _ hw => (p1 hw)) | refine zgd ?_ | (refine zge ?_ ?_ <;> intro _ <;> try (exfalso; omega)) | (refine zgh ?_; intro _) | fail)
  apply Yk H
  · exact zk
  apply Yt; exact rfl; exact rfl; exact rfl
  exact ⟨rfl, rfl⟩
set_option maxRecDepth 10000 in
set_option maxHeartbeats 2000000 in
theorem Ye2 (f : Flw) (k : Int) (hf : YX 32 f = 0) (hk : 0 ≤ k ∧ k ≤ 1000000) {B : Nat} {w0 : World} {H : List HP} {w : World} (hw : St B w0 H w) :
    Calls Tryz.prog 41 [flwV f, .int .i64 k].toArray w (Post B w0 fun v K => v = .tuple #[.int .i64 (Yy f k), .int .i64 (Yy f k + f.2.2.2.1 - 1), .int .i64 0] ∧ K = H) := by
  refine Yf Tryz.func41 Tryz.ntmps41 rfl rfl hw ?_
  obtain ⟨h1, h2, -, -⟩ := Xm hf
  have h3 := Yeb hf hk
  have h4 : 0 ≤ Yy f k ∧ Yy f k ≤ 600000000 := by unfold Yy phaF perF; omega
  have p1 := fun {H' : List HP} {w : World} (hw : St B w0 H' w) => Ybg f k hf hk hw
  generalize Yy f k = z at *
  unfold flwV at p1 ⊢
  repeat' (first | ((first | apply Ya YkP | apply Yb YkP); exact za; exact rfl; exact fun _ hw => (p1 hw)) | refine zgd ?_ | (refine zge ?_ ?_ <;> intro _ <;> try (exfalso; omega)) | (refine zgh ?_; intro _) | fail)
  apply Yk H
  · exact zk
  apply XV; exact rfl; exact rfl; exact rfl; exact rfl
  exact ⟨rfl, rfl⟩
open Go.RowKit Go.Eng Go.Nw Go.Rt
structure RuM where
  f : Int
  u : Int
  v : Int
  k : Int
  A : Option Addr
  cap : Nat
  os : List Int
def ruF (r : RuM) : List Value := [.int .i64 r.f, .int .i64 r.u, .int .i64 r.v, .int .i64 r.k, .slice r.A r.os.length r.cap]
def ruV (r : RuM) : Value := .agg #[.int .i64 r.f, .int .i64 r.u, .int .i64 r.v, .int .i64 r.k, .slice r.A r.os.length r.cap]
structure RuM.In (B : Nat) (w0 : World) (H : List HP) (r : RuM) : Prop where
  rd : Rd B w0 H r.A (r.os.flatMap numF)
  ln : r.os.length ≤ 9223372036854775807
structure XIn (B : Nat) (w0 : World) (H : List HP) (A : Option Addr) (xs : List RuM) : Prop where
  rd : Rd B w0 H A (xs.flatMap ruF)
  x : ∀ r ∈ xs, r.In B w0 H
theorem RuM.In.mono {B : Nat} {w0 : World} {H K : List HP} {r : RuM} (h : r.In B w0 H) (hop : ∀ w, St B w0 K w → St B w0 H w) : r.In B w0 K := ⟨h.rd.mono hop, h.ln⟩
theorem XIn.mono {B : Nat} {w0 : World} {H K : List HP} {A : Option Addr} {xs : List RuM} (h : XIn B w0 H A xs) (hop : ∀ w, St B w0 K w → St B w0 H w) : XIn B w0 K A xs := ⟨h.rd.mono hop, fun r hr => (h.x r hr).mono hop⟩
def cmpR (a b : RuM) : Int := YV [cmpI a.f b.f, cmpI a.k b.k, cmpI a.u b.u, cmpI a.v b.v]
theorem YaG (a b : RuM) {B : Nat} {w0 : World} {H : List HP} {w : World} (hw : St B w0 H w) :
    Calls Tryz.prog 210 [ruV a, ruV b].toArray w (Post B w0 fun v K => v = .int .i64 (cmpR a b) ∧ K = H) := by
  refine Yf Tryz.func210 Tryz.ntmps210 rfl rfl hw ?_
  unfold ruV
  repeat' (first | refine zga ?_ | (refine zgh ?_; intro _) | fail)
  apply Y0 [0, 1, 2, 3, 5, 6, 7, 8, 10, 11, 12, 13, 15, 16, 17, 18, 4, 9, 14, 19, 20, 21, 22] [] [true, true]
  kernel_rfl
  kernel_rfl
  exact zy
  (simp only [Yl, nthO]; rfl)
  exact rfl
  repeat' (first | ((first | apply Ya en99 | apply Yb en99); exact za; exact rfl; exact fun _ hw => (V1 _ _ hw)) | (apply Yi; (repeat (first | with_reducible exact Yh | (with_reducible apply Yd; (repeat (first | with_reducible exact Ye | with_reducible apply Yc)))))) | refine zgd ?_ | (refine zgh ?_; intro _) | fail)
  rename_i g
  first | apply Ya en98 | apply Yb en98
  exact za
  exact rfl
  exact fun _ hw => (YgG [cmpI a.f b.f, cmpI a.k b.k, cmpI a.u b.u, cmpI a.v b.v] (by simp) (Rd.blk (g := g) (cs := #[.int .i64 (cmpI a.f b.f), .int .i64 (cmpI a.k b.k), .int .i64 (cmpI a.u b.u), .int .i64 (cmpI a.v b.v)]) zm) hw)
  repeat' (first | (apply Yi; (repeat (first | with_reducible exact Yh | (with_reducible apply Yd; (repeat (first | with_reducible exact Ye | with_reducible apply Yc)))))) | refine zgd ?_ | fail)
  apply Yk H
  · exact zk
  apply Yg; exact rfl; exact rfl
  exact ⟨rfl, rfl⟩
set_option maxRecDepth 10000 in
set_option maxHeartbeats 1000000 in
theorem Yc7 (l : List RuM) (c : RuM) (hlen : l.length ≤ 1000000000) {A : Option Addr} {cap B : Nat} {w0 : World} {H : List HP} {w : World} (hr : Rd B w0 H A (l.flatMap ruF)) (hw : St B w0 H w) :
    Calls Tryz.prog 252 [.slice A l.length cap, ruV c, .func (.func 210) #[] #[]].toArray w (Post B w0 fun v K =>
      (∃ (i : Nat) (b : Bool), v = .tuple #[.int .i64 (i : Nat), .bool b] ∧ (b = true → i < l.length)) ∧ K = H) := by
  refine Yf Tryz.func252 Tryz.ntmps252 rfl rfl hw ?_
  have p1 := fun (a b : RuM) {H' : List HP} {w : World} (hw : St B w0 H' w) => YaG a b hw
  unfold ruV at p1 ⊢
  (apply Zx; apply XH; apply Xv; exact rfl; exact rfl; intro g)
  repeat' (first | refine zgb ?_ | fail)
  have hr := hr.cons (X := blk g (.cells #[.int .i64 c.f, .int .i64 c.u, .int .i64 c.v, .int .i64 c.k, .slice c.A c.os.length c.cap] 257 (0, 0)))
  refine Ydi (fun (lo hi : Nat) => [(9, .int .i64 lo), (10, .int .i64 hi), (8, .int .i64 l.length), (0, .slice A l.length cap), (2, .func (.func 210) #[] #[]), (4, .pointer (some ⟨g, 0, none⟩))]) (fun _ _ => blk g (.cells #[.int .i64 c.f, .int .i64 c.u, .int .i64 c.v, .int .i64 c.k, .slice c.A c.os.length c.cap] 257 (0, 0)) :: H)
    (fun lo hi => lo ≤ hi ∧ hi ≤ l.length) (fun lo hi => hi - lo) 0 l.length ⟨by omega, by omega⟩ ?_ (fun w hw => hw) ?_
  · exact zu
  rintro lo hi ⟨h1, h2⟩ K hK
  by_cases hlt : lo < hi
  · obtain ⟨b, hb⟩ : ∃ b, l[(((lo : Int) + hi) / 2).toNat]? = some b := ⟨_, List.getElem?_eq_getElem (by omega)⟩
    repeat' (first | ((first | apply YD (cs := []) | apply Y2 (cs := [])); exact rfl; exact Ygu; exact za; exact rfl; exact fun _ hw => (p1 b c hw)) | refine zgd ?_ | (refine zge ?_ ?_ <;> intro _ <;> try (exfalso; omega)) | fail)
    · apply hK ((lo + hi) / 2 + 1) hi
      · exact ⟨by omega, by omega⟩
      · omega
      · exact zu
      · exact fun w hw => hw
    · apply hK lo ((lo + hi) / 2)
      · exact ⟨by omega, by omega⟩
      · omega
      · exact zu
      · exact fun w hw => hw
  · obtain rfl : lo = hi := by omega
    by_cases hl : lo < l.length
    · obtain ⟨b, hb⟩ : ∃ b, l[lo]? = some b := ⟨_, List.getElem?_eq_getElem hl⟩
      repeat' (first | ((first | apply YD (cs := []) | apply Y2 (cs := [])); exact rfl; exact Ygu; exact za; exact rfl; exact fun _ hw => (p1 b c hw)) | refine zgd ?_ | (refine zgf ?_ ?_ <;> intro _ <;> try (exfalso; omega)) | fail)
      all_goals (apply Ys; apply Yt; exact rfl; exact rfl; exact rfl; exact ⟨⟨lo, _, rfl, fun _ => hl⟩, rfl⟩)
    · repeat' (first | refine zgd ?_ | (refine zge ?_ ?_ <;> intro _ <;> try (exfalso; omega)) | fail)
      apply Ys; apply Yt; exact rfl; exact rfl; exact rfl
      exact ⟨⟨lo, _, rfl, fun h => by cases h⟩, rfl⟩
theorem YfA (x m : Int) {B : Nat} {w0 : World} {H : List HP} {w : World} (hw : St B w0 H w) :
    Calls Tryz.prog 250 [.int .i64 x, .int .i64 m].toArray w (Post B w0 fun v K => v = .bool (decide (0 ≤ x) && decide (x ≤ m)) ∧ K = H) := by
  refine Yf Tryz.func250 Tryz.ntmps250 rfl rfl hw ?_
  by_cases h1 : 0 ≤ x
  · by_cases h2 : x ≤ m
    · rw [decide_eq_true h1, decide_eq_true h2]
      repeat' (first | refine zgc ?_ | (refine zgf ?_ ?_ <;> intro _ <;> try (exfalso; omega)) | fail)
      apply Yg; exact rfl; exact rfl; exact ⟨rfl, rfl⟩
    · rw [decide_eq_true h1, decide_eq_false h2]
      repeat' (first | refine zgc ?_ | (refine zgf ?_ ?_ <;> intro _ <;> try (exfalso; omega)) | fail)
      apply Yg; exact rfl; exact rfl; exact ⟨rfl, rfl⟩
  · rw [decide_eq_false h1, Bool.false_and]
    repeat' (first | refine zgc ?_ | (refine zgf ?_ ?_ <;> intro _ <;> try (exfalso; omega)) | fail)
    apply Yg; exact rfl; exact rfl; exact ⟨rfl, rfl⟩
def outB (o : Int) : Bool := decide (o < 1) || decide (3 < o)
theorem Yey (o : Int) {B : Nat} {w0 : World} {H : List HP} {w : World} (hw : St B w0 H w) :
    Calls Tryz.prog 251 [.int .i64 o].toArray w (Post B w0 fun v K => v = .bool (outB o) ∧ K = H) := by
  refine Yf Tryz.func251 Tryz.ntmps251 rfl rfl hw ?_
  unfold outB
  by_cases h1 : o < 1
  · rw [decide_eq_true h1, Bool.true_or]
    repeat' (first | refine zgc ?_ | (refine zge ?_ ?_ <;> intro _ <;> try (exfalso; omega)) | fail)
    apply Yg; exact rfl; exact rfl; exact ⟨rfl, rfl⟩
  · by_cases h2 : 3 < o
    · rw [decide_eq_false h1, decide_eq_true h2]
      repeat' (first | refine zgc ?_ | (refine zge ?_ ?_ <;> intro _ <;> try (exfalso; omega)) | fail)
      apply Yg; exact rfl; exact rfl; exact ⟨rfl, rfl⟩
    · rw [decide_eq_false h1, decide_eq_false h2]
      repeat' (first | refine zgc ?_ | (refine zge ?_ ?_ <;> intro _ <;> try (exfalso; omega)) | fail)
      apply Yg; exact rfl; exact rfl; exact ⟨rfl, rfl⟩
set_option maxRecDepth 10000 in
set_option maxHeartbeats 2000000 in
theorem YeG (r : RuM) {B : Nat} {w0 : World} {H : List HP} {w : World} (hr : r.In B w0 H) (hw : St B w0 H w) :
    Calls Tryz.prog 209 [ruV r].toArray w (Post B w0 fun v K => (∃ b, v = .bool b) ∧ K = H) := by
  refine Yf Tryz.func209 Tryz.ntmps209 rfl rfl hw ?_
  have hl := hr.ln
  have hrd := hr.rd
  unfold ruV
  repeat' (first | ((first | apply Zz (cs := []) | apply Zy (cs := [])); exact rfl; exact Yms; exact za; exact rfl; exact fun _ hw => (YfA _ _ hw); all_goals (intro hB; (try simp only [decide_eq_true_eq, decide_eq_false_iff_not] at hB); try (exfalso; omega))) | ((first | apply XJ YbF | apply XI YbF); exact za; exact rfl; exact fun _ hw => (ZC (fun o => Value.int .i64 o) outB r.os 251 [] Ymt (by omega) zr (fun o _ w hw => Yey o hw) hw); all_goals (intro hB; (try simp only [decide_eq_true_eq, decide_eq_false_iff_not] at hB); try (exfalso; omega))) | refine zgd ?_ | (refine zge ?_ ?_ <;> intro _ <;> try (exfalso; omega)) | (refine zgh ?_; intro _) | fail)
  all_goals (
    apply Yk H
    · exact zk
    apply Yg; exact rfl; exact rfl
    exact ⟨⟨_, rfl⟩, rfl⟩)
set_option maxRecDepth 10000 in
set_option maxHeartbeats 2000000 in
theorem Ye4 (xs : List RuM) (hlen : xs.length ≤ 1000000) {A : Option Addr} {cap B : Nat} {w0 : World} {H : List HP} {w : World} (hx : XIn B w0 H A xs) (hw : St B w0 H w) :
    Calls Tryz.prog 150 [.slice A xs.length cap].toArray w (Post B w0 fun v K => (∃ i e : Int, v = .tuple #[.int .i64 i, .int .i64 e]) ∧ K = H) := by
  refine Yf Tryz.func150 Tryz.ntmps150 rfl rfl hw ?_
  have hop : ∀ w, St B w0 [many H] w → St B w0 H w := fun w hw => hw.perm (.openT H)
  have hx := hx.mono hop
  refine VP [many H] (fun w hw => hw.perm (.closeT H)) ?_
  have hrd := hx.rd
  have leaf : ∀ {i e : Int} {K : List HP} {v : Value}, v = .tuple #[.int .i64 i, .int .i64 e] → K = H → (∃ i e : Int, v = .tuple #[.int .i64 i, .int .i64 e]) ∧ K = H := fun h1 h2 => ⟨⟨_, _, h1⟩, h2⟩
  by_cases hbig : 1024 < xs.length
  · repeat' (first | refine zgb ?_ | (refine zge ?_ ?_ <;> intro _ <;> try (exfalso; omega)) | fail)
    apply Yk H
    · intro w hw
      refine hop w ?_
      revert w
      exact zk
    apply Yt; exact rfl; exact rfl; exact rfl; exact leaf rfl rfl
  repeat' (first | refine zgb ?_ | (refine zge ?_ ?_ <;> intro _ <;> try (exfalso; omega)) | fail)
  refine Yn (fun k : Nat => [(11, .int .i64 (k : Nat)), (10, .int .i64 xs.length), (9, .slice A xs.length cap), (0, .slice A xs.length cap)]) (fun _ => [many H]) (fun k => k ≤ xs.length) (fun k => xs.length - k) 0 (Nat.zero_le _) ?_ (fun w hw => hw) ?_
  · exact zu
  rintro k hk K hK
  by_cases hlt : k < xs.length
  rotate_left
  · clear hK
    repeat' (first | refine zgc ?_ | (refine zge ?_ ?_ <;> intro _ <;> try (exfalso; omega)) | fail)
    apply Yk H
    · intro w hw
      refine hop w ?_
      revert w
      exact zk
    apply Yt; exact rfl; exact rfl; exact rfl; exact leaf rfl rfl
  obtain ⟨r, hr⟩ : ∃ r, xs[k]? = some r := ⟨_, List.getElem?_eq_getElem hlt⟩
  have hri := hx.x r (List.mem_of_getElem? hr)
  have p1 := fun {H' : List HP} {w : World} (hr : r.In B w0 H') (hw : St B w0 H' w) => YeG r hr hw
  have p2 := fun (a b : RuM) {H' : List HP} {w : World} (hw : St B w0 H' w) => YaG a b hw
  unfold ruV at p1 p2
  repeat' (first | refine zgd ?_ | (refine zge ?_ ?_ <;> intro _ <;> try (exfalso; omega)) | (refine zgh ?_; intro _) | fail)
  apply Yr _ Yml
  exact za
  exact rfl
  exact fun _ hw => (p1 (hri.mono zk) (hw))
  rintro _ _ ⟨⟨b, rfl⟩, hK0⟩
  rw [hK0]
  cases b with
  | false =>
    repeat' (first | refine zgd ?_ | fail)
    apply Yk H
    · intro w hw
      refine hop w ?_
      revert w
      exact zk
    apply Yt; exact rfl; exact rfl; exact rfl; exact leaf rfl rfl
  | true =>
  by_cases hk0 : 0 < k
  rotate_left
  · repeat' (first | refine zgd ?_ | (refine zge ?_ ?_ <;> intro _ <;> try (exfalso; omega)) | fail)
    apply hK (k + 1)
    · show k + 1 ≤ _
      omega
    · omega
    · exact zu
    · exact zk
  obtain ⟨q, hq⟩ : ∃ q, xs[k - 1]? = some q := ⟨_, List.getElem?_eq_getElem (by omega)⟩
  have hq2 : xs[((k : Int) - 1).toNat]? = some q := by rw [show ((k : Int) - 1).toNat = k - 1 by omega]; exact hq
  repeat' (first | ((first | apply Ya Ygu | apply Yb Ygu); exact za; exact rfl; exact fun _ hw => (p2 q r hw)) | refine zgd ?_ | (refine zgf ?_ ?_ <;> intro _ <;> try (exfalso; omega)) | fail)
  · apply Yk H
    · intro w hw
      refine hop w ?_
      revert w
      exact zk
    apply Yt; exact rfl; exact rfl; exact rfl; exact leaf rfl rfl
  · apply hK (k + 1)
    · show k + 1 ≤ _
      omega
    · omega
    · exact zu
    · exact zk
end Go.Proofs.YtmalhidldgfeoaaGreatDoor
namespace Go.Eng
open Go.RowKit
open Go.ChangeMaps (setBlock)
abbrev KL := List Int
def kv (k : KL) : Value := .agg (k.map fun x => Value.int .i64 x).toArray
abbrev YM := List (KL × Value × Nat)
def vE (e : KL × Value × Nat) : MapEntry := ⟨kv e.1, e.2.1, e.2.2⟩
def vobj (es : YM) (clock : Nat) : Obj := .map (es.map vE).toArray clock
def vget (es : YM) (k : KL) : Option Value := (es.find? fun e => e.1 == k).map (·.2.1)
def keyT (P : Program) (kt : TypeId) (n : Nat) : Bool :=
  match P.underlying kt with
  | some (.struct fs) => !P.stoodInHeld kt && (fs.toList.map (·.offset) == List.range n) && fs.toList.all (fun f => f.name != "_" && (match P.underlying f.type with | some (.int .i64) => true | _ => false))
  | _ => false
def Jw (P : Program) (t kt et : TypeId) (n : Nat) : Bool := (match P.underlying t with | some (.map a b) => a == kt && b == et | _ => false) && keyT P kt n
section
variable {P : Program}
theorem W0 {kt : TypeId} {n : Nat} (h : keyT P kt n = true) : ∃ fs, P.underlying kt = some (.struct fs) ∧ P.stoodInHeld kt = false ∧ fs.toList.map (·.offset) = List.range n ∧
    ∀ f ∈ fs.toList, f.name ≠ "_" ∧ P.underlying f.type = some (.int .i64) := by
  unfold keyT at h
  split at h
  · rename_i fs hu
    simp only [Bool.and_eq_true, Bool.not_eq_true', beq_iff_eq, List.all_eq_true, bne_iff_ne, ne_eq] at h
    obtain ⟨⟨h1, h2⟩, h3⟩ := h
    refine ⟨fs, hu, h1, h2, fun f hf => ⟨(h3 f hf).1, ?_⟩⟩
    have h4 := (h3 f hf).2
    split at h4
    · rename_i hq; exact hq
    · cases h4
  · cases h
theorem Xs {t kt et : TypeId} {n : Nat} (h : Jw P t kt et n = true) : P.underlying t = some (.map kt et) ∧ keyT P kt n = true := by
  unfold Jw at h
  rw [Bool.and_eq_true] at h
  obtain ⟨h1, h2⟩ := h
  refine ⟨?_, h2⟩
  split at h1
  · rename_i a b hu
    simp only [Bool.and_eq_true, beq_iff_eq] at h1
    rw [hu, h1.1, h1.2]
  · cases h1
theorem Yi5 {fs : Array Field} {n : Nat} (h : fs.toList.map (·.offset) = List.range n) {f : Field} (hf : f ∈ fs.toList) : f.offset < n := by
  have : f.offset ∈ fs.toList.map (·.offset) := List.mem_map.2 ⟨f, hf, rfl⟩
  rw [h] at this
  exact List.mem_range.1 this
theorem Yc5 (w : World) {kt : TypeId} {n : Nat} (h : keyT P kt n = true) {a b : KL} (la : a.length = n) (lb : b.length = n) : (Op.equal kt (kv a) (kv b)).run P w = .ok (a == b) w := by
  obtain ⟨fs, hu, h1, h2, h3⟩ := W0 h
  have hl : Qb P kt (a.map fun x => Value.int .i64 x) (b.map fun x => Value.int .i64 x) = true := by
    unfold Qb
    simp only [hu, h1, h2, List.length_map, la, lb, Bool.not_false, beq_self_eq_true, Bool.true_and, List.all_eq_true, Bool.and_eq_true, bne_iff_ne, ne_eq]
    intro f hf
    have hlt := Yi5 h2 hf
    refine ⟨(h3 f hf).1, ?_⟩
    rw [List.getElem?_eq_getElem (by simp [la, hlt]), List.getElem?_eq_getElem (by simp [lb, hlt]), List.getElem_map, List.getElem_map]
    simp only [U4, (h3 f hf).2, decide_true, Bool.and_self]
  obtain ⟨r, hr, hiff⟩ := YfR w hl
  unfold kv
  rw [hr]
  have : r = (a == b) := by
    rw [Bool.eq_iff_iff, hiff, beq_iff_eq]
    exact List.map_inj_right (fun x y e => by injection e)
  rw [this]
theorem XD (w : World) {kt : TypeId} {n : Nat} (h : keyT P kt n = true) {k : KL} (lk : k.length = n) (em : Bool) : (Instr.checkKey em 10000 kt (kv k)).run P w = .ok () w := by
  obtain ⟨fs, hu, h1, h2, h3⟩ := W0 h
  have each : ∀ f ∈ fs.toList, f.name ≠ "_" ∧ P.underlying f.type = some (.int .i64) ∧ f.offset < n := fun f hf => ⟨(h3 f hf).1, (h3 f hf).2, Yi5 h2 hf⟩
  unfold kv
  rw [show 10000 = 9998 + 1 + 1 from rfl, Instr.checkKey]
  simp only [Sem.run_bind, run_underlying hu, Result.andThen_ok]
  rw [← Array.forIn_toList]
  clear h1 h2 h3 hu h
  generalize fs.toList = L at each
  induction L with
  | nil => simp
  | cons f L ih =>
    obtain ⟨hn, hp, hlt⟩ := each f (by simp)
    have p1 := run_part_plain (P := P) (w := w) (e := f.type) (by simp [Program.plainKey, hp]) (xs := (k.map fun x => Value.int .i64 x).toArray) (off := f.offset) (v := .int .i64 (k[f.offset]'(by omega)))
      (by rw [List.getElem?_toArray, List.getElem?_eq_getElem (by simp [lk, hlt]), List.getElem_map])
    have p2 : (Instr.checkKey em (9998 + 1) f.type (.int .i64 (k[f.offset]'(by omega)))).run P w = .ok () w := by
      unfold Instr.checkKey
      simp [run_underlying hp]
    simp only [List.forIn_cons, Sem.run_bind, hn, ne_eq, not_false_eq_true, if_true, Result.andThen_ok, p1, p2, Sem.run_pure]
    exact ih (fun y hy => each y (by simp [hy]))
theorem YeN (m : Nat) (k : KL) : Instr.sameBits (m + 1) (kv k) (kv k) = true := by
  unfold kv
  simp only [Instr.sameBits, beq_self_eq_true, Bool.true_and]
  induction k with
  | nil => rfl
  | cons x k ih =>
    simp only [List.map_cons, List.zip_cons_cons, List.all_cons, Bool.and_eq_true]
    refine ⟨?_, ih⟩
    cases m <;> simp [Instr.sameBits]
theorem WC (w : World) (k : KL) : (Instr.keyThatStays (kv k) (kv k)).run P w = .ok (kv k) w := by
  unfold Instr.keyThatStays
  rw [show 10000 = 9999 + 1 from rfl, YeN]
  simp
theorem YbO {kt : TypeId} {n : Nat} (w : World) (h : keyT P kt n = true) {k : KL} (lk : k.length = n) : ∀ (es : YM) (i : Nat), (∀ e ∈ es, e.1.length = n) → vget es k = none →
    (Instr.findAsking kt (kv k) (es.map vE) i).run P w = .ok none w
  | [], i, _, _ => by simp [Instr.findAsking]
  | e :: es, i, hok, hg => by
    unfold vget at hg
    rw [List.find?_cons] at hg
    by_cases he : e.1 = k
    · simp [he] at hg
    · have hb : (e.1 == k) = false := by simpa using he
      have hb' : (k == e.1) = false := by simpa using fun x => he x.symm
      rw [hb] at hg
      simp only [List.map_cons, Instr.findAsking, Sem.run_bind, vE, Yc5 w h lk (hok e (by simp)), hb', Result.andThen_ok, Bool.false_eq_true, if_false]
      exact YbO w h lk es (i + 1) (fun e he => hok e (by simp [he])) hg
theorem Ygx {kt : TypeId} {n : Nat} (w : World) (h : keyT P kt n = true) {k : KL} (lk : k.length = n) {v : Value} {b : Nat} {l2 : YM} : ∀ (l1 : YM) (i : Nat), (∀ e ∈ l1, e.1.length = n) → (∀ e ∈ l1, e.1 ≠ k) →
    (Instr.findAsking kt (kv k) ((l1 ++ (k, v, b) :: l2).map vE) i).run P w = .ok (some (i + l1.length, v)) w
  | [], i, _, _ => by
    simp only [List.nil_append, List.map_cons, Instr.findAsking, Sem.run_bind, vE, Yc5 w h lk lk, beq_self_eq_true, Result.andThen_ok, if_true, Sem.run_pure, List.length_nil, Nat.add_zero]
  | e :: l1, i, hok, hne => by
    have hb' : (k == e.1) = false := by simpa using fun x => hne e (by simp) x.symm
    simp only [List.cons_append, List.map_cons, Instr.findAsking, Sem.run_bind, vE, Yc5 w h lk (hok e (by simp)), hb', Result.andThen_ok, Bool.false_eq_true, if_false]
    have := Ygx w h lk (v := v) (b := b) (l2 := l2) l1 (i + 1) (fun e he => hok e (by simp [he])) (fun e he => hne e (by simp [he]))
    rw [show i + (e :: l1).length = i + 1 + l1.length by simp; omega]
    exact this
theorem Jv {es : YM} {k : KL} {v : Value} (h : vget es k = some v) : ∃ l1 b l2, es = l1 ++ (k, v, b) :: l2 ∧ ∀ e ∈ l1, e.1 ≠ k := by
  unfold vget at h
  induction es with
  | nil => simp at h
  | cons e es ih =>
    rw [List.find?_cons] at h
    by_cases he : e.1 = k
    · simp only [he, beq_self_eq_true, Option.map_some, Option.some.injEq] at h
      exact ⟨[], e.2.2, es, by rw [← he, ← h]; rfl, by simp⟩
    · have hb : (e.1 == k) = false := by simpa using he
      rw [hb] at h
      obtain ⟨l1, b, l2, rfl, hne⟩ := ih h
      exact ⟨e :: l1, b, l2, rfl, by
        intro x hx
        rcases List.mem_cons.1 hx with rfl | hx
        · exact he
        · exact hne x hx⟩
theorem YbY {kt : TypeId} {n : Nat} (h : keyT P kt n = true) : (match P.underlying kt with | some (.array _ _) | some (.struct _) => true | _ => false) = true := by
  obtain ⟨fs, hu, _⟩ := W0 h
  rw [hu]
theorem Wu {kt : TypeId} {n : Nat} (w : World) (h : keyT P kt n = true) {k : KL} (lk : k.length = n) {es : YM} (hok : ∀ e ∈ es, e.1.length = n) (hg : vget es k = none) :
    (Instr.findKey kt (kv k) (es.map vE)).run P w = .ok none w := by
  rw [run_findKey_eq w (YbY h)]
  exact YbO w h lk es 0 hok hg
theorem YfE {kt : TypeId} {n : Nat} (w : World) (h : keyT P kt n = true) {k : KL} (lk : k.length = n) {v : Value} {b : Nat} {l1 l2 : YM} (hok : ∀ e ∈ l1, e.1.length = n) (hne : ∀ e ∈ l1, e.1 ≠ k) :
    (Instr.findKey kt (kv k) ((l1 ++ (k, v, b) :: l2).map vE)).run P w = .ok (some (l1.length, v)) w := by
  rw [run_findKey_eq w (YbY h)]
  have := Ygx w h lk (v := v) (b := b) (l2 := l2) l1 0 hok hne
  rwa [Nat.zero_add] at this
theorem Yej {kt : TypeId} {n : Nat} (w : World) (h : keyT P kt n = true) {k : KL} (lk : k.length = n) {v : Value} {es : YM} (hok : ∀ e ∈ es, e.1.length = n) (hg : vget es k = some v) :
    ∃ i, (Instr.findKey kt (kv k) (es.map vE)).run P w = .ok (some (i, v)) w := by
  obtain ⟨l1, b, l2, rfl, hne⟩ := Jv hg
  exact ⟨_, YfE w h lk (fun e he => hok e (by simp [he])) hne⟩
end
section
variable {P : Program} {n : Shp} {B : Nat} {w0 : World} {Q : Exit → Act → World → Prop} {env : Env} {H : List HP} {m : Mode} {ops : Array Oper} {rest : List Oper} {d : Nat} {ty : TypeId} {pos : String} {after : Array Edge}
theorem Ydu {t : TypeId} (hn : Nat.ble (d + 1) n.k = true) (h : ∀ g, VL P none n B w0 ops Q rest ((d, .map (some g)) :: env) (blk g (vobj [] 0) :: H)) : VL P none n B w0 ops Q (⟨some d, .makeMap t none, ty, pos, after, none⟩ :: rest) env H :=
  Xw (fun v K => ∃ g, v = .map (some g) ∧ K = blk g (vobj [] 0) :: H) rfl rfl hn
    (fun a w _ hw => ⟨_, _, w.alloc (vobj [] 0), by simp [execOp, Instr.makeMap, newObj, Sem.run, vobj], hw.alloc _, w.heap.size, rfl, rfl⟩)
    (by rintro _ _ ⟨g, rfl, rfl⟩; exact h g)
theorem Xy {t kt et g clock : Nat} {N : Nat} {es : YM} {x y : Operand} (k : KL) {v : Value} (hx : evo env x = some (.map (some g))) (hy : evo env y = some (kv k)) (hm : blk g (vobj es clock) ∈ H) (ht : Jw P t kt et N = true) (lk : k.length = N) (hok : ∀ e ∈ es, e.1.length = N) (hn : Nat.ble (d + 1) n.k = true) (hk : vget es k = some v)
    (h : VL P m n B w0 ops Q rest ((d, v) :: env) H) : VL P m n B w0 ops Q (⟨some d, .lookup t x y false, ty, pos, after, none⟩ :: rest) env H := by
  obtain ⟨h1, h2⟩ := Xs ht
  refine Yw rfl rfl hn rfl (fun a w ha hw => ?_) h
  have hb := (hw.blk hm).1
  unfold vobj at hb
  obtain ⟨i, e3⟩ := Yej w h2 lk hok hk
  simp [execOp, ha.eval hx, ha.eval hy, Instr.lookup, run_underlying h1, getObj, Sem.run, hb, XD _ h2 lk, e3]
theorem ZM {t kt et g clock : Nat} {N : Nat} {es : YM} {x y : Operand} (k : KL) {z : Value} (hx : evo env x = some (.map (some g))) (hy : evo env y = some (kv k)) (hm : blk g (vobj es clock) ∈ H) (ht : Jw P t kt et N = true) (lk : k.length = N) (hok : ∀ e ∈ es, e.1.length = N) (hn : Nat.ble (d + 1) n.k = true) (hk : vget es k = none) (hz : ∀ w, (zeroValue et).run P w = .ok z w)
    (h : VL P m n B w0 ops Q rest ((d, z) :: env) H) : VL P m n B w0 ops Q (⟨some d, .lookup t x y false, ty, pos, after, none⟩ :: rest) env H := by
  obtain ⟨h1, h2⟩ := Xs ht
  refine Yw rfl rfl hn rfl (fun a w ha hw => ?_) h
  have hb := (hw.blk hm).1
  unfold vobj at hb
  simp [execOp, ha.eval hx, ha.eval hy, Instr.lookup, run_underlying h1, getObj, Sem.run, hb, XD _ h2 lk, Wu w h2 lk hok hk, hz]
theorem XT {t kt et g clock : Nat} {N : Nat} {es : YM} {x y : Operand} (k : KL) {v : Value} (hx : evo env x = some (.map (some g))) (hy : evo env y = some (kv k)) (hm : blk g (vobj es clock) ∈ H) (ht : Jw P t kt et N = true) (lk : k.length = N) (hok : ∀ e ∈ es, e.1.length = N) (hn : Nat.ble (d + 1) n.k = true) (hk : vget es k = some v)
    (h : VL P m n B w0 ops Q rest ((d, .tuple #[v, .bool true]) :: env) H) : VL P m n B w0 ops Q (⟨some d, .lookup t x y true, ty, pos, after, none⟩ :: rest) env H := by
  obtain ⟨h1, h2⟩ := Xs ht
  refine Yw rfl rfl hn rfl (fun a w ha hw => ?_) h
  have hb := (hw.blk hm).1
  unfold vobj at hb
  obtain ⟨i, e3⟩ := Yej w h2 lk hok hk
  simp [execOp, ha.eval hx, ha.eval hy, Instr.lookup, run_underlying h1, getObj, Sem.run, hb, XD _ h2 lk, e3]
theorem XS {t kt et g clock : Nat} {N : Nat} {es : YM} {x y : Operand} (k : KL) {z : Value} (hx : evo env x = some (.map (some g))) (hy : evo env y = some (kv k)) (hm : blk g (vobj es clock) ∈ H) (ht : Jw P t kt et N = true) (lk : k.length = N) (hok : ∀ e ∈ es, e.1.length = N) (hn : Nat.ble (d + 1) n.k = true) (hk : vget es k = none) (hz : ∀ w, (zeroValue et).run P w = .ok z w)
    (h : VL P m n B w0 ops Q rest ((d, .tuple #[z, .bool false]) :: env) H) : VL P m n B w0 ops Q (⟨some d, .lookup t x y true, ty, pos, after, none⟩ :: rest) env H := by
  obtain ⟨h1, h2⟩ := Xs ht
  refine Yw rfl rfl hn rfl (fun a w ha hw => ?_) h
  have hb := (hw.blk hm).1
  unfold vobj at hb
  simp [execOp, ha.eval hx, ha.eval hy, Instr.lookup, run_underlying h1, getObj, Sem.run, hb, XD _ h2 lk, Wu w h2 lk hok hk, hz]
theorem YdC {t kt et g clock : Nat} {N : Nat} {es : YM} {x y : Operand} (k : KL) {v : Value} (hx : evo env x = some (.map (some g))) (hy : evo env y = some (kv k)) (hm : blk g (vobj es clock) ∈ H) (ht : Jw P t kt et N = true) (lk : k.length = N) (hok : ∀ e ∈ es, e.1.length = N) (hn : Nat.ble (d + 1) n.k = true)
    (hk : vget es k = some v ∨ (vget es k = none ∧ ∀ w, (zeroValue et).run P w = .ok v w))
    (h : VL P m n B w0 ops Q rest ((d, v) :: env) H) : VL P m n B w0 ops Q (⟨some d, .lookup t x y false, ty, pos, after, none⟩ :: rest) env H := by
  rcases hk with hk | ⟨hk, hz⟩
  · exact Xy k hx hy hm ht lk hok hn hk h
  · exact ZM k hx hy hm ht lk hok hn hk hz h
theorem YdB {t kt et g clock : Nat} {N : Nat} {es : YM} {x y : Operand} (k : KL) {v : Value} {b : Bool} (hx : evo env x = some (.map (some g))) (hy : evo env y = some (kv k)) (hm : blk g (vobj es clock) ∈ H) (ht : Jw P t kt et N = true) (lk : k.length = N) (hok : ∀ e ∈ es, e.1.length = N) (hn : Nat.ble (d + 1) n.k = true)
    (hk : (vget es k = some v ∧ b = true) ∨ (vget es k = none ∧ b = false ∧ ∀ w, (zeroValue et).run P w = .ok v w))
    (h : VL P m n B w0 ops Q rest ((d, .tuple #[v, .bool b]) :: env) H) : VL P m n B w0 ops Q (⟨some d, .lookup t x y true, ty, pos, after, none⟩ :: rest) env H := by
  rcases hk with ⟨hk, rfl⟩ | ⟨hk, rfl, hz⟩
  · exact XT k hx hy hm ht lk hok hn hk h
  · exact XS k hx hy hm ht lk hok hn hk hz h
theorem UT {t kt et g clock : Nat} {N : Nat} {es : YM} {x y u : Operand} (k : KL) {v : Value} {K : List HP} (hx : evo env x = some (.map (some g))) (hy : evo env y = some (kv k)) (hv : evo env u = some v) (ht : Jw P t kt et N = true) (lk : k.length = N) (hok : ∀ e ∈ es, e.1.length = N)
    (hu : Upd (blk g (vobj es clock)) (blk g (vobj (es ++ [(k, v, clock)]) (clock + 1))) H K) (hk : vget es k = none)
    (h : VL P none n B w0 ops Q rest env K) : VL P none n B w0 ops Q (⟨none, .mapUpdate t x y u, ty, pos, after, none⟩ :: rest) env H := by
  obtain ⟨h1, h2⟩ := Xs ht
  refine Z5 rfl rfl (fun a w ha hw => ⟨setBlock w g (vobj (es ++ [(k, v, clock)]) (clock + 1)), ?_, hw.setBlock hu⟩) h
  have hb : w.heap[g]? = some (vobj es clock) := by
    obtain ⟨L1, L2, rfl, _⟩ := hu
    exact (hw.blk (by simp)).1
  unfold vobj at hb
  simp [execOp, ha.eval hx, ha.eval hy, ha.eval hv, Instr.mapUpdate, run_underlying h1, getObj, Sem.run, hb, XD _ h2 lk, Wu w h2 lk hok hk, MapKept.run_setObj_map _ hb, setBlock, vobj, vE]
theorem Yff {t kt et g clock b : Nat} {N : Nat} {l1 l2 : YM} {x y u : Operand} (k : KL) {v v0 : Value} {K : List HP} (hx : evo env x = some (.map (some g))) (hy : evo env y = some (kv k)) (hv : evo env u = some v) (ht : Jw P t kt et N = true) (lk : k.length = N) (hok : ∀ e ∈ l1, e.1.length = N)
    (hu : Upd (blk g (vobj (l1 ++ (k, v0, b) :: l2) clock)) (blk g (vobj (l1 ++ (k, v, b) :: l2) clock)) H K) (hk : ∀ e ∈ l1, e.1 ≠ k)
    (h : VL P none n B w0 ops Q rest env K) : VL P none n B w0 ops Q (⟨none, .mapUpdate t x y u, ty, pos, after, none⟩ :: rest) env H := by
  obtain ⟨h1, h2⟩ := Xs ht
  refine Z5 rfl rfl (fun a w ha hw => ⟨setBlock w g (vobj (l1 ++ (k, v, b) :: l2) clock), ?_, hw.setBlock hu⟩) h
  have hb : w.heap[g]? = some (vobj (l1 ++ (k, v0, b) :: l2) clock) := by
    obtain ⟨L1, L2, rfl, _⟩ := hu
    exact (hw.blk (by simp)).1
  unfold vobj at hb
  have hf := YfE w h2 lk (v := v0) (b := b) (l2 := l2) hok hk
  have hsz : (l1 ++ (k, v0, b) :: l2).map vE = l1.map vE ++ vE (k, v0, b) :: l2.map vE := by simp
  have hget : ((List.map vE (l1 ++ (k, v0, b) :: l2)).toArray)[l1.length]? = some (vE (k, v0, b)) := by rw [hsz]; simp
  have hmod : ((List.map vE (l1 ++ (k, v0, b) :: l2)).toArray).modify l1.length (fun e => { e with key := kv k, val := v }) = (List.map vE (l1 ++ (k, v, b) :: l2)).toArray := by
    rw [hsz, List.modify_toArray, show l1.length = (l1.map vE).length by simp, U6]; simp [vE]
  have hks := WC (P := P) w k
  have hkey : (Option.map (fun x : MapEntry => x.key) (some (vE (k, v0, b)))).getD (kv k) = kv k := rfl
  have hrun : (Instr.mapUpdate t (.map (some g)) (kv k) v).run P w = .ok () (setBlock w g (vobj (l1 ++ (k, v, b) :: l2) clock)) := by
    simp only [Instr.mapUpdate, Sem.run_bind, run_underlying h1, getObj, Sem.run, hb, XD _ h2 lk, hf, hget, hkey, hks, hmod, Result.andThen, MapKept.run_setObj_map _ hb, setBlock, vobj]
  simp [execOp, ha.eval hx, ha.eval hy, ha.eval hv, hrun]
theorem Qx {t kt et g clock : Nat} {N : Nat} {es : YM} {x y : Operand} (k : KL) {z : Value} {K : List HP} (hx : evo env x = some (.map (some g))) (hy : evo env y = some (kv k)) (ht : Jw P t kt et N = true) (lk : k.length = N) (hok : ∀ e ∈ es, e.1.length = N) (hn : Nat.ble (d + 1) n.k = true)
    (hu : Upd (blk g (vobj es clock)) (blk g (vobj (es ++ [(k, z, clock)]) (clock + 1))) H K) (hk : vget es k = none) (hz : ∀ w, (zeroValue et).run P w = .ok z w)
    (h : VL P none n B w0 ops Q rest ((d, .tuple #[z, goInt clock]) :: env) K) : VL P none n B w0 ops Q (⟨some d, .mapEntry t x y, ty, pos, after, none⟩ :: rest) env H := by
  obtain ⟨h1, h2⟩ := Xs ht
  refine Xw (fun v K' => v = .tuple #[z, goInt clock] ∧ K' = K) rfl rfl hn (fun a w ha hw => ?_) (by rintro _ _ ⟨rfl, rfl⟩; exact h)
  refine ⟨_, K, setBlock w g (vobj (es ++ [(k, z, clock)]) (clock + 1)), ?_, hw.setBlock hu, rfl, rfl⟩
  have hb : w.heap[g]? = some (vobj es clock) := by
    obtain ⟨L1, L2, rfl, _⟩ := hu
    exact (hw.blk (by simp)).1
  unfold vobj at hb
  simp [execOp, ha.eval hx, ha.eval hy, Instr.mapEntry, run_underlying h1, getObj, Sem.run, hb, XD _ h2 lk, Wu w h2 lk hok hk, hz, MapKept.run_setObj_map _ hb, setBlock, vobj, vE]
theorem Qy {t kt et g clock b : Nat} {N : Nat} {l1 l2 : YM} {x y : Operand} (k : KL) {v0 : Value} {K : List HP} (hx : evo env x = some (.map (some g))) (hy : evo env y = some (kv k)) (ht : Jw P t kt et N = true) (lk : k.length = N) (hok : ∀ e ∈ l1, e.1.length = N) (hn : Nat.ble (d + 1) n.k = true)
    (hu : Upd (blk g (vobj (l1 ++ (k, v0, b) :: l2) clock)) (blk g (vobj (l1 ++ (k, v0, b) :: l2) clock)) H K) (hk : ∀ e ∈ l1, e.1 ≠ k)
    (h : VL P none n B w0 ops Q rest ((d, .tuple #[v0, goInt b]) :: env) K) : VL P none n B w0 ops Q (⟨some d, .mapEntry t x y, ty, pos, after, none⟩ :: rest) env H := by
  obtain ⟨h1, h2⟩ := Xs ht
  refine Xw (fun v K' => v = .tuple #[v0, goInt b] ∧ K' = K) rfl rfl hn (fun a w ha hw => ?_) (by rintro _ _ ⟨rfl, rfl⟩; exact h)
  refine ⟨_, K, setBlock w g (vobj (l1 ++ (k, v0, b) :: l2) clock), ?_, hw.setBlock hu, rfl, rfl⟩
  have hb : w.heap[g]? = some (vobj (l1 ++ (k, v0, b) :: l2) clock) := by
    obtain ⟨L1, L2, rfl, _⟩ := hu
    exact (hw.blk (by simp)).1
  unfold vobj at hb
  have hf := YfE w h2 lk (v := v0) (b := b) (l2 := l2) hok hk
  have hsz : (l1 ++ (k, v0, b) :: l2).map vE = l1.map vE ++ vE (k, v0, b) :: l2.map vE := by simp
  have hget : ((List.map vE (l1 ++ (k, v0, b) :: l2)).toArray)[l1.length]? = some (vE (k, v0, b)) := by rw [hsz]; simp
  have hmod : ((List.map vE (l1 ++ (k, v0, b) :: l2)).toArray).modify l1.length (fun e => { e with key := kv k }) = (List.map vE (l1 ++ (k, v0, b) :: l2)).toArray := by
    rw [hsz, List.modify_toArray, show l1.length = (l1.map vE).length by simp, U6]; simp [vE]
  have hks := WC (P := P) w k
  have hkey : (Option.map (fun x : MapEntry => x.key) (some (vE (k, v0, b)))).getD (kv k) = kv k := rfl
  have hrun : (Instr.mapEntry t (.map (some g)) (kv k)).run P w = .ok (.tuple #[v0, goInt b]) (setBlock w g (vobj (l1 ++ (k, v0, b) :: l2) clock)) := by
    simp only [Instr.mapEntry, Sem.run_bind, run_underlying h1, getObj, Sem.run, hb, XD _ h2 lk, hf, hget, hkey, hks, hmod, Result.andThen, MapKept.run_setObj_map _ hb, setBlock, vobj]
    rfl
  simp [execOp, ha.eval hx, ha.eval hy, hrun]
theorem Ze {t g clock b : Nat} {l1 l2 : YM} {k : KL} {x y u : Operand} {v v0 : Value} {K : List HP} (hx : evo env x = some (.map (some g))) (hy : evo env y = some (goInt b)) (hv : evo env u = some v)
    (hu : Upd (blk g (vobj (l1 ++ (k, v0, b) :: l2) clock)) (blk g (vobj (l1 ++ (k, v, b) :: l2) clock)) H K) (hk : ∀ e ∈ l1, e.2.2 ≠ b)
    (h : VL P none n B w0 ops Q rest env K) : VL P none n B w0 ops Q (⟨none, .entryStore t x y u, ty, pos, after, none⟩ :: rest) env H := by
  refine Z5 rfl rfl (fun a w ha hw => ⟨setBlock w g (vobj (l1 ++ (k, v, b) :: l2) clock), ?_, hw.setBlock hu⟩) h
  have hb : w.heap[g]? = some (vobj (l1 ++ (k, v0, b) :: l2) clock) := by
    obtain ⟨L1, L2, rfl, _⟩ := hu
    exact (hw.blk (by simp)).1
  unfold vobj at hb
  have hsz : (l1 ++ (k, v0, b) :: l2).map vE = l1.map vE ++ vE (k, v0, b) :: l2.map vE := by simp
  have hidx : ((List.map vE (l1 ++ (k, v0, b) :: l2)).toArray).findIdx? (fun e => (e.born : Int) == (b : Int)) = some l1.length := by
    rw [List.findIdx?_toArray, hsz, List.findIdx?_append]
    have h0 : (l1.map vE).findIdx? (fun e => (e.born : Int) == (b : Int)) = none := by
      rw [List.findIdx?_eq_none_iff]
      intro x hx
      obtain ⟨e, he, rfl⟩ := List.mem_map.1 hx
      have := hk e he
      simp only [vE, beq_eq_false_iff_ne, ne_eq]
      omega
    rw [h0]
    simp [vE, List.findIdx?_cons]
  have hmod : ((List.map vE (l1 ++ (k, v0, b) :: l2)).toArray).modify l1.length (fun e => { e with val := v }) = (List.map vE (l1 ++ (k, v, b) :: l2)).toArray := by
    rw [hsz, List.modify_toArray, show l1.length = (l1.map vE).length by simp, U6]; simp [vE]
  have hi : (asInt (goInt b)).run P w = .ok (b : Int) w := by simp [asInt, asIntOf, goInt]
  have hrun : (Instr.entryStore t (.map (some g)) (goInt b) v).run P w = .ok () (setBlock w g (vobj (l1 ++ (k, v, b) :: l2) clock)) := by
    simp only [Instr.entryStore, Sem.run_bind, getObj, hi, Sem.run, hb, hidx, hmod, Result.andThen, MapKept.run_setObj_map _ hb, setBlock, vobj]
  simp [execOp, ha.eval hx, ha.eval hy, ha.eval hv, hrun]
theorem YgY {t kt et g clock N : Nat} {es : YM} {x : Operand} (hx : evo env x = some (.map (some g))) (hm : blk g (vobj es clock) ∈ H) (ht : Jw P t kt et N = true) (hn : Nat.ble (d + 1) n.k = true)
    (h : ∀ r, VL P none n B w0 ops Q rest ((d, .pointer (some ⟨r, 0, none⟩)) :: env) (blk r (.mapIter (some g) clock #[] clock) :: H)) : VL P none n B w0 ops Q (⟨some d, .range t x, ty, pos, after, none⟩ :: rest) env H := by
  obtain ⟨h1, h2⟩ := Xs ht
  refine Xw (fun v K => ∃ r, v = .pointer (some ⟨r, 0, none⟩) ∧ K = blk r (.mapIter (some g) clock #[] clock) :: H) rfl rfl hn (fun a w ha hw => ?_) (by rintro _ _ ⟨g, rfl, rfl⟩; exact h g)
  have hb := (hw.blk hm).1
  unfold vobj at hb
  refine ⟨_, _, w.alloc (.mapIter (some g) clock #[] clock), ?_, hw.alloc _, w.heap.size, rfl, rfl⟩
  simp [execOp, ha.eval hx, Instr.range, run_underlying h1, getObj, Sem.run, hb, newObj]
theorem Yir {g r clock since c0 : Nat} {seen : Array Nat} {es : YM} {x : Operand} {K : Nat → List HP} (hx : evo env x = some (.pointer (some ⟨r, 0, none⟩))) (hm : blk g (vobj es clock) ∈ H) (hn : Nat.ble (d + 1) n.k = true)
    (hu : ∀ b, Upd (blk r (.mapIter (some g) since seen c0)) (blk r (.mapIter (some g) since (seen.push b) clock)) H (K b)) (hold : ∀ e ∈ es, e.2.2 < since) (hsc : since ≤ c0)
    (h1 : (∀ e ∈ es, seen.contains e.2.2 = true) → VL P none n B w0 ops Q rest ((d, .tuple #[.bool false]) :: env) H)
    (h2 : ∀ e ∈ es, seen.contains e.2.2 = false → VL P none n B w0 ops Q rest ((d, .tuple #[.bool true, kv e.1, e.2.1]) :: env) (K e.2.2)) :
    VL P none n B w0 ops Q (⟨some d, .next x false, ty, pos, after, none⟩ :: rest) env H := by
  refine Xw (fun v K' => (v = .tuple #[.bool false] ∧ K' = H ∧ ∀ e ∈ es, seen.contains e.2.2 = true) ∨ ∃ e ∈ es, seen.contains e.2.2 = false ∧ v = .tuple #[.bool true, kv e.1, e.2.1] ∧ K' = K e.2.2) rfl rfl hn (fun a w ha hw => ?_) (by
    rintro _ _ (⟨rfl, rfl, hs⟩ | ⟨e, he, hs, rfl, rfl⟩)
    · exact h1 hs
    · exact h2 e he hs)
  have hb := (hw.blk hm).1
  unfold vobj at hb
  have hr : w.heap[r]? = some (.mapIter (some g) since seen c0) := by
    obtain ⟨L1, L2, e, _⟩ := hu 0
    exact (hw.blk (by rw [e]; simp)).1
  have hold' : ∀ x ∈ ((es.map vE).toArray).toList, x.born < since := by
    intro x hx
    obtain ⟨e, he, rfl⟩ := List.mem_map.1 hx
    exact hold e he
  have hx' : (execOp a.eval ⟨some d, .next x false, ty, pos, after, none⟩).run P w = ((Instr.next (.pointer (some ⟨r, 0, none⟩)) false ty).run P w).andThen fun v w' => .ok (.value v) w' := by
    simp [execOp, ha.eval hx]
  rcases run_next_at (P := P) w ty r g since c0 seen _ clock hr hb hold' hsc with ⟨hz, hrun⟩ | ⟨e, he, w1, hw1, hrun⟩
  · refine ⟨_, H, w, by rw [hx', hrun]; rfl, hw, .inl ⟨rfl, rfl, fun e he => ?_⟩⟩
    cases hs : seen.contains e.2.2 with
    | true => rfl
    | false =>
      exfalso
      have : vE e ∈ (leftOf (es.map vE).toArray seen).toList := by
        simp only [leftOf, Array.toList_filter, List.mem_filter, List.mem_map]
        exact ⟨⟨e, he, rfl⟩, by rw [show (vE e).born = e.2.2 from rfl, hs]; rfl⟩
      have h0 : (leftOf (es.map vE).toArray seen).toList = [] := by
        rw [Array.eq_empty_of_size_eq_zero hz]
      rw [h0] at this
      cases this
  · have hmem : e ∈ es.map vE ∧ seen.contains e.born = false := by
      have := he
      simp only [leftOf, Array.toList_filter, List.mem_filter] at this
      exact ⟨this.1, by simpa using this.2⟩
    obtain ⟨⟨e0, he0, rfl⟩, hs⟩ := (⟨List.mem_map.1 hmem.1, hmem.2⟩ : (∃ e0 ∈ es, vE e0 = e) ∧ _)
    have hw1' : St B w0 H w1 := by
      rcases hw1 with rfl | rfl
      · exact hw
      · exact hw.drew
    exact ⟨_, K e0.2.2, _, by rw [hx', hrun]; rfl, hw1'.setBlock (hu _), .inr ⟨e0, he0, hs, rfl, rfl⟩⟩
theorem YgX {g r clock since : Nat} {seen : Array Nat} {es : YM} {x : Operand} {e : KL × Value × Nat} (hx : evo env x = some (.pointer (some ⟨r, 0, none⟩))) (hm : blk g (vobj es clock) ∈ H) (hr : blk r (.mapIter (some g) since (seen.push e.2.2) clock) ∈ H) (hn : Nat.ble (d + 1) n.k = true)
    (he : e ∈ es) (hnd : (es.map (·.2.2)).Nodup)
    (h : VL P none n B w0 ops Q rest ((d, .tuple #[kv e.1, e.2.1]) :: env) H) : VL P none n B w0 ops Q (⟨some d, .entry x, ty, pos, after, none⟩ :: rest) env H := by
  refine Yii rfl rfl hn (fun a w ha hw => ⟨w, ?_, hw⟩) h
  have hb := (hw.blk hm).1
  unfold vobj at hb
  have hrun := run_entry_at (P := P) w r g since seen _ clock (vE e) (hw.blk hr).1 hb (List.mem_map.2 ⟨e, he, rfl⟩) (by simpa [Function.comp_def, vE] using hnd)
  simp [execOp, ha.eval hx, hrun, vE]
end
end Go.Eng
namespace Go.Proofs.YtmalhidldgfeoaaGreatDoor
open Go.RowKit Go.Eng Go.Nw
def netN (g : Nat) (n : NetM) : HP := blk g (.cells #[.int .i64 n.nodes, .slice n.pA n.rows.length n.pcap, .int .i64 n.noise, .int .i64 n.thr, .slice n.lA n.links.length n.lcap, .slice n.mA n.margin.length n.mcap] 26 (0, 0))
set_option maxRecDepth 10000 in
set_option maxHeartbeats 2000000 in
theorem O3 (n : NetM) (l : List Flw) (s : SchM) (hck : YF n.net = 0) (hlen : l.length ≤ 1000) (hl : s.cells.length ≤ 1000000000000) {A : Option Addr} {cap B : Nat} {w0 : World} {H : List HP} {w : World} (hin : n.In B w0 H) (hrf : Rd B w0 H A (l.flatMap flwF)) (hr : Rd B w0 H s.A (s.cells.flatMap celF)) (hw : St B w0 H w) :
    Calls Tryz.prog 55 [n.val, .slice A l.length cap, s.val].toArray w (Post B w0 fun v K => v = .tuple #[.int .i64 (Ji n.net l s.sch).1, .int .i64 (Ji n.net l s.sch).2] ∧ K = H) := by
  refine Yf Tryz.func55 Tryz.ntmps55 rfl rfl hw ?_
  have e4 : s.sch.cells.length = s.cells.length := rfl
  have hE : Ji n.net l s.sch = YG (VH n.net l s.sch) s.cells.length 0 := rfl
  rw [hE]
  repeat' (first | refine zgb ?_ | (refine zgh ?_; intro _) | fail)
  rename_i gn gs
  refine Yn (fun (i : Nat) => [(13, .int .i64 i), (12, .int .i64 s.cells.length), (11, .slice s.A s.cells.length s.cap), (3, .pointer (some ⟨gn, 0, none⟩)), (5, .pointer (some ⟨gs, 0, none⟩)), (1, .slice A l.length cap)])
    (fun _ => blk gs (.cells #[.int .i64 s.len, .int .i64 s.off, .slice s.A s.cells.length s.cap] 30 (0, 0)) :: netN gn n :: H) (fun i => i ≤ s.cells.length ∧ ∀ k, k < i → VH n.net l s.sch k = 0) (fun i => s.cells.length - i) 0 ⟨Nat.zero_le _, fun k hk => absurd hk (Nat.not_lt_zero _)⟩ ?_ (fun w hw => hw) ?_
  · exact zu
  rintro i ⟨hi, hall⟩ K hK
  unfold netN
  have hrc := fun (X : HP) => ((hr.cons (X := netN gn n)).cons (X := blk gs (.cells #[.int .i64 s.len, .int .i64 s.off, .slice s.A s.cells.length s.cap] 30 (0, 0)))).cons (X := X)
  by_cases hlt : i < s.cells.length
  · have hget : s.cells[i]? = some (Yp s.sch i) := YH (s := s.sch) hlt
    have hbad : VH n.net l s.sch i ≠ 0 → YG (VH n.net l s.sch) s.cells.length 0 = ((i : Int), VH n.net l s.sch i) := fun h => Xu (fun k _ hk => hall k hk) (Nat.zero_le _) (by omega) h
    have hstep : VH n.net l s.sch i = 0 → ∀ k, k < i + 1 → VH n.net l s.sch k = 0 := fun h k hk => by
      by_cases e : k = i
      · rw [e]; exact h
      · exact hall k (by omega)
    obtain ⟨c, hc⟩ : ∃ c, Yp s.sch i = c := ⟨_, rfl⟩
    have hce : VH n.net l s.sch i = if Zm s.sch c = false then 2 else if Xa n.net (Yz c) (toC c) = false ∨ Z2 l (Xo c) < 0 then 7 else if 0 < i ∧ Z0 (Yp s.sch (i - 1)) c = false then 5 else 0 := by
      unfold VH
      rw [hc]
    rw [hc] at hget
    have hplc := fun {H' : List HP} {w : World} (hw : St B w0 H' w) => OL s c hw
    cases hp : Zm s.sch c with
    | false =>
      rw [hp] at hplc
      rw [hp, if_pos rfl] at hce
      rw [hbad (by rw [hce]; decide), hce]
      repeat' (first | ((first | apply Ya JB | apply Yb JB); exact za; exact rfl; exact fun _ hw => (hplc hw)) | refine zgd ?_ | (refine zge ?_ ?_ <;> intro _ <;> try (exfalso; omega)) | (refine zgh ?_; intro _) | fail)
      apply Yk H
      · exact zk
      apply Yt; exact rfl; exact rfl; exact rfl; exact ⟨rfl, rfl⟩
    | true =>
    rw [hp] at hplc
    rw [hp, if_neg (by decide)] at hce
    have hix := fun {H' : List HP} {w : World} (hin : n.In B w0 H') (hw : St B w0 H' w) => XZ n c.2.2.1 c.2.2.2.1 hin hw
    have hus := fun {H' : List HP} {w : World} (hin : n.In B w0 H') (hw : St B w0 H' w) => On n (Zh n.net c.2.2.1 c.2.2.2.1) hin hw
    rw [YjC hck] at hus
    have hfi := fun {H' : List HP} {w : World} (hr : Rd B w0 H' A (l.flatMap flwF)) (hw : St B w0 H' w) => Q0 l c.2.2.2.2 hlen (cap := cap) hr hw
    have hgf : Xa n.net (Yz c) (toC c) = Xa n.net c.2.2.1 c.2.2.2.1 := rfl
    have hff : Z2 l (Xo c) = Z2 l c.2.2.2.2 := rfl
    by_cases hg : Xa n.net c.2.2.1 c.2.2.2.1 = false ∨ Z2 l c.2.2.2.2 < 0
    · rw [hgf, hff, if_pos hg] at hce
      rw [hbad (by rw [hce]; decide), hce]
      cases hgd : Xa n.net c.2.2.1 c.2.2.2.1 with
      | false =>
        rw [hgd] at hus
        repeat' (first | ((first | apply Ya JB | apply Yb JB); exact za; exact rfl; exact fun _ hw => (hplc hw)) | ((first | apply Ya en95 | apply Yb en95); exact za; exact rfl; exact fun _ hw => (hix hin.cons.cons.cons hw)) | ((first | apply Ya JC | apply Yb JC); exact za; exact rfl; exact fun _ hw => (hus hin.cons.cons.cons hw)) | refine zgd ?_ | (refine zge ?_ ?_ <;> intro _ <;> try (exfalso; omega)) | (refine zgh ?_; intro _) | fail)
        apply Yk H
        · exact zk
        apply Yt; exact rfl; exact rfl; exact rfl; exact ⟨rfl, rfl⟩
      | true =>
        have hneg : Z2 l c.2.2.2.2 < 0 := hg.elim (fun h => by rw [hgd] at h; cases h) id
        rw [hgd] at hus
        repeat' (first | ((first | apply Ya JB | apply Yb JB); exact za; exact rfl; exact fun _ hw => (hplc hw)) | ((first | apply Ya en95 | apply Yb en95); exact za; exact rfl; exact fun _ hw => (hix hin.cons.cons.cons hw)) | ((first | apply Ya JC | apply Yb JC); exact za; exact rfl; exact fun _ hw => (hus hin.cons.cons.cons hw)) | ((first | apply Ya JD | apply Yb JD); exact za; exact rfl; exact fun _ hw => (hfi hrf.cons.cons.cons hw)) | refine zgd ?_ | (refine zge ?_ ?_ <;> intro _ <;> try (exfalso; omega)) | (refine zgh ?_; intro _) | fail)
        apply Yk H
        · exact zk
        apply Yt; exact rfl; exact rfl; exact rfl; exact ⟨rfl, rfl⟩
    have hgd : Xa n.net c.2.2.1 c.2.2.2.1 = true := by
      cases h : Xa n.net c.2.2.1 c.2.2.2.1 with
      | true => rfl
      | false => exact absurd (.inl h) hg
    have hpos : ¬ Z2 l c.2.2.2.2 < 0 := fun h => hg (.inr h)
    rw [hgf, hff, if_neg hg] at hce
    rw [hgd] at hus
    rcases Nat.eq_zero_or_pos i with h0 | h0
    · subst h0
      rw [if_neg (by omega)] at hce
      repeat' (first | ((first | apply Ya JB | apply Yb JB); exact za; exact rfl; exact fun _ hw => (hplc hw)) | ((first | apply Ya en95 | apply Yb en95); exact za; exact rfl; exact fun _ hw => (hix hin.cons.cons.cons hw)) | ((first | apply Ya JC | apply Yb JC); exact za; exact rfl; exact fun _ hw => (hus hin.cons.cons.cons hw)) | ((first | apply Ya JD | apply Yb JD); exact za; exact rfl; exact fun _ hw => (hfi hrf.cons.cons.cons hw)) | refine zgd ?_ | (refine zge ?_ ?_ <;> intro _ <;> try (exfalso; omega)) | (refine zgh ?_; intro _) | fail)
      apply hK (0 + 1)
      · exact ⟨by omega, hstep hce⟩
      · omega
      · exact zu
      · unfold netN
        exact zk
    have hget2 : s.cells[((i : Int) - 1).toNat]? = some (Yp s.sch (i - 1)) := by
      rw [show ((i : Int) - 1).toNat = i - 1 by omega]
      exact YH (s := s.sch) (show i - 1 < s.cells.length by omega)
    obtain ⟨p, hpv⟩ : ∃ p, Yp s.sch (i - 1) = p := ⟨_, rfl⟩
    rw [hpv] at hce hget2
    have hcl := Yfo p c
    have hcm := fun {H' : List HP} {w : World} (hw : St B w0 H' w) => UI p c hw
    obtain ⟨q, hq⟩ : ∃ q, cmpV (nums p) (nums c) = q := ⟨_, rfl⟩
    rw [hq] at hcl hcm
    by_cases hlt2 : q < 0
    · rw [hcl.1 hlt2, if_neg (by simp)] at hce
      repeat' (first | ((first | apply Ya JB | apply Yb JB); exact za; exact rfl; exact fun _ hw => (hplc hw)) | ((first | apply Ya en95 | apply Yb en95); exact za; exact rfl; exact fun _ hw => (hix hin.cons.cons.cons hw)) | ((first | apply Ya JC | apply Yb JC); exact za; exact rfl; exact fun _ hw => (hus hin.cons.cons.cons hw)) | ((first | apply Ya JD | apply Yb JD); exact za; exact rfl; exact fun _ hw => (hfi hrf.cons.cons.cons hw)) | ((first | apply Ya en62 | apply Yb en62); exact za; exact rfl; exact fun _ hw => (hcm hw)) | refine zgd ?_ | (refine zgf ?_ ?_ <;> intro _ <;> try (exfalso; omega)) | (refine zgh ?_; intro _) | fail)
      apply hK (i + 1)
      · exact ⟨by omega, hstep hce⟩
      · omega
      · exact zu
      · unfold netN
        exact zk
    · have hnl : Z0 p c = false := by
        cases h : Z0 p c with
        | false => rfl
        | true => exact absurd (hcl.2 h) hlt2
      rw [hnl, if_pos ⟨h0, rfl⟩] at hce
      rw [hbad (by rw [hce]; decide), hce]
      repeat' (first | ((first | apply Ya JB | apply Yb JB); exact za; exact rfl; exact fun _ hw => (hplc hw)) | ((first | apply Ya en95 | apply Yb en95); exact za; exact rfl; exact fun _ hw => (hix hin.cons.cons.cons hw)) | ((first | apply Ya JC | apply Yb JC); exact za; exact rfl; exact fun _ hw => (hus hin.cons.cons.cons hw)) | ((first | apply Ya JD | apply Yb JD); exact za; exact rfl; exact fun _ hw => (hfi hrf.cons.cons.cons hw)) | ((first | apply Ya en62 | apply Yb en62); exact za; exact rfl; exact fun _ hw => (hcm hw)) | refine zgd ?_ | (refine zgf ?_ ?_ <;> intro _ <;> try (exfalso; omega)) | (refine zgh ?_; intro _) | fail)
      apply Yk H
      · exact zk
      apply Yt; exact rfl; exact rfl; exact rfl; exact ⟨rfl, rfl⟩
  · repeat' (first | refine zgc ?_ | (refine zge ?_ ?_ <;> intro _ <;> try (exfalso; omega)) | fail)
    rw [show i = s.cells.length by omega] at hall
    rw [X7 fun k _ hk => hall k (by omega)]
    apply Yk H
    · exact zk
    apply Yt; exact rfl; exact rfl; exact rfl; exact ⟨rfl, rfl⟩
end Go.Proofs.YtmalhidldgfeoaaGreatDoor
namespace Go.Eng
open Go.RowKit
theorem Ygc {P : Program} {B : Nat} {w0 : World} {env : Env} {H : List HP} {n : Nat} (T : Tab P) {fn : Func} {Φ : Value → List HP → Prop} {p g rt : Nat} {v : Value} {cs : Array Value} {tt : TypeId} {fr : Nat × Nat} (hr : fn.results = #[.cell p rt]) (hp : get env p = some (.pointer (some ⟨g, 0, none⟩)))
    (hm : Eng.blk g (.cells cs tt fr) ∈ H) (hv : nth cs.toList 0 = some v) (ht : Eng.look T.sc rt = some ()) {H2 : List HP} (hH : ∀ w, St B w0 H w → St B w0 H2 w) (h : Φ v H2) : VQ ⟨n, [], none⟩ B w0 (bodyPost P fn (Post B w0 Φ)) .ret env H := by
  refine ⟨fun a w ha hw => bodyPost_ret (v := v) ?_ ha.defers ⟨_, H2, rfl, hH w hw, h⟩⟩
  have hp' := ha.slot p _ hp
  rw [YcU] at hv
  have hc := Y9 (i := 0) (hw.blk hm).1
  simp [results, hr, Array.getD_eq_getD_getElem?, hp', asAddr, loadVar, XW (T.scal ht).1, hc, hv]
end Go.Eng
namespace Go.Proofs.YtmalhidldgfeoaaGreatDoor
open Go.RowKit Go.Eng Go.Nw
theorem Yh0 {s : Sch} {i : Nat} (hi : i < s.cells.length) (h : ∀ j ∈ inI s (Yp s i).1 s.cells.length, j < i → Un (Yp s i) (Yp s j) = false) : Ju s i = false := by
  unfold Ju
  rw [List.any_eq_false]
  intro j hj
  have hj := List.mem_range.1 hj
  rw [Bool.and_eq_true, decide_eq_true_eq]
  rintro ⟨h1, h2⟩
  rw [h j (Uz.2 ⟨by omega, h1⟩) hj] at h2
  cases h2
theorem Yh1 {s : Sch} {i j : Nat} (hji : j < i) (hs : (Yp s j).1 = (Yp s i).1) (ht : Un (Yp s i) (Yp s j) = true) : Ju s i = true := by
  unfold Ju
  rw [List.any_eq_true]
  exact ⟨j, List.mem_range.2 hji, by rw [decide_eq_true hs, ht]; rfl⟩
set_option maxRecDepth 10000 in
set_option maxHeartbeats 2000000 in
theorem Yf1 (s : SchM) (i : Nat) (hi : i < s.cells.length) (hl : s.cells.length ≤ 1000) {B : Nat} {w0 : World} {H : List HP} {w : World} (hr : Rd B w0 H s.A (s.cells.flatMap celF)) (hw : St B w0 H w) :
    Calls Tryz.prog 56 [s.val, .int .i64 i].toArray w (Post B w0 fun v K => v = .bool (Ju s.sch i) ∧ K = H) := by
  refine XF Tryz.func56 Tryz.ntmps56 rfl rfl hw ?_
  have hget : s.cells[i]? = some (Yp s.sch i) := YH (s := s.sch) hi
  obtain ⟨c, hc⟩ : ∃ c, Yp s.sch i = c := ⟨_, rfl⟩
  rw [hc] at hget
  repeat' (first | (apply zg23; first | (refine zs52 ?_; intro _) | (refine zs53 ?_; intro _)) | refine zgd ?_ | (refine zgh ?_; intro _) | fail)
  rename_i gs gi gr gc
  apply Yr _ en59
  exact za
  exact rfl
  exact fun _ hw => (Yae s c.1 (hw))
  rintro _ _ ⟨g1, g2, rfl, rfl⟩
  repeat' (first | refine zgb ?_ | fail)
  have hr6 : Rd B w0 (intB g2 c.1 :: schB g1 s :: blk gc (.cells (celF c).toArray 40 (0, 0)) :: blk gi (.cells #[.int .i64 i] 3 (0, 0)) :: schB gs s :: H) s.A (s.cells.flatMap celF) := hr.cons.cons.cons.cons.cons
  refine XG (gf := 118) (lb := [.pointer (some ⟨g1, 0, none⟩), .pointer (some ⟨g2, 0, none⟩)]) (xs := inXs s.sch c.1) (intB g2 c.1 :: schB g1 s :: blk gc (.cells (celF c).toArray 40 (0, 0)) :: blk gi (.cells #[.int .i64 i] 3 (0, 0)) :: schB gs s :: H) (fun _ : Unit => [blk gr (.cells #[.bool false] 4 (0, 0))])
    (fun k _ => ∀ m j, m < k → (inI s.sch c.1 s.cells.length)[m]? = some j → j < i → Un c (Yp s.sch j) = false) (fun e K => e = .ret ∧ Ju s.sch i = true ∧ K = [blk gr (.cells #[.bool true] 4 (0, 0))]) () rfl YiL (Yad s c.1 g1 g2 hr6 (by omega) (.tail _ (.head _)) (.head _)) rfl ?_ (by kernel_rfl) (by kernel_rfl) ?_ (fun m j h => absurd h (Nat.not_lt_zero _)) ?_ ?_ ?_
  · intro args h
    obtain ⟨k, hk⟩ := List.mem_iff_getElem?.1 h
    obtain ⟨i, _, _, rfl⟩ := JZ hk
    rfl
  · exact fun w hw => hw.perm (.trans (.cons _ (.cons _ (.swap _ _ _))) (.trans (.cons _ (.swap _ _ _)) (.swap _ _ _)))
  · rintro l k args R ⟨⟩ hk hI
    obtain ⟨j, hj, hlt, rfl⟩ := JZ hk
    have hlt2 : j < s.cells.length := hlt
    dsimp only [Vx, List.cons_append, List.nil_append]
    have hgj : s.cells[j]? = some (Yp s.sch j) := YH (s := s.sch) hlt
    have hjs : (Yp s.sch j).1 = c.1 := (Uz.1 (List.mem_of_getElem? hj)).2
    obtain ⟨d, hd⟩ : ∃ d, Yp s.sch j = d := ⟨_, rfl⟩
    rw [hd] at hgj
    have htc : Un c d = true ↔ (c.2.2.1 = d.2.2.1 ∨ c.2.2.1 = d.2.2.2.1 ∨ c.2.2.2.1 = d.2.2.1 ∨ c.2.2.2.1 = d.2.2.2.1) := by unfold Un Yz toC; rw [decide_eq_true_eq]
    repeat' (first | refine zga ?_ | fail)
    apply Ja Ye
    intro R'
    unfold intB schB
    have hr7 : Rd B w0 (R' :: blk gr (.cells #[.bool false] 4 (0, 0)) :: intB g2 c.1 :: schB g1 s :: blk gc (.cells (celF c).toArray 40 (0, 0)) :: blk gi (.cells #[.int .i64 i] 3 (0, 0)) :: schB gs s :: H) s.A (s.cells.flatMap celF) := hr6.cons.cons
    unfold intB schB at hr7
    clear hr6
    repeat' (first | refine zgd ?_ | (refine zgf ?_ ?_ <;> intro _ <;> try (exfalso; omega)) | (refine zgh ?_; intro _) | fail)
    all_goals first
      | (refine QB [blk gr (.cells #[.bool true] 4 (0, 0))] ⟨rfl, ?_, rfl⟩ ?_
         · exact Yh1 (j := j) (by omega) (by rw [hc]; exact hjs) (by rw [hc, hd]; exact htc.2 (by omega))
         · dsimp only [List.cons_append, List.nil_append]
           exact zk
         done)
      | (refine JA () ?_ ?_
         · intro m j2 hm hj2 hji
           rcases Nat.lt_succ_iff_lt_or_eq.1 hm with h | h
           · exact hI m j2 h hj2 hji
           · subst h
             obtain rfl := Option.some.inj (hj.symm.trans hj2)
             rw [hd]
             exact Bool.eq_false_iff.2 fun h => by have := htc.1 h; omega
         · dsimp only [List.cons_append, List.nil_append]
           exact zk
         done)
  · rintro D ⟨⟩ hI
    have htw : Ju s.sch i = false := Yh0 hi fun j hj hji => by
      rw [hc] at hj ⊢
      obtain ⟨m, hm⟩ := List.mem_iff_getElem?.1 hj
      refine hI m j ?_ hm hji
      rw [inXs, List.length_map]
      exact (List.getElem?_eq_some_iff.1 hm).1
    rw [htw]
    dsimp only [List.cons_append, List.nil_append]
    unfold intB schB
    repeat' (first | refine zgd ?_ | fail)
    apply Zf Ye
    apply VQ_m
    apply Ygc T (H2 := H); exact rfl; exact rfl; exact zm; exact rfl; exact rfl; exact zk; exact ⟨rfl, rfl⟩
  · rintro D e K ⟨rfl, htw, rfl⟩ hjmp
    rw [htw]
    dsimp only [List.cons_append, List.nil_append]
    unfold intB schB
    repeat' (first | refine zgc ?_ | fail)
    apply Zf Ye
    apply VQ_m
    apply Ygc T (H2 := H); exact rfl; exact rfl; exact zm; exact rfl; exact rfl; exact zk; exact ⟨rfl, rfl⟩
open Go.RowKit Go.Eng Go.Nw
theorem UW (n : NetM) (v : Int) {B : Nat} {w0 : World} {H : List HP} {w : World} (hw : St B w0 H w) :
    Calls Tryz.prog 173 [n.val, .int .i64 v].toArray w (Post B w0 fun u K => u = .bool (insE v n.net.nodes) ∧ K = H) := by
  have e1 : n.net.nodes = n.nodes := rfl
  refine Yf Tryz.func173 Tryz.ntmps173 rfl rfl hw ?_
  repeat' (first | refine zgc ?_ | (refine zgf ?_ ?_ <;> intro _ <;> try (exfalso; omega)) | (refine zgh ?_; intro _) | fail)
  all_goals (
    apply Yk H
    · exact zk
    apply Yg; exact rfl; exact rfl
    first
      | exact ⟨by rw [show insE v n.net.nodes = true from decide_eq_true (by omega)], rfl⟩
      | exact ⟨by rw [show insE v n.net.nodes = false from decide_eq_false (by omega)], rfl⟩)
theorem Yfq (n : NetM) (c : Cel) (gn : Nat) {B : Nat} {w0 : World} {H : List HP} {w : World} (hm : blk gn (.cells #[.int .i64 n.nodes, .slice n.pA n.rows.length n.pcap, .int .i64 n.noise, .int .i64 n.thr, .slice n.lA n.links.length n.lcap, .slice n.mA n.margin.length n.mcap] 26 (0, 0)) ∈ H) (hw : St B w0 H w) :
    Calls Tryz.prog 172 [celV c, .pointer (some ⟨gn, 0, none⟩)].toArray w (Post B w0 fun v K => v = .bool (Ug n.net c) ∧ K = H) := by
  refine Yf Tryz.func172 Tryz.ntmps172 rfl rfl hw ?_
  obtain ⟨b, hb⟩ : ∃ b, Ug n.net c = b := ⟨_, rfl⟩
  rw [hb]
  unfold Ug Yz toC at hb
  repeat' (first | ((first | apply XJ OA | apply XI OA); exact za; exact rfl; exact fun _ hw => (UW n _ hw); all_goals (intro hB; (try simp only [decide_eq_true_eq, decide_eq_false_iff_not] at hB); try (exfalso; omega))) | refine zgd ?_ | (refine zgh ?_; intro _) | fail)
  all_goals (
    apply Yk H
    · exact zk
    apply Yg; exact rfl; exact rfl
    refine ⟨?_, rfl⟩
    rw [← hb]
    simp [*])
theorem QO (p : Cel → Bool) (l : List Cel) (f : Nat) (cs : List Value) (hen : ∀ xs w, (callFunc f xs).run Tryz.prog w = .ok (.enter f xs) w) (hlen : l.length ≤ 1000) {A : Option Addr} {cap B : Nat} {w0 : World} {H : List HP} {w : World} (hr : Rd B w0 H A (l.flatMap celF))
    (hp : ∀ a ∈ l, ∀ w, St B w0 H w → Calls Tryz.prog f ([celV a] ++ cs).toArray w (Post B w0 fun v K => v = .bool (p a) ∧ K = H)) (hw : St B w0 H w) :
    Calls Tryz.prog 174 [.slice A l.length cap, .func (.func f) #[] cs.toArray].toArray w (Post B w0 fun v K => v = .bool (l.any p) ∧ K = H) := by
  refine Yf Tryz.func174 Tryz.ntmps174 rfl rfl hw ?_
  rw [← Yac]
  repeat' (first | refine zga ?_ | fail)
  first | apply Ya YbI | apply Yb YbI
  exact za
  exact rfl
  exact fun _ hw => (Yaf p l f cs hen hlen hr hp hw)
  by_cases h0 : 0 ≤ Yq p l 0
  · rw [decide_eq_true h0]
    repeat' (first | refine zga ?_ | (refine zgf ?_ ?_ <;> intro _ <;> try (exfalso; omega)) | fail)
    apply Yg; exact rfl; exact rfl
    exact ⟨rfl, rfl⟩
  · rw [decide_eq_false h0]
    repeat' (first | refine zga ?_ | (refine zgf ?_ ?_ <;> intro _ <;> try (exfalso; omega)) | fail)
    apply Yg; exact rfl; exact rfl
    exact ⟨rfl, rfl⟩
def VK (n : Net) (c : Cel) (node : Int) (m : Nat) : Int := (([c.2.2.1, c.2.2.2.1].take m).map fun e => powN n e node).sum
theorem YhA {n : Net} {c : Cel} {node e : Int} {m : Nat} (h : [c.2.2.1, c.2.2.2.1][m]? = some e) : VK n c node (m + 1) = VK n c node m + powN n e node := by
  unfold VK
  rw [List.take_add_one, h, Option.toList_some, List.map_append, List.sum_append]
  simp
theorem Ykw {n : Net} (hok : Ok n) (c : Cel) (node : Int) {m : Nat} (h : m ≤ 2) : 0 ≤ VK n c node m ∧ VK n c node m ≤ 137438953472 := by
  have h1 := Vw hok c.2.2.1 node
  have h2 := Vw hok c.2.2.2.1 node
  match m, h with
  | 0, _ => simp [VK]
  | 1, _ => simp [VK]; omega
  | 2, _ => simp [VK]; omega
set_option maxRecDepth 10000 in
set_option maxHeartbeats 2000000 in
theorem Yfr (n : NetM) (l : List Cel) (j : Nat) (node : Int) (hok : Ok n.net) (hnode : 0 ≤ node ∧ node < n.nodes) (hlen : l.length ≤ 1000) {A : Option Addr} {cap B : Nat} {w0 : World} {H : List HP} {w : World} (hin : n.In B w0 H) (hr : Rd B w0 H A (l.flatMap celF)) (hw : St B w0 H w) :
    Calls Tryz.prog 175 [n.val, .slice A l.length cap, .int .i64 j, .int .i64 node].toArray w (Post B w0 fun v K => v = .int .i64 (XY n.net l j node l.length) ∧ K = H) := by
  refine Yf Tryz.func175 Tryz.ntmps175 rfl rfl hw ?_
  have e1 : n.net.nodes = n.nodes := rfl
  repeat' (first | refine zgb ?_ | (refine zgh ?_; intro _) | fail)
  rename_i gn
  refine Yn (fun (k : Nat) => [(16, .int .i64 k), (15, .int .i64 l.length), (14, .slice A l.length cap), (9, .int .i64 (XY n.net l j node k)), (4, .pointer (some ⟨gn, 0, none⟩)), (2, .int .i64 j), (3, .int .i64 node)]) (fun _ => netN gn n :: H) (fun k => k ≤ l.length) (fun k => l.length - k) 0 (Nat.zero_le _) ?_ (fun w hw => hw) ?_
  · exact zu
  rintro k hk K hK
  have hbd := Ygj hok l j node k
  have hrc := hr.cons (X := netN gn n)
  by_cases hlt : k < l.length
  · obtain ⟨c, hc⟩ : ∃ c, l[k]? = some c := ⟨_, List.getElem?_eq_getElem hlt⟩
    have hcl : celL l k = c := by unfold celL; rw [List.getD_eq_getElem?_getD, hc]; rfl
    have hst : XY n.net l j node (k + 1) = XY n.net l j node k + if k = j then 0 else powN n.net c.2.2.1 node + powN n.net c.2.2.2.1 node := by
      rw [XY, hcl]; rfl
    by_cases hkj : k = j
    · rw [if_pos hkj, Int.add_zero] at hst
      repeat' (first | refine zgd ?_ | (refine zgf ?_ ?_ <;> intro _ <;> try (exfalso; omega)) | (refine zgh ?_; intro _) | fail)
      apply hK (k + 1)
      · show k + 1 ≤ _
        omega
      · omega
      · rw [hst]
        exact zu
      · exact zk
    rw [if_neg hkj] at hst
    repeat' (first | refine zgd ?_ | (refine zgf ?_ ?_ <;> intro _ <;> try (exfalso; omega)) | (refine zgh ?_; intro _) | fail)
    rename_i gc _ ge
    refine Yn (fun (m : Nat) => [(30, .int .i64 m), (29, .int .i64 ((2 : Nat) : Int)), (28, .slice (some ⟨ge, 0, none⟩) ([c.2.2.1, c.2.2.2.1] : List Int).length 2), (9, .int .i64 (XY n.net l j node k + VK n.net c node m)), (16, .int .i64 k), (15, .int .i64 l.length), (14, .slice A l.length cap), (4, .pointer (some ⟨gn, 0, none⟩)), (2, .int .i64 j), (3, .int .i64 node)]) (fun _ => blk ge (.cells #[.int .i64 c.2.2.1, .int .i64 c.2.2.2.1] 3 (0, 0)) :: netN gn n :: H) (fun m => m ≤ 2) (fun m => 2 - m) 0 (Nat.zero_le _) ?_ ?_ ?_
    · rw [show VK n.net c node 0 = 0 from rfl, Int.add_zero]
      exact zu
    · exact zk
    rintro m hm K2 hK2
    have hpb := Ykw hok c node hm
    have hre : Rd B w0 (blk ge (.cells #[.int .i64 c.2.2.1, .int .i64 c.2.2.2.1] 3 (0, 0)) :: netN gn n :: H) (some ⟨ge, 0, none⟩) (([c.2.2.1, c.2.2.2.1] : List Int).flatMap numF) := Rd.blk (cs := #[.int .i64 c.2.2.1, .int .i64 c.2.2.2.1]) (.head _)
    clear hrc
    unfold netN at hre ⊢
    by_cases hlt2 : m < 2
    · obtain ⟨e, he⟩ : ∃ e, [c.2.2.1, c.2.2.2.1][m]? = some e := ⟨_, List.getElem?_eq_getElem hlt2⟩
      have hst2 := YhA (n := n.net) (node := node) he
      have hcn := fun {H' : List HP} {w : World} (hw : St B w0 H' w) => UW n e hw
      have hl2 : ([c.2.2.1, c.2.2.2.1] : List Int).length = 2 := rfl
      cases hie : insE e n.net.nodes with
      | false =>
        rw [hie] at hcn
        rw [show powN n.net e node = 0 by unfold powN; rw [hie]; simp, Int.add_zero] at hst2
        repeat' (first | ((first | apply Ya OA | apply Yb OA); exact za; exact rfl; exact fun _ hw => (hcn hw)) | refine zgd ?_ | (refine zge ?_ ?_ <;> intro _ <;> try (exfalso; omega)) | fail)
        apply hK2 (m + 1)
        · show m + 1 ≤ 2
          omega
        · omega
        · rw [hst2]
          exact zu
        · unfold netN
          exact zk
      | true =>
        rw [hie] at hcn
        have he2 : 0 ≤ e ∧ e < n.net.nodes := of_decide_eq_true hie
        have hp0 : (n.rows.length : Int) = n.net.nodes := by
          have := hok.p0
          rwa [show n.net.power = n.rows.map RowM.xs from rfl, List.length_map] at this
        obtain ⟨r, hrw⟩ : ∃ r, n.rows[e.toNat]? = some r := ⟨_, List.getElem?_eq_getElem (by omega)⟩
        have hrm := List.mem_of_getElem? hrw
        have hrl : (r.xs.length : Int) = n.net.nodes := hok.p1 r.xs (List.mem_map.2 ⟨r, hrm, rfl⟩)
        obtain ⟨q, hq⟩ : ∃ q, r.xs[node.toNat]? = some q := ⟨_, List.getElem?_eq_getElem (by omega)⟩
        have hpw : powN n.net e node = q := by
          unfold powN
          rw [if_pos ⟨hie, decide_eq_true (by omega)⟩]
          exact YeC (n := n.net) (r := r.xs) (by simp [NetM.net, hrw]) hq
        have hqb := Vw hok e node
        rw [hpw] at hqb hst2
        have hpd := hin.pw
        have hrd := hin.rw_ r hrm
        have hs1 := hin.s1
        have hs2 := hin.s2 r hrm
        repeat' (first | ((first | apply Ya OA | apply Yb OA); exact za; exact rfl; exact fun _ hw => (hcn hw)) | refine zgd ?_ | (refine zge ?_ ?_ <;> intro _ <;> try (exfalso; omega)) | fail)
        apply hK2 (m + 1)
        · show m + 1 ≤ 2
          omega
        · omega
        · rw [hst2]
          exact zu
        · unfold netN
          exact zk
    · obtain rfl : m = 2 := by omega
      have hp2 : XY n.net l j node (k + 1) = XY n.net l j node k + VK n.net c node 2 := by
        rw [hst]
        simp [VK]
      repeat' (first | refine zgd ?_ | (refine zge ?_ ?_ <;> intro _ <;> try (exfalso; omega)) | fail)
      apply hK (k + 1)
      · show k + 1 ≤ _
        omega
      · omega
      · rw [hp2]
        exact zu
      · unfold netN
        exact zk
  · repeat' (first | refine zgc ?_ | (refine zge ?_ ?_ <;> intro _ <;> try (exfalso; omega)) | fail)
    apply Yk H
    · exact zk
    apply Yg; exact rfl; exact rfl
    rw [show k = l.length by omega]
    exact ⟨rfl, rfl⟩
set_option maxRecDepth 10000 in
set_option maxHeartbeats 1000000 in
theorem JT (n : NetM) (l : List Cel) (j : Nat) (node : Int) (hck : YF n.net = 0) (hnode : 0 ≤ node ∧ node < n.nodes) (hj : j < l.length) (hlen : l.length ≤ 1000) (hno : l.any (Ug n.net) = false) {A : Option Addr} {cap B : Nat} {w0 : World} {H : List HP} {w : World} (hin : n.In B w0 H) (hr : Rd B w0 H A (l.flatMap celF)) (hw : St B w0 H w) :
    Calls Tryz.prog 116 [n.val, .slice A l.length cap, .int .i64 j, .int .i64 node].toArray w (Post B w0 fun v K => v = .int .i64 (V2 n.net l j node) ∧ K = H) := by
  refine Yf Tryz.func116 Tryz.ntmps116 rfl rfl hw ?_
  have e1 : n.net.nodes = n.nodes := rfl
  have hins : insE node n.net.nodes = true := decide_eq_true hnode
  have hd : V2 n.net l j node = XY n.net l j node l.length := by
    unfold V2
    rw [if_neg (by rw [hck, hins, hno]; simp; omega), Int.toNat_natCast]
  rw [hd]
  have hchk := fun {H' : List HP} {w : World} (hin : n.In B w0 H') (hw : St B w0 H' w) => YT n hin hw
  rw [hck] at hchk
  have hcn := fun {H' : List HP} {w : World} (hw : St B w0 H' w) => UW n node hw
  rw [hins] at hcn
  (apply Zx; apply XH; apply Xv; exact rfl; exact rfl; intro g)
  have hct := fun {H' : List HP} {w : World} (hm : blk g (.cells #[.int .i64 n.nodes, .slice n.pA n.rows.length n.pcap, .int .i64 n.noise, .int .i64 n.thr, .slice n.lA n.links.length n.lcap, .slice n.mA n.margin.length n.mcap] 26 (0, 0)) ∈ H') (hr : Rd B w0 H' A (l.flatMap celF)) (hw : St B w0 H' w) => QO (Ug n.net) l 172 [.pointer (some ⟨g, 0, none⟩)] Ymg hlen (cap := cap) hr (fun c _ w hw => Yfq n c g hm hw) hw
  rw [hno] at hct
  repeat' (first | ((first | apply Ya en50 | apply Yb en50); exact za; exact rfl; exact fun _ hw => (hchk hin.cons hw)) | ((first | apply Ya OA | apply Yb OA); exact za; exact rfl; exact fun _ hw => (hcn hw)) | ((first | apply Ya Yk0 | apply Yb Yk0); exact za; exact rfl; exact fun _ hw => (hct zm hr.cons hw)) | ((first | apply Ya Yk1 | apply Yb Yk1); exact za; exact rfl; exact fun _ hw => (Yfr n l j node (Xe hck) hnode hlen hin.cons hr.cons hw)) | (apply zg29; (apply Yj; exact za ; exact rfl)) | refine zgc ?_ | (refine zgf ?_ ?_ <;> intro _ <;> try (exfalso; omega)) | fail)
  apply Yk H
  · exact zk
  apply Yg; exact rfl; exact rfl; exact ⟨rfl, rfl⟩
open Go.RowKit Go.Eng Go.Nw
theorem Yhj {s : Sch} {slot : Int} {j n : Nat} (h : (Yp s j).1 = slot) (hj : j < n) : ∃ R, inI s slot n = inI s slot j ++ j :: R ∧ ∀ x ∈ R, j < x := by
  obtain ⟨m, rfl⟩ : ∃ m, n = j + (m + 1) := ⟨n - j - 1, by omega⟩
  have e : inI s slot (j + (m + 1)) = inI s slot j ++ ((List.range (m + 1)).map (j + ·)).filter fun i => decide ((Yp s i).1 = slot) := by
    unfold inI; rw [List.range_add, List.filter_append]
  rw [e, List.range_succ_eq_map, List.map_cons, List.filter_cons, if_pos (by simpa using h)]
  refine ⟨_, rfl, fun x hx => ?_⟩
  obtain ⟨y, hy, rfl⟩ := List.mem_map.1 (List.mem_filter.1 hx).1
  obtain ⟨z, _, rfl⟩ := List.mem_map.1 hy
  omega
theorem YiV {s : Sch} {slot : Int} {n k j : Nat} (h : (inI s slot n)[k]? = some j) : (inI s slot n).take k = inI s slot j := by
  have hm := Uz.1 (List.mem_of_getElem? h)
  obtain ⟨R, hR, hRx⟩ := Yhj hm.2 hm.1
  rw [hR] at h ⊢
  have hk : k = (inI s slot j).length := by
    rcases Nat.lt_trichotomy k (inI s slot j).length with h1 | h1 | h1
    · rw [List.getElem?_append_left h1] at h
      have := (Uz.1 (List.mem_of_getElem? h)).1
      omega
    · exact h1
    · rw [List.getElem?_append_right (by omega)] at h
      obtain ⟨q, hq⟩ : ∃ q, k - (inI s slot j).length = q + 1 := ⟨k - (inI s slot j).length - 1, by omega⟩
      rw [hq, List.getElem?_cons_succ] at h
      have := hRx j (List.mem_of_getElem? h)
      omega
  rw [hk, List.take_left' rfl]
theorem YcO {α : Type} {p : α → Bool} {l : List α} {i : Nat} {x : α} (h : l[i]? = some x) : (l.take (i + 1)).filter p = (l.take i).filter p ++ if p x = true then [x] else [] := by
  rw [List.take_add_one, h, Option.toList_some, List.filter_append]
  cases hp : p x <;> simp [hp]
def Ui (s : Sch) (c : Cel) (l : List Nat) : List Cel := (l.filter fun j => decide ((Yp s j).2.1 = c.2.1)).map (Yp s)
theorem W9 {s : Sch} {c : Cel} : ∀ {m : Nat}, m ≤ s.cells.length → Ui s c (inI s c.1 m) = (s.cells.take m).filter (Xn c)
  | 0, _ => by simp [Ui, inI]
  | m + 1, h => by
    have ih := W9 (s := s) (c := c) (m := m) (by omega)
    have hg := YH (s := s) (i := m) (by omega)
    rw [YcO hg, ← ih]
    have hp : Xn c (Yp s m) = true ↔ (Yp s m).1 = c.1 ∧ (Yp s m).2.1 = c.2.1 := by unfold Xn; rw [decide_eq_true_eq]
    by_cases h1 : (Yp s m).1 = c.1
    · rw [YgB h1]
      unfold Ui
      rw [List.filter_append, List.map_append]
      by_cases h2 : (Yp s m).2.1 = c.2.1
      · rw [if_pos (hp.2 ⟨h1, h2⟩)]
        simp [h2]
      · rw [if_neg fun h => h2 (hp.1 h).2]
        simp [h2]
    · rw [YiU h1, if_neg fun h => h1 (hp.1 h).1, List.append_nil]
theorem YeB (s : Sch) (c : Cel) (l : List Nat) (j : Nat) : Ui s c (l ++ [j]) = Ui s c l ++ if (Yp s j).2.1 = c.2.1 then [Yp s j] else [] := by
  unfold Ui
  rw [List.filter_append, List.map_append]
  by_cases h : (Yp s j).2.1 = c.2.1
  · rw [if_pos h]; simp [h]
  · rw [if_neg h]; simp [h]
structure DsM where
  A : Option Addr
  cap : Nat
  M : List Cel
  a : Int
set_option maxRecDepth 10000 in
set_option maxHeartbeats 4000000 in
theorem QW (n : NetM) (s : SchM) (i : Nat) (hck : YF n.net = 0) (hgood : ∀ c ∈ s.cells, Xa n.net (Yz c) (toC c) = true) (hi : i < s.cells.length) (hl : s.cells.length ≤ 1000) {B : Nat} {w0 : World} {H : List HP} {w : World} (hin : n.In B w0 H) (hr : Rd B w0 H s.A (s.cells.flatMap celF)) (hw : St B w0 H w) :
    Calls Tryz.prog 57 [n.val, s.val, .int .i64 i].toArray w (Post B w0 fun v K => v = .bool (Jl n.net s.sch i) ∧ K = H) := by
  refine XF Tryz.func57 Tryz.ntmps57 rfl rfl hw ?_
  have hget : s.cells[i]? = some (Yp s.sch i) := YH (s := s.sch) hi
  obtain ⟨c, hc⟩ : ∃ c, Yp s.sch i = c := ⟨_, rfl⟩
  rw [hc] at hget
  have hrm : Rd B w0 [many H] s.A (s.cells.flatMap celF) := hr.tail
  clear hr
  refine VP [many H] (fun w hw => hw.perm (.closeT H)) ?_
  repeat' (first | (apply zg23; first | (refine zs52 ?_; intro _) | (refine zs53 ?_; intro _)) | refine zgd ?_ | (refine zgh ?_; intro _) | fail)
  rename_i gn gs gi g7 g8
  apply Y0 [0, 1, 2, 3, 4, 5, 6] [7] [false, false, true, true, false, true]
  kernel_rfl
  kernel_rfl
  exact zy
  (simp only [Yl, nthO]; rfl)
  (simp only [Yl, nthO]; rfl)
  repeat' (first | refine zgd ?_ | fail)
  apply Yr _ en59
  exact za
  exact rfl
  exact fun _ hw => (Yae s c.1 (hw))
  rintro _ _ ⟨g1, g2, rfl, rfl⟩
  repeat' (first | refine zgd ?_ | fail)
  obtain ⟨L, hL⟩ : ∃ L, inI s.sch c.1 s.cells.length = L := ⟨_, rfl⟩
  have hiL : i ∈ L := by
    rw [← hL]
    exact Uz.2 ⟨hi, by rw [hc]⟩
  have hr7 : Rd B w0 (intB g2 c.1 :: schB g1 s :: blk gi (.cells #[.int .i64 i] 3 (0, 0)) :: schB gs s :: netN gn n :: [many H]) s.A (s.cells.flatMap celF) := hrm.cons.cons.cons.cons.cons
  rw [show (Value.slice none 0 0).cells = #[Value.slice none 0 0] from rfl]
  refine ZL 40 5 ?_
  refine XG (gf := 118) (lb := [.pointer (some ⟨g1, 0, none⟩), .pointer (some ⟨g2, 0, none⟩)]) (xs := inXs s.sch c.1) (intB g2 c.1 :: schB g1 s :: blk gi (.cells #[.int .i64 i] 3 (0, 0)) :: schB gs s :: netN gn n :: [many H]) (fun x : DsM => [blk g7 (.cells #[.slice x.A x.M.length x.cap] 28 (0, 0)), cels x.A x.cap x.M, blk g8 (.cells #[.int .i64 x.a] 3 (0, 0))])
    (fun k x => x.M = Ui s.sch c (L.take k) ∧ x.a = if i ∈ L.take k then (Xf s.sch i : Int) else 0) (fun _ _ => False) ⟨none, 0, [], 0⟩ rfl YiL (Yad s c.1 g1 g2 hr7 (by omega) (.tail _ (.head _)) (.head _)) rfl ?_ (by kernel_rfl) (by kernel_rfl) ?_ ⟨by simp [Ui], by simp⟩ ?_ ?_ (fun _ _ _ h => h.elim)
  · intro args h
    obtain ⟨k, hk⟩ := List.mem_iff_getElem?.1 h
    obtain ⟨i, _, _, rfl⟩ := JZ hk
    rfl
  · unfold schB intB cels netN
    simp only [List.cons_append, List.nil_append, List.length_nil, List.flatMap_nil]
    exact zk
  · rintro l k args R ⟨A, cap, M, a⟩ hk ⟨hM, ha⟩
    obtain ⟨j, hj, hlt, rfl⟩ := JZ hk
    have hlt2 : j < s.cells.length := hlt
    have hj : L[k]? = some j := by rw [← hL]; exact hj
    dsimp only at hM ha ⊢
    dsimp only [Vx, List.cons_append, List.nil_append]
    have hgj : s.cells[j]? = some (Yp s.sch j) := YH (s := s.sch) hlt
    have htj : L.take k = inI s.sch c.1 j := by
      rw [← hL] at hj ⊢
      exact YiV hj
    have htk : L.take (k + 1) = L.take k ++ [j] := by rw [List.take_add_one, hj, Option.toList_some]
    have hMf : M = (s.cells.take j).filter (Xn c) := by
      rw [hM, htj]
      exact W9 (s := s.sch) (by show j ≤ s.cells.length; omega)
    have hMl : M.length ≤ s.cells.length := by
      rw [hMf]
      have h1 := List.length_filter_le (Xn c) (s.cells.take j)
      rw [List.length_take] at h1
      omega
    have hps := YeB s.sch c (L.take k) j
    rw [← htk, ← hM] at hps
    obtain ⟨d, hd⟩ : ∃ d, Yp s.sch j = d := ⟨_, rfl⟩
    rw [hd] at hgj hps
    repeat' (first | refine zga ?_ | fail)
    apply Ja Ye
    intro R'
    unfold intB schB netN cels
    clear hr7
    by_cases hoff : d.2.1 = c.2.1
    rotate_left
    · have hij : i ≠ j := by
        rintro rfl
        rw [hc] at hd
        subst hd
        exact hoff rfl
      repeat' (first | refine zgd ?_ | (refine zge ?_ ?_ <;> intro _ <;> try (exfalso; omega)) | fail)
      all_goals (
        apply JA ⟨A, cap, M, a⟩
        · refine ⟨?_, ?_⟩
          · show M = _
            rw [hps, if_neg hoff, List.append_nil]
          · show a = _
            rw [ha, htk]
            simp [hij]
        · dsimp only [List.cons_append, List.nil_append]
          exact zk)
    by_cases hji : j = i
    · obtain rfl := hji
      obtain rfl : d = c := hd.symm.trans hc
      have hsa : (M.length : Int) = (Xf s.sch j : Int) := by
        rw [hMf]
        unfold Xf
        rw [hc]
        rfl
      repeat' (first | refine zgd ?_ | (refine zgf ?_ ?_ <;> intro _ <;> try (exfalso; omega)) | fail)
      apply JP [0, 1, 2, 3, 4, 5, 6] [7, 8] [false, true, false, false, false, false, false, true, false, true]
      kernel_rfl
      kernel_rfl
      exact zy
      (simp only [Yl, nthO]; rfl)
      (simp only [Yl, nthO]; rfl)
      repeat' (first | (apply Qv T; exact rfl; exact zm; exact rfl; exact rfl; exact rfl) | (apply Yi; (repeat (first | with_reducible exact Yh | (with_reducible apply Yd; (repeat (first | with_reducible exact Ye | with_reducible apply Yc)))))) | refine zgd ?_ | (refine zgh ?_; intro _) | (refine zgi ?_; intro _ _) | fail)
      rename_i A9 cap9
      apply JA ⟨A9, cap9, M ++ [d], (M.length : Int)⟩
      · refine ⟨?_, ?_⟩
        · show M ++ [d] = _
          rw [hps, if_pos hoff]
        · show (M.length : Int) = _
          rw [htk, if_pos (by simp), hsa]
      · dsimp only [List.cons_append, List.nil_append]
        intro w hw
        rw [UV, Yam M d] at hw
        unfold cels at hw
        revert w
        exact zk
    · have hji2 : i ≠ j := fun e => hji e.symm
      repeat' (first | refine zgd ?_ | (refine zgf ?_ ?_ <;> intro _ <;> try (exfalso; omega)) | fail)
      apply JP [0, 1, 2, 3, 4, 5, 6] [7, 8] [false, true, false, false, false, false, false, true, false, true]
      kernel_rfl
      kernel_rfl
      exact zy
      (simp only [Yl, nthO]; rfl)
      (simp only [Yl, nthO]; rfl)
      repeat' (first | (apply Qv T; exact rfl; exact zm; exact rfl; exact rfl; exact rfl) | (apply Yi; (repeat (first | with_reducible exact Yh | (with_reducible apply Yd; (repeat (first | with_reducible exact Ye | with_reducible apply Yc)))))) | refine zgd ?_ | (refine zgh ?_; intro _) | (refine zgi ?_; intro _ _) | fail)
      rename_i A9 cap9
      apply JA ⟨A9, cap9, M ++ [d], a⟩
      · refine ⟨?_, ?_⟩
        · show M ++ [d] = _
          rw [hps, if_pos hoff]
        · show a = _
          rw [ha, htk]
          simp [hji2]
      · dsimp only [List.cons_append, List.nil_append]
        intro w hw
        rw [UV, Yam M d] at hw
        unfold cels at hw
        revert w
        exact zk
  · rintro D ⟨A, cap, M, a⟩ ⟨hM, ha⟩
    have hLl : (inXs s.sch c.1).length = L.length := by rw [inXs, List.length_map]; exact congrArg List.length hL
    dsimp only at hM ha ⊢
    rw [hLl, List.take_length] at hM ha
    rw [if_pos hiL] at ha
    subst ha
    have hMS : M = Og s.sch i := by
      rw [hM, ← hL]
      have h1 := W9 (s := s.sch) (c := c) (Nat.le_refl _)
      rw [List.take_length] at h1
      rw [show s.cells.length = s.sch.cells.length from rfl, h1]
      unfold Og
      rw [hc]
    have hMl : M.length ≤ 1000 := by
      rw [hMS]
      have h1 := List.length_filter_le (Xn (Yp s.sch i)) s.sch.cells
      exact Nat.le_trans h1 hl
    have hgM : M[((Xf s.sch i : Nat) : Int).toNat]? = some c := by rw [hMS, Int.toNat_natCast, Yjs (s := s.sch) hi, hc]
    have hal : Xf s.sch i < M.length := (List.getElem?_eq_some_iff.1 hgM).1
    have hok := Xe hck
    have hcm : c ∈ s.cells := List.mem_of_getElem? hget
    have hgd := hgood c hcm
    obtain ⟨⟨f0, f1⟩, ⟨t0, t1⟩, _, k1, k2⟩ : (0 ≤ c.2.2.1 ∧ c.2.2.1 < n.net.nodes) ∧ (0 ≤ c.2.2.2.1 ∧ c.2.2.2.1 < n.net.nodes) ∧ c.2.2.1 ≠ c.2.2.2.1 ∧ 0 ≤ YC n.net c.2.2.1 c.2.2.2.1 ∧ 0 ≤ YC n.net c.2.2.2.1 c.2.2.1 := UZ hok hgd
    have hno : M.any (Ug n.net) = false := by
      rw [List.any_eq_false]
      intro x hx
      have hxm : x ∈ s.cells := by
        rw [hMS] at hx
        exact (List.mem_filter.1 hx).1
      obtain ⟨h1, h2, _⟩ := UZ hok (hgood x hxm)
      unfold Ug
      rw [show insE (Yz x) n.net.nodes = true from decide_eq_true h1, show insE (toC x) n.net.nodes = true from decide_eq_true h2]
      simp
    have hinm : n.In B w0 [many H] := ⟨hin.pw.tail, fun r hr => (hin.rw_ r hr).tail, hin.lk.tail, hin.mg.tail, hin.s1, hin.s2, hin.s3, hin.s4⟩
    have hmg := hinm.mg
    have hs4 := hin.s4
    have hml : n.margin.length = n.net.links.length := hok.k1
    have x1 := ZJ k1
    have x2 := ZJ k2
    have hix : ∀ u v : Int, Zh n.net u v = YC n.net u v := fun u v => by unfold Zh; rw [if_neg (by omega)]
    have p1 := fun {H' : List HP} {w : World} (hin : n.In B w0 H') (hw : St B w0 H' w) => XZ n c.2.2.1 c.2.2.2.1 hin hw
    have p2 := fun {H' : List HP} {w : World} (hin : n.In B w0 H') (hw : St B w0 H' w) => XZ n c.2.2.2.1 c.2.2.1 hin hw
    rw [hix] at p1 p2
    obtain ⟨i1, hi1⟩ : ∃ z, YC n.net c.2.2.1 c.2.2.2.1 = z := ⟨_, rfl⟩
    obtain ⟨i2, hi2⟩ : ∃ z, YC n.net c.2.2.2.1 c.2.2.1 = z := ⟨_, rfl⟩
    rw [hi1] at p1 k1 x1
    rw [hi2] at p2 k2 x2
    have hm1 : n.margin[i1.toNat]? = some (mar n.net i1.toNat) := by
      unfold mar
      rw [List.getD_eq_getElem?_getD, show n.net.margin = n.margin from rfl, List.getElem?_eq_getElem (by omega)]; rfl
    have hm2 : n.margin[i2.toNat]? = some (mar n.net i2.toNat) := by
      unfold mar
      rw [List.getD_eq_getElem?_getD, show n.net.margin = n.margin from rfl, List.getElem?_eq_getElem (by omega)]; rfl
    have q1 := fun {H' : List HP} {w : World} (hin : n.In B w0 H') (hr : Rd B w0 H' A (M.flatMap celF)) (hw : St B w0 H' w) => JT n M (Xf s.sch i) c.2.2.2.1 hck ⟨t0, t1⟩ hal hMl hno (cap := cap) hin hr hw
    have q2 := fun {H' : List HP} {w : World} (hin : n.In B w0 H') (hr : Rd B w0 H' A (M.flatMap celF)) (hw : St B w0 H' w) => JT n M (Xf s.sch i) c.2.2.1 hck ⟨f0, f1⟩ hal hMl hno (cap := cap) hin hr hw
    have r1 := fun {H' : List HP} {w : World} (hin : n.In B w0 H') (hw : St B w0 H' w) => Qq n (mar n.net i1.toNat) (V2 n.net M (Xf s.sch i) c.2.2.2.1) hin hw
    have r2 := fun {H' : List HP} {w : World} (hin : n.In B w0 H') (hw : St B w0 H' w) => Qq n (mar n.net i2.toNat) (V2 n.net M (Xf s.sch i) c.2.2.1) hin hw
    have hres : Jl n.net s.sch i = (!(Ua n.net (mar n.net i1.toNat) (V2 n.net M (Xf s.sch i) c.2.2.2.1)) || !(Ua n.net (mar n.net i2.toNat) (V2 n.net M (Xf s.sch i) c.2.2.1))) := by
      unfold Jl
      rw [hc, ← hMS]
      unfold Yz toC
      rw [hi1, hi2]
    obtain ⟨b1, hb1⟩ : ∃ b, Ua n.net (mar n.net i1.toNat) (V2 n.net M (Xf s.sch i) c.2.2.2.1) = b := ⟨_, rfl⟩
    obtain ⟨b2, hb2⟩ : ∃ b, Ua n.net (mar n.net i2.toNat) (V2 n.net M (Xf s.sch i) c.2.2.1) = b := ⟨_, rfl⟩
    rw [hb1] at r1 hres
    rw [hb2] at r2 hres
    rw [hres]
    dsimp only [List.cons_append, List.nil_append]
    unfold cels intB schB netN
    cases b1 with
    | false =>
      repeat' (first | refine zgd ?_ | (refine zgh ?_; intro _) | fail)
      first | apply Ya en95 | apply Yb en95
      exact za
      exact rfl
      exact fun _ hw => (p1 (by repeat (first | exact hinm | apply NetM.In.cons)) hw)
      repeat' (first | refine zgc ?_ | fail)
      first | apply Ya en95 | apply Yb en95
      exact za
      exact rfl
      exact fun _ hw => (p2 (by repeat (first | exact hinm | apply NetM.In.cons)) hw)
      repeat' (first | refine zgd ?_ | fail)
      first | apply Ya UL | apply Yb UL
      exact za
      exact rfl
      exact fun _ hw => (q1 (by repeat (first | exact hinm | apply NetM.In.cons)) (Rd.sl zm) hw)
      repeat' (first | fail)
      first | apply Ya UK | apply Yb UK
      exact za
      exact rfl
      exact fun _ hw => (r1 (by repeat (first | exact hinm | apply NetM.In.cons)) hw)
      repeat' (first | refine zgd ?_ | fail)
      apply Zf
      · (repeat (first | with_reducible exact Ye | with_reducible apply Yc))
      apply VQ_m
      apply Yk H
      · intro w hw
        have h5 : St B w0 [many H] w := by
          revert w
          exact zk
        exact h5.perm (.openT H)
      apply Yg; exact rfl; exact rfl; exact ⟨rfl, rfl⟩
    | true =>
      cases b2 with
      | false =>
        repeat' (first | refine zgd ?_ | (refine zgh ?_; intro _) | fail)
        first | apply Ya en95 | apply Yb en95
        exact za
        exact rfl
        exact fun _ hw => (p1 (by repeat (first | exact hinm | apply NetM.In.cons)) hw)
        repeat' (first | refine zgc ?_ | fail)
        first | apply Ya en95 | apply Yb en95
        exact za
        exact rfl
        exact fun _ hw => (p2 (by repeat (first | exact hinm | apply NetM.In.cons)) hw)
        repeat' (first | refine zgd ?_ | fail)
        first | apply Ya UL | apply Yb UL
        exact za
        exact rfl
        exact fun _ hw => (q1 (by repeat (first | exact hinm | apply NetM.In.cons)) (Rd.sl zm) hw)
        repeat' (first | fail)
        first | apply Ya UK | apply Yb UK
        exact za
        exact rfl
        exact fun _ hw => (r1 (by repeat (first | exact hinm | apply NetM.In.cons)) hw)
        repeat' (first | refine zgd ?_ | fail)
        first | apply Ya UL | apply Yb UL
        exact za
        exact rfl
        exact fun _ hw => (q2 (by repeat (first | exact hinm | apply NetM.In.cons)) (Rd.sl zm) hw)
        repeat' (first | refine zgb ?_ | fail)
        first | apply Ya UK | apply Yb UK
        exact za
        exact rfl
        exact fun _ hw => (r2 (by repeat (first | exact hinm | apply NetM.In.cons)) hw)
        repeat' (first | refine zgd ?_ | fail)
        apply Zf
        · (repeat (first | with_reducible exact Ye | with_reducible apply Yc))
        apply VQ_m
        apply Yk H
        · intro w hw
          have h5 : St B w0 [many H] w := by
            revert w
            exact zk
          exact h5.perm (.openT H)
        apply Yg; exact rfl; exact rfl; exact ⟨rfl, rfl⟩
      | true =>
        repeat' (first | refine zgd ?_ | (refine zgh ?_; intro _) | fail)
        first | apply Ya en95 | apply Yb en95
        exact za
        exact rfl
        exact fun _ hw => (p1 (by repeat (first | exact hinm | apply NetM.In.cons)) hw)
        repeat' (first | refine zgc ?_ | fail)
        first | apply Ya en95 | apply Yb en95
        exact za
        exact rfl
        exact fun _ hw => (p2 (by repeat (first | exact hinm | apply NetM.In.cons)) hw)
        repeat' (first | refine zgd ?_ | fail)
        first | apply Ya UL | apply Yb UL
        exact za
        exact rfl
        exact fun _ hw => (q1 (by repeat (first | exact hinm | apply NetM.In.cons)) (Rd.sl zm) hw)
        repeat' (first | fail)
        first | apply Ya UK | apply Yb UK
        exact za
        exact rfl
        exact fun _ hw => (r1 (by repeat (first | exact hinm | apply NetM.In.cons)) hw)
        repeat' (first | refine zgd ?_ | fail)
        first | apply Ya UL | apply Yb UL
        exact za
        exact rfl
        exact fun _ hw => (q2 (by repeat (first | exact hinm | apply NetM.In.cons)) (Rd.sl zm) hw)
        repeat' (first | refine zgb ?_ | fail)
        first | apply Ya UK | apply Yb UK
        exact za
        exact rfl
        exact fun _ hw => (r2 (by repeat (first | exact hinm | apply NetM.In.cons)) hw)
        repeat' (first | refine zgd ?_ | fail)
        apply Zf
        · (repeat (first | with_reducible exact Ye | with_reducible apply Yc))
        apply VQ_m
        apply Yk H
        · intro w hw
          have h5 : St B w0 [many H] w := by
            revert w
            exact zk
          exact h5.perm (.openT H)
        apply Yg; exact rfl; exact rfl; exact ⟨rfl, rfl⟩
end Go.Proofs.YtmalhidldgfeoaaGreatDoor
