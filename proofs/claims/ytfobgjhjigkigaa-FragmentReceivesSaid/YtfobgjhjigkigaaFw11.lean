/- Walks: Bitmap, and the example that every statement of the layer checks first. -/
import Derived.Test.YtfobgjhjigkigaaFw10
namespace Go.Proofs.Ytfobgjhjigkigaa
open Go.RowKit Go.Eng

theorem bitmap_spec (hold time : Int) (m r : Nat) (l1 : List Dg) (d : Dg) (l2 : List Dg) (clock : Nat) (tag : Int) (hf : findD (l1 ++ d :: l2) tag = some d) {B : Nat} {w0 : World} {H : List HP} {w : World} (hw : St B w0 (rpcs r m hold time (l1 ++ d :: l2) clock H) w) :
    Calls Try.prog 23 [.pointer (some ⟨r, 0, none⟩), .int .i64 tag].toArray w (Post B w0 fun v K => v = .tuple #[.int .i64 d.bm, .int .i64 0] ∧ K = rpcs r m hold time (l1 ++ d :: l2) clock H) := by
  have hk : mget ((l1 ++ d :: l2).map Dg.ent) tag = some (.pointer (some ⟨d.g, 0, none⟩)) := by rw [mget_ents, hf]; rfl
  have hw2 : St B w0 (d.hp :: many (l1.map Dg.hp ++ l2.map Dg.hp) :: blk r (rcells hold time m) :: blk m (mobj ((l1 ++ d :: l2).map Dg.ent) clock) :: H) w := by
    unfold rpcs at hw
    rw [List.map_append (f := Dg.hp), List.map_cons (f := Dg.hp)] at hw
    exact (hw.front 2).perm (.pull _ _ _ _)
  refine Calls_of_VC Try.func23 Try.ntmps23 rfl rfl hw2 ?_
  repeat' (first | (apply VL_lookup1ok (kt := 3) (et := 81); exact rfl; exact rfl; (focus repeat (first | with_reducible exact List.mem_cons_self | with_reducible apply List.mem_cons_of_mem | assumption)); kernel_rfl; exact rfl; exact hk) | (apply VL_load T; exact rfl; exact .head _; exact rfl; exact rfl; exact rfl) | (apply VL_move; exact rfl; exact rfl) | (apply VL_assign; exact rfl; exact rfl) | (apply VL_nilCheck; exact rfl; exact rfl) | (apply VL_fieldAddr T; exact rfl; exact rfl; exact rfl) | (apply VL_load T; exact rfl; (focus repeat (first | with_reducible exact List.mem_cons_self | with_reducible apply List.mem_cons_of_mem | assumption)); exact rfl; exact rfl; exact rfl) | (apply VL_extract; exact rfl; exact rfl; exact rfl) | (apply VL_not_true; exact rfl; exact rfl) | apply VL_nil | apply VQ_then | apply VC_seq | apply VC_region | (apply VC_cond_false; exact rfl) | apply VC_ret | apply VC_skip)
  apply VQ_st (rpcs r m hold time (l1 ++ d :: l2) clock H)
  · intro w hw
    unfold rpcs
    rw [List.map_append (f := Dg.hp), List.map_cons (f := Dg.hp)]
    have h1 := hw.perm (.push _ _ _ _)
    exact h1.perm (.trans (.swap _ _ _) (.cons _ (.swap _ _ _)))
  apply VQ_ret2; exact rfl; exact rfl; exact rfl
  exact ⟨rfl, rfl⟩

theorem bitmap_none (hold time : Int) (m r : Nat) (ds : List Dg) (clock : Nat) (tag : Int) (hf : findD ds tag = none) {B : Nat} {w0 : World} {H : List HP} {w : World} (hw : St B w0 (rpcs r m hold time ds clock H) w) :
    Calls Try.prog 23 [.pointer (some ⟨r, 0, none⟩), .int .i64 tag].toArray w (Post B w0 fun v K => v = .tuple #[.int .i64 0, .int .i64 7] ∧ K = rpcs r m hold time ds clock H) := by
  have hk : mget (ds.map Dg.ent) tag = none := by rw [mget_ents, hf]; rfl
  refine Calls_of_VC Try.func23 Try.ntmps23 rfl rfl hw ?_
  unfold rpcs
  repeat' (first | (apply VL_lookup0ok (kt := 3) (et := 81); exact rfl; exact rfl; (focus repeat (first | with_reducible exact List.mem_cons_self | with_reducible apply List.mem_cons_of_mem | assumption)); kernel_rfl; exact rfl; exact hk; exact z_dg) | (apply VL_move; exact rfl; exact rfl) | (apply VL_assign; exact rfl; exact rfl) | (apply VL_nilCheck; exact rfl; exact rfl) | (apply VL_fieldAddr T; exact rfl; exact rfl; exact rfl) | (apply VL_load T; exact rfl; (focus repeat (first | with_reducible exact List.mem_cons_self | with_reducible apply List.mem_cons_of_mem | assumption)); exact rfl; exact rfl; exact rfl) | (apply VL_extract; exact rfl; exact rfl; exact rfl) | (apply VL_not_false; exact rfl; exact rfl) | apply VL_nil | apply VQ_then | apply VC_seq | apply VC_region | (apply VC_cond_true; exact rfl) | apply VC_ret | apply VQ_then_ret)
  apply VQ_ret2; exact rfl; exact rfl; exact rfl
  exact ⟨rfl, rfl⟩

/-! ### The example -/
def sab : ByteArray := ⟨#[97, 98]⟩
def scd : ByteArray := ⟨#[99, 100]⟩
def se : ByteArray := ⟨#[101]⟩
def sall : ByteArray := ⟨#[97, 98, 99, 100, 101]⟩
def A1 (g : Nat) : Dg := upd (newDg g 0 7 3 5 2) 1 0 sab
def A2 (g : Nat) : Dg := upd (A1 g) 2 2 se
def A3 (g : Nat) : Dg := upd (A2 g) 3 1 scd

theorem okA0 (g : Nat) : OkD (newDg g 0 7 3 5 2) := ⟨by simp [newDg], by simp [newDg], by simp [newDg], fun x hx => by rw [(List.mem_replicate.1 hx).2]; decide⟩
theorem okA1 (g : Nat) : OkD (A1 g) := okd_upd (okA0 g) (by decide) (by decide) (by decide)
theorem okA2 (g : Nat) : OkD (A2 g) := okd_upd (okA1 g) (by decide) (by decide) (by decide)

theorem step1 (m r : Nat) {B : Nat} {w0 : World} {H : List HP} {w : World} (hw : St B w0 (rpcs r m 10 0 [] 0 H) w) :
    Calls Try.prog 22 [.pointer (some ⟨r, 0, none⟩), .int .i64 1, .agg #[.int .i64 7, .int .i64 0, .int .i64 3, .int .i64 5, .string sab]].toArray w (Post B w0 fun _ K => ∃ g, K = rpcs r m 10 1 [A1 g] 1 H) := by
  refine (receive_got 10 0 m r [] 0 1 7 0 3 5 sab (by decide) (by decide) (by decide) (by decide) (by decide) ⟨by simp, by simp, fun _ h => by cases h⟩ (fun _ h => by cases h) (fun _ => by decide) hw).mono ?_
  rintro e w' ⟨v, K, rfl, hst, l1, d, l2, c2, hg, hr⟩
  rcases hg with ⟨h1, _⟩ | ⟨_, _, rfl, rfl, hd, rfl⟩
  · cases h1
  · obtain ⟨g, rfl⟩ : ∃ g, d = newDg g 0 7 3 5 2 := ⟨d.g, hd⟩
    rcases hr with ⟨hn, _⟩ | ⟨_, _, rfl⟩
    · exact absurd ⟨rfl, rfl, by rfl, .inl (by show 0 / 2 ^ Int.toNat 0 % 2 = 0; decide)⟩ hn
    · exact ⟨_, _, rfl, hst, g, rfl⟩

theorem one_split {d x : Dg} {l1 l2 : List Dg} (h : [d] = l1 ++ x :: l2) : l1 = [] ∧ x = d ∧ l2 = [] := by
  cases l1 with
  | nil => injection h with h1 h2; exact ⟨rfl, h1.symm, h2.symm⟩
  | cons a l => injection h with h1 h2; cases l <;> cases h2

theorem stepOld (m r : Nat) (d : Dg) (time slot idx : Int) (s : ByteArray) (hs : s.size ≤ 5000) (hd : OkD d) (hb : d.born < 1) (htag : d.tag = 7) (ht : 0 ≤ time) (ho : time ≤ slot ∧ slot ≤ 109951162) (hp : Fm.part 7 idx 3 5 s.size ≠ 0) (hk : old 10 slot d = false) (hf : fits d 7 idx 3 5 s) {B : Nat} {w0 : World} {H : List HP} {w : World} (hw : St B w0 (rpcs r m 10 time [d] 1 H) w) :
    Calls Try.prog 22 [.pointer (some ⟨r, 0, none⟩), .int .i64 slot, .agg #[.int .i64 7, .int .i64 idx, .int .i64 3, .int .i64 5, .string s]].toArray w (Post B w0 fun v K => v = outV d (upd d slot idx s) ∧ K = rpcs r m 10 slot [upd d slot idx s] 1 H) := by
  have hfl : ([d].filter fun d => !old 10 slot d) = [d] := by simp [hk]
  have hfd : findD [d] 7 = some d := by simp [findD, htag]
  refine (receive_got 10 time m r [d] 1 slot 7 idx 3 5 s hs hp ht ho (by decide) ⟨by simp, by simp, fun x hx => by rw [List.mem_singleton.1 hx]; exact hb⟩ (fun x hx => by rw [List.mem_singleton.1 hx]; exact hd) (by rw [hfl, hfd]; intro h; cases h) hw).mono ?_
  rw [hfl]
  rintro e w' ⟨v, K, rfl, hst, l1, x, l2, c2, hg, hr⟩
  rcases hg with ⟨_, h2, rfl⟩ | ⟨h1, _⟩
  · obtain ⟨rfl, rfl, rfl⟩ := one_split h2
    rcases hr with ⟨hn, _⟩ | ⟨_, rfl, rfl⟩
    · exact absurd hf hn
    · exact ⟨_, _, rfl, hst, rfl, rfl⟩
  · rw [hfd] at h1; cases h1

theorem ex_err : splitErr 7 sall.size 2 = 0 := by decide
theorem ex_cnt : splitCnt 7 sall.size 2 = 3 := by decide
theorem ex_pieces : pieces 7 sall 2 3 3 = frs [(7, 0, 3, 5, sab), (7, 1, 3, 5, scd), (7, 2, 3, 5, se)] := by rfl
theorem ex_enc : encOf 7 2 3 5 se = ⟨#[7, 16, 128, 20, 101]⟩ := by decide
theorem ex_bm1 (g : Nat) : (A1 g).bm = 1 := by show (0 ||| 2 ^ Int.toNat 0) = 1; decide
theorem ex_bm2 (g : Nat) : (A2 g).bm = 5 := by show ((A1 g).bm ||| 2 ^ Int.toNat 2) = 5; rw [ex_bm1]; decide
theorem ex_bm3 (g : Nat) : (A3 g).bm = 7 := by show ((A2 g).bm ||| 2 ^ Int.toNat 1) = 7; rw [ex_bm2]; decide
theorem ex_join : joinB (((((List.replicate 32 ⟨#[]⟩).set (Int.toNat 0) sab).set (Int.toNat 2) se).set (Int.toNat 1) scd).take (Int.toNat 3)) = sall := by decide
theorem ex_out (g : Nat) : outV (A2 g) (A3 g) = .tuple #[.string sall, .bool true, .int .i64 0] := by
  have h3 : allBits (A2 g) = 7 := by show 2 ^ Int.toNat 3 - 1 = 7; decide
  unfold outV
  rw [ex_bm2, ex_bm3, h3, if_neg (by decide)]
  exact congrArg (fun x => Value.tuple #[.string x, .bool true, .int .i64 0]) ex_join
theorem ex_miss : missOf 3 5 = [1] := by decide
theorem ex_merr : missErr 3 5 = 0 := by decide
theorem ex_f2 (g : Nat) : fits (A1 g) 7 2 3 5 se := ⟨rfl, rfl, by rfl, .inl (by rw [ex_bm1]; decide)⟩
theorem ex_f3 (g : Nat) : fits (A2 g) 7 1 3 5 scd := ⟨rfl, rfl, by rfl, .inl (by rw [ex_bm2]; decide)⟩
theorem bld_ex (w : World) : (Instr.build 23 [(0, .int .i64 7), (1, .int .i64 2), (2, .int .i64 3), (3, .int .i64 5), (4, .string se)].toArray).run Try.prog w = .ok (.agg (frc (7, 2, 3, 5, se)).toArray) w := by kernel_rfl
def exFr : List Fr := [(7, 0, 3, 5, sab), (7, 1, 3, 5, scd), (7, 2, 3, 5, se)]
theorem ex_at (i : Nat) (f : Fr) (h : exFr[i]? = some f) : ∀ j v, (frc f)[j]? = some v → (frs exFr)[i * 5 + j]? = some v := by
  intro j v hv
  have hj : j < 5 := by have := (List.getElem?_eq_some_iff.1 hv).1; rwa [length_frc] at this
  rw [frs_get exFr i j hj, h]
  exact hv

set_option maxRecDepth 10000 in
theorem awake_spec {B : Nat} {w0 : World} {H : List HP} {w : World} (hw : St B w0 H w) :
    Calls Try.prog 10 [].toArray w (Post B w0 fun v K => v = .bool true ∧ K = H) := by
  refine Calls_of_VC Try.func10 Try.ntmps10 rfl rfl hw ?_
  repeat' (first | (apply VL_assign; exact rfl; exact rfl) | apply VL_nil | apply VQ_then | apply VC_seq | apply VC_region)
  apply VL_call _ en11
  (repeat (first | exact args_nil | (apply args_cons; exact rfl)))
  exact rfl
  exact fun _ hw => (split_spec 7 2 sall (by decide) (hw))
  rintro _ _ ⟨A, cap, rfl, rfl⟩
  rw [ex_err, ex_cnt, show (2 : Int).toNat = 2 from rfl, ex_pieces]
  repeat' (first | (apply VL_move; exact rfl; exact rfl) | (apply VL_assign; exact rfl; exact rfl) | (apply VL_extract; exact rfl; exact rfl; exact rfl) | apply VL_nil | apply VQ_then | apply VC_seq | apply VC_region)
  rw [show [(7, 0, 3, 5, sab), (7, 1, 3, 5, scd), (7, 2, 3, 5, se)] = exFr from rfl]
  apply VL_call _ en21
  (repeat (first | exact args_nil | (apply args_cons; exact rfl)))
  exact rfl
  exact fun _ hw => newReceiver_spec 10 hw (by decide) (by decide)
  rintro _ _ ⟨r, m, rfl, rfl⟩
  repeat' (first | (apply VL_peql0; exact rfl; exact rfl; kernel_rfl) | (apply VL_load_agg_sl T (vs := frc (7, 2, 3, 5, se)); exact rfl; (focus repeat (first | with_reducible exact List.mem_cons_self | with_reducible apply List.mem_cons_of_mem | assumption)); exact rfl; exact rfl; exact rfl; decide; exact ex_at 2 _ rfl) | (apply VL_build; (repeat (first | exact parts_nil | (apply parts_cons; exact rfl))); exact bld_ex; exact rfl) | (apply VL_aneq (xs := frc (7, 2, 3, 5, se)) (ys := frc (7, 2, 3, 5, se)); exact rfl; exact rfl; exact rfl; kernel_rfl; kernel_rfl; (exact fun h => absurd rfl h); intro _) | (apply VL_move; exact rfl; exact rfl) | (apply VL_assign; exact rfl; exact rfl) | (apply VL_guard_yes; exact rfl; exact rfl; exact rfl) | (apply VL_len T; exact rfl; exact rfl; exact rfl) | (apply VL_index_sl T; exact rfl; (focus repeat (first | with_reducible exact List.mem_cons_self | with_reducible apply List.mem_cons_of_mem | assumption)); exact rfl; exact rfl; exact rfl; omega) | (apply VL_pick_false; exact rfl; exact rfl; exact rfl) | (apply VL_extract; exact rfl; exact rfl; exact rfl) | (apply VL_neq; exact rfl; exact rfl; exact rfl; all_goals (intro _; try (exfalso; omega))) | apply VL_nil | apply VQ_then | apply VC_seq | apply VC_region | (apply VC_cond_false; exact rfl) | apply VC_skip)
  first | apply VL_callt en13 | apply VL_callq en13
  (repeat (first | exact args_nil | (apply args_cons; exact rfl)))
  exact rfl
  exact fun _ hw => (encode_spec 7 2 3 5 se (by decide) hw)
  rw [ex_enc, if_neg (by decide)]
  repeat' (first | (apply VL_sneq; exact rfl; exact rfl; exact rfl; (exact fun h => absurd rfl h); intro _) | (apply VL_load_agg_sl T (vs := frc (7, 0, 3, 5, sab)); exact rfl; (focus repeat (first | with_reducible exact List.mem_cons_self | with_reducible apply List.mem_cons_of_mem | assumption)); exact rfl; exact rfl; exact rfl; decide; exact ex_at 0 _ rfl) | (apply VL_move; exact rfl; exact rfl) | (apply VL_assign; exact rfl; exact rfl) | (apply VL_guard_yes; exact rfl; exact rfl; exact rfl) | (apply VL_index_sl T; exact rfl; (focus repeat (first | with_reducible exact List.mem_cons_self | with_reducible apply List.mem_cons_of_mem | assumption)); exact rfl; exact rfl; exact rfl; omega) | (apply VL_pick_false; exact rfl; exact rfl; exact rfl) | (apply VL_extract; exact rfl; exact rfl; exact rfl) | (apply VL_neq; exact rfl; exact rfl; exact rfl; all_goals (intro _; try (exfalso; omega))) | apply VL_nil | apply VQ_then | apply VC_seq | apply VC_region | (apply VC_cond_false; exact rfl) | apply VC_skip)
  apply VL_call _ en22
  (repeat (first | exact args_nil | (apply args_cons; exact rfl)))
  exact rfl
  exact fun _ hw => step1 m r hw
  rintro _ _ ⟨g, rfl⟩
  unfold rpcs
  repeat' (first | (apply VL_load_agg_sl T (vs := frc (7, 2, 3, 5, se)); exact rfl; (focus repeat (first | with_reducible exact List.mem_cons_self | with_reducible apply List.mem_cons_of_mem | assumption)); exact rfl; exact rfl; exact rfl; decide; exact ex_at 2 _ rfl) | (apply VL_move; exact rfl; exact rfl) | (apply VL_index_sl T; exact rfl; (focus repeat (first | with_reducible exact List.mem_cons_self | with_reducible apply List.mem_cons_of_mem | assumption)); exact rfl; exact rfl; exact rfl; omega) | apply VL_nil | apply VQ_then | apply VC_seq | apply VC_region)
  apply VL_call _ en22
  (repeat (first | exact args_nil | (apply args_cons; exact rfl)))
  exact rfl
  exact fun _ hw => stepOld m r (A1 g) 1 2 2 se (by decide) (okA1 g) Nat.zero_lt_one rfl (by decide) (by decide) (by decide) (by rfl) (ex_f2 g) hw
  rintro _ _ ⟨rfl, rfl⟩
  rw [show upd (A1 g) 2 2 se = A2 g from rfl]
  unfold rpcs
  repeat' (first | (apply VL_move; exact rfl; exact rfl) | apply VL_nil | apply VQ_then | apply VC_seq | apply VC_region)
  apply VL_call _ en23
  (repeat (first | exact args_nil | (apply args_cons; exact rfl)))
  exact rfl
  exact fun _ hw => bitmap_spec 10 2 m r [] (A2 g) [] 1 7 rfl hw
  rintro _ _ ⟨rfl, rfl⟩
  rw [ex_bm2]
  unfold rpcs
  repeat' (first | (apply VL_move; exact rfl; exact rfl) | (apply VL_assign; exact rfl; exact rfl) | (apply VL_extract; exact rfl; exact rfl; exact rfl) | apply VL_nil | apply VQ_then | apply VC_seq | apply VC_region)
  apply VL_call _ en15
  (repeat (first | exact args_nil | (apply args_cons; exact rfl)))
  exact rfl
  exact fun _ hw => missing_spec 3 5 (by decide) hw
  rintro _ _ ⟨A2', c2', rfl, rfl⟩
  rw [ex_miss, ex_merr]
  repeat' (first | (apply VL_load_agg_sl T (vs := frc (7, 1, 3, 5, scd)); exact rfl; (focus repeat (first | with_reducible exact List.mem_cons_self | with_reducible apply List.mem_cons_of_mem | assumption)); exact rfl; exact rfl; exact rfl; decide; exact ex_at 1 _ rfl) | (apply VL_move; exact rfl; exact rfl) | (apply VL_assign; exact rfl; exact rfl) | (apply VL_index_sl T; exact rfl; (focus repeat (first | with_reducible exact List.mem_cons_self | with_reducible apply List.mem_cons_of_mem | assumption)); exact rfl; exact rfl; exact rfl; omega) | (apply VL_extract; exact rfl; exact rfl; exact rfl) | apply VL_nil | apply VQ_then | apply VC_seq | apply VC_region)
  apply VL_st (rpcs r m 10 2 [A2 g] 1 (sl 3 1 A2' [1].length c2' (intsOf [1]) :: sl 23 5 A 3 cap (frs exFr) :: H))
  · exact fun w hw => ((hw.front 3).front 3).front 3
  apply VL_call _ en22
  (repeat (first | exact args_nil | (apply args_cons; exact rfl)))
  exact rfl
  exact fun _ hw => stepOld m r (A2 g) 2 3 1 scd (by decide) (okA2 g) Nat.zero_lt_one rfl (by decide) (by decide) (by decide) (by rfl) (ex_f3 g) hw
  rintro _ _ ⟨rfl, rfl⟩
  rw [show upd (A2 g) 3 1 scd = A3 g from rfl, ex_out]
  unfold rpcs
  repeat' (first | (apply VL_seql; exact rfl; exact rfl; exact rfl; intro _; (exact fun h => absurd rfl h)) | (apply VL_buildSlice_sl T; (repeat (first | exact parts_nil | (apply parts_cons; exact rfl))); exact bls_int _; exact rfl; exact rfl; exact rfl; exact rfl; intro _) | (apply VL_move; exact rfl; exact rfl) | (apply VL_assign; exact rfl; exact rfl) | (apply VL_guard_yes; exact rfl; exact rfl; exact rfl) | (apply VL_pick_true; exact rfl; exact rfl; exact rfl) | (apply VL_extract; exact rfl; exact rfl; exact rfl) | (apply VL_eql; exact rfl; exact rfl; exact rfl; all_goals (intro _; try (exfalso; omega))) | apply VL_nil | apply VQ_then | apply VC_seq | apply VC_region)
  apply VL_call _ en20
  (repeat (first | exact args_nil | (apply args_cons; exact rfl)))
  exact rfl
  exact fun _ hw => eqInt_spec [1] (by decide) (.tail _ (.tail _ (.tail _ (.tail _ (.head _))))) (.head _) hw
  rintro _ _ ⟨rfl, rfl⟩
  repeat' (first | (apply VL_seql; exact rfl; exact rfl; exact rfl; intro _; (exact fun h => absurd rfl h)) | (apply VL_move; exact rfl; exact rfl) | (apply VL_assign; exact rfl; exact rfl) | (apply VL_guard_no; exact rfl; exact rfl; exact rfl; exact rfl; exact rfl) | (apply VL_guard_yes; exact rfl; exact rfl; exact rfl) | (apply VL_pick_true; exact rfl; exact rfl; exact rfl) | (apply VL_pick_false; exact rfl; exact rfl; exact rfl) | (apply VL_eql; exact rfl; exact rfl; exact rfl; all_goals (intro _; try (exfalso; omega))) | (apply VL_seql; exact rfl; exact rfl; exact rfl; all_goals intro _) | apply VL_nil | apply VQ_then | apply VC_ret)
  · apply VQ_tail; apply VQ_tail; apply VQ_tail; apply VQ_tail; apply VQ_tail; apply VQ_tail
    apply VQ_ret1; exact rfl; exact rfl
    exact ⟨rfl, rfl⟩
  · rename_i h; exact absurd rfl h
end Go.Proofs.Ytfobgjhjigkigaa
