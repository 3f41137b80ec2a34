/- The law FragmentForgets: walk. -/
import Derived.Test.YtfobgjhjigkigaaFw23
import Derived.Test.YtfobgjhjigkigaaWm
import Derived.Test.YtfobgjhjigkigaaE7
import Derived.Test.YtfobgjhjigkigaaFc
namespace Go.Proofs.Ytfobgjhjigkigaa
open Go.RowKit Go.Eng

theorem one_all {P : Dg → Prop} {x : Dg} (h : P x) : ∀ d ∈ [x], P d := fun d hd => by
  obtain rfl : d = x := by simpa using hd
  exact h
theorem two_all {P : Dg → Prop} {x y : Dg} (h : P x) (h2 : P y) : ∀ d ∈ [x, y], P d := fun d hd => by
  rcases List.mem_cons.1 hd with rfl | hd
  · exact h
  · exact one_all h2 d hd
theorem two_lt {x y : Dg} {k : Nat} (h : x.born < k) (h2 : y.born < k) : ∀ d ∈ [x, y], d.born < k := two_all (P := fun d => d.born < k) h h2

def sx : ByteArray := ⟨#[120]⟩
theorem sx_err : splitErr 2 sx.size 1 = 0 := by decide
theorem sx_cnt : splitCnt 2 sx.size 1 = 1 := by decide
theorem sx_piece : piece sx (Int.toNat 1) 0 = sx := by decide
theorem sx_part : Fm.part 2 0 1 1 sx.size ≠ 0 := by decide

set_option maxHeartbeats 2000000 in
theorem law_forgets (data : ByteArray) (hold a b : Int) (hd : data.size ≤ 9223372036854775807) {B : Nat} {w0 : World} {H : List HP} {w : World} (hw : St B w0 H w) :
    Calls Try.prog 8 [.string data, .int .i64 hold, .agg #[.int .i64 a, .int .i64 b]].toArray w (Post B w0 fun v K => v = .bool true ∧ ∀ w, St B w0 K w → St B w0 H w) := by
  refine Calls_of_VC Try.func8 Try.ntmps8 rfl rfl hw ?_
  (apply VC_seq; apply VC_region; apply VL_box_agg; exact rfl; exact rfl; intro g)
  repeat' (first | apply (zs2 ?_) | apply (zs65 ?_) | apply (zs68 ?_) | apply (zs69 ?_) | apply (zs70 ?_))
  first | apply VL_callt en10 | apply VL_callq en10
  (repeat (first | exact args_nil | (apply args_cons; exact rfl)))
  exact rfl
  exact fun _ hw => (awake_spec hw)
  repeat' (first | apply (zs1 ?_) | apply (zs2 ?_) | (apply zg4; refine zs14 ?_) | (apply (zs19 ?_ ?_) <;> intro _ <;> try (exfalso; omega)) | (apply zg20; refine zs47 ?_) | apply (zs65 ?_) | apply (zs68 ?_) | apply (zs69 ?_) | apply (zs70 ?_) | (apply zg27; first | refine zs71 ?_ | refine zs72 ?_) | apply (zs74 ?_) | apply (zs76 ?_) | apply (zs77 ?_))
  · apply VQ_tail; apply VQ_ret1; exact rfl; exact rfl
    exact ⟨rfl, fun w hw => hw⟩
  by_cases hh : 0 ≤ hold ∧ hold ≤ 4096
  rotate_left
  · skip
    apply VL_callP [] _ en21
    (repeat (first | exact args_nil | (apply args_cons; exact rfl)))
    (repeat (first | with_reducible exact pull_nil | (with_reducible apply pull_cons; (repeat (first | with_reducible exact rem_here | with_reducible apply rem_there)))))
    (repeat (first | with_reducible exact app_nil | with_reducible apply app_cons))
    exact rfl
    exact fun _ hw => ((fun h => newReceiver_err hold h (by omega)) hw)
    rintro _ _ ⟨rfl, rfl⟩
    repeat' (first | apply (zs1 ?_) | apply (zs2 ?_) | apply (zs13 ?_) | apply (zs65 ?_) | apply (zs68 ?_) | apply (zs69 ?_) | apply (zs70 ?_))
    apply VL_callP [] _ en11
    (repeat (first | exact args_nil | (apply args_cons; exact rfl)))
    (repeat (first | with_reducible exact pull_nil | (with_reducible apply pull_cons; (repeat (first | with_reducible exact rem_here | with_reducible apply rem_there)))))
    (repeat (first | with_reducible exact app_nil | with_reducible apply app_cons))
    exact rfl
    exact fun _ hw => (split_spec 1 100 data (by omega) hw)
    rintro _ _ ⟨A, cap, rfl, rfl⟩
    repeat' (first | apply (zs1 ?_) | apply (zs2 ?_) | apply (zs13 ?_) | apply (zs65 ?_) | apply (zs68 ?_) | apply (zs69 ?_) | apply (zs70 ?_))
    apply VL_callP [] _ en11
    (repeat (first | exact args_nil | (apply args_cons; exact rfl)))
    (repeat (first | with_reducible exact pull_nil | (with_reducible apply pull_cons; (repeat (first | with_reducible exact rem_here | with_reducible apply rem_there)))))
    (repeat (first | with_reducible exact app_nil | with_reducible apply app_cons))
    exact rfl
    exact fun _ hw => (split_spec 2 1 sx (by decide) hw)
    rintro _ _ ⟨A2, cap2, rfl, rfl⟩
    repeat' (first | (apply VL_peql0; exact rfl; exact rfl; kernel_rfl) | apply (zs1 ?_) | apply (zs2 ?_) | (apply zg1; first | refine zs3 ?_ | refine zs4 ?_) | (apply zg6; refine zs11 ?_) | apply (zs13 ?_) | (apply zg7; (refine zs15 ?_ ?_ <;> intro _ <;> try (exfalso; omega))) | (apply zg8; (refine zs16 ?_ ?_ <;> intro _ <;> try (exfalso; omega))) | apply (zs65 ?_) | apply (zs68 ?_) | apply (zs69 ?_) | apply (zs70 ?_) | (apply zg27; refine zs71 ?_) | apply (zs74 ?_) | apply (zs77 ?_))
    apply VQ_ret1; exact rfl; exact rfl
    exact ⟨rfl, (by (intro w hw; refine hw.perm ?_; focus repeat (first | with_reducible exact Perm.refl _ | (with_reducible apply perm_take; focus ((repeat (first | with_reducible exact rem_here | with_reducible apply rem_there)); done)) | with_reducible apply Perm.dropK)))⟩
  apply VL_callP [] _ en21
  (repeat (first | exact args_nil | (apply args_cons; exact rfl)))
  (repeat (first | with_reducible exact pull_nil | (with_reducible apply pull_cons; (repeat (first | with_reducible exact rem_here | with_reducible apply rem_there)))))
  (repeat (first | with_reducible exact app_nil | with_reducible apply app_cons))
  exact rfl
  exact fun _ hw => ((fun h => newReceiver_spec hold h hh.1 hh.2) hw)
  rintro _ _ ⟨r, mm, rfl, rfl⟩
  repeat' (first | apply (zs1 ?_) | apply (zs2 ?_) | apply (zs13 ?_) | apply (zs65 ?_) | apply (zs68 ?_) | apply (zs69 ?_) | apply (zs70 ?_))
  apply VL_callP [] _ en11
  (repeat (first | exact args_nil | (apply args_cons; exact rfl)))
  (repeat (first | with_reducible exact pull_nil | (with_reducible apply pull_cons; (repeat (first | with_reducible exact rem_here | with_reducible apply rem_there)))))
  (repeat (first | with_reducible exact app_nil | with_reducible apply app_cons))
  exact rfl
  exact fun _ hw => (split_spec 1 100 data (by omega) hw)
  rintro _ _ ⟨A, cap, rfl, rfl⟩
  repeat' (first | apply (zs1 ?_) | apply (zs2 ?_) | apply (zs13 ?_) | apply (zs65 ?_) | apply (zs68 ?_) | apply (zs69 ?_) | apply (zs70 ?_))
  apply VL_callP [] _ en11
  (repeat (first | exact args_nil | (apply args_cons; exact rfl)))
  (repeat (first | with_reducible exact pull_nil | (with_reducible apply pull_cons; (repeat (first | with_reducible exact rem_here | with_reducible apply rem_there)))))
  (repeat (first | with_reducible exact app_nil | with_reducible apply app_cons))
  exact rfl
  exact fun _ hw => (split_spec 2 1 sx (by decide) hw)
  rintro _ _ ⟨A2, cap2, rfl, rfl⟩
  rw [sx_err, sx_cnt, pieces_frs, pieces_frs]
  have hoks := @frag_ok 1 100 data
  have h32 := splitCnt_le 1 data.size 100
  have hse1 : splitErr 1 data.size 100 = 0 → 1 ≤ splitCnt 1 data.size 100 := fun h => by
    have h1 := last_all h
    have h2 := splitErr_cnt h
    rcases Nat.eq_zero_or_pos (splitCnt 1 data.size 100) with h3 | h3
    · rw [h3] at h1; omega
    · exact h3
  obtain ⟨c, hc⟩ : ∃ c, splitCnt 1 data.size 100 = c := ⟨_, rfl⟩
  obtain ⟨er, her⟩ : ∃ c, splitErr 1 data.size 100 = c := ⟨_, rfl⟩
  rw [hc, her] at hoks hse1
  rw [hc] at h32
  rw [hc, her]
  clear hc her
  by_cases h0 : er = 0
  rotate_left
  · repeat' (first | apply (zs1 ?_) | apply (zs2 ?_) | (apply zg1; first | refine zs3 ?_ | refine zs4 ?_) | (apply zg6; first | refine zs11 ?_ | refine zs12 ?_) | apply (zs13 ?_) | (apply zg7; (refine zs15 ?_ ?_ <;> intro _ <;> try (exfalso; omega))) | (apply zg8; (refine zs16 ?_ ?_ <;> intro _ <;> try (exfalso; omega))) | apply (zs65 ?_) | apply (zs68 ?_) | apply (zs69 ?_) | apply (zs70 ?_) | (apply zg27; refine zs71 ?_) | apply (zs74 ?_) | apply (zs77 ?_))
    apply VQ_ret1; exact rfl; exact rfl
    exact ⟨rfl, (by (intro w hw; refine hw.perm ?_; focus repeat (first | with_reducible exact Perm.refl _ | (with_reducible apply perm_take; focus ((repeat (first | with_reducible exact rem_here | with_reducible apply rem_there)); done)) | with_reducible apply Perm.dropK)))⟩
  subst h0
  have hc1 := hse1 rfl
  repeat' (first | (apply VL_peql0; exact rfl; exact rfl; kernel_rfl) | apply (zs1 ?_) | apply (zs2 ?_) | (apply zg1; refine zs4 ?_) | (apply zg3; refine zs8 ?_) | (apply zg4; refine zs9 ?_) | (apply zg6; refine zs12 ?_) | apply (zs13 ?_) | (apply zg7; (refine zs15 ?_ ?_ <;> intro _ <;> try (exfalso; omega))) | (apply zg8; (refine zs16 ?_ ?_ <;> intro _ <;> try (exfalso; omega))) | apply (zs65 ?_) | apply (zs68 ?_) | apply (zs69 ?_) | apply (zs70 ?_) | (apply zg27; refine zs72 ?_) | apply (zs73 ?_) | apply (zs76 ?_))
  refine VC_loop1 (fun (k : Nat) => [(81, .int .i64 k), (80, .agg #[.int .i64 a, .int .i64 b]), (11, .slice A2 1 cap2), (9, .slice A c cap), (7, .pointer (some ⟨r, 0, none⟩)), (5, .pointer (some ⟨g, 0, none⟩)), (1, .int .i64 hold)])
    (fun _ => sl 23 5 A2 1 cap2 (frs ((List.range 1).map (frOf 2 sx (Int.toNat 1) 1))) :: sl 23 5 A c cap (frs ((List.range c).map (frOf 1 data (Int.toNat 100) c))) :: blk r (rcells hold 0 mm) :: blk mm (mobj [] 0) :: many [] :: blk g (.cells #[.int .i64 a, .int .i64 b] 64 (0, 0)) :: H)
    (fun k => k ≤ 2 ∧ (1 ≤ k → 0 ≤ a ∧ a ≤ 10000) ∧ (2 ≤ k → 0 ≤ b ∧ b ≤ 10000)) (fun k => 2 - k) 0 ⟨by omega, by omega, by omega⟩ ?_ (fun w hw => hw) ?_
  · (repeat (first | exact sub_nil _ | (apply sub_cons; first | exact rfl | exact congrArg (fun z : Int => some (Value.int .i64 z)) (by omega))))
  rintro k ⟨hk, hka, hkb⟩ K hK
  by_cases hk2 : k < 2
  · obtain ⟨v, hv, hv0, hv1⟩ : ∃ v, (#[Value.int .i64 a, Value.int .i64 b])[(k : Int).toNat]? = some (.int .i64 v) ∧ (k = 0 → v = a) ∧ (k = 1 → v = b) := by
      rcases Nat.lt_or_ge k 1 with h | h
      · obtain rfl : k = 0 := by omega
        exact ⟨a, rfl, fun _ => rfl, fun h => by omega⟩
      · obtain rfl : k = 1 := by omega
        exact ⟨b, rfl, fun h => by omega, fun _ => rfl⟩
    repeat' (first | (apply VL_index_av T (v := .int .i64 v); exact rfl; exact rfl; exact rfl; exact rfl; kernel_rfl; omega; exact hv) | apply (zs1 ?_) | apply (zs2 ?_) | (apply zg1; first | refine zs3 ?_ | refine zs4 ?_) | (apply zg6; first | refine zs11 ?_ | refine zs12 ?_) | (apply (zs17 ?_ ?_) <;> intro _ <;> try (exfalso; omega)) | (apply (zs19 ?_ ?_) <;> intro _ <;> try (exfalso; omega)) | (apply zg13; refine zs30 ?_) | apply (zs65 ?_) | apply (zs68 ?_) | apply (zs69 ?_) | apply (zs70 ?_) | (apply zg27; first | refine zs71 ?_ | refine zs72 ?_) | apply (zs73 ?_) | apply (zs74 ?_) | apply (zs76 ?_) | apply (zs77 ?_) | apply (zs78 ?_) | apply (zs79 ?_))
    any_goals (apply VQ_ret1; exact rfl; exact rfl; exact ⟨rfl, (by (intro w hw; refine hw.perm ?_; focus repeat (first | with_reducible exact Perm.refl _ | (with_reducible apply perm_take; focus ((repeat (first | with_reducible exact rem_here | with_reducible apply rem_there)); done)) | with_reducible apply Perm.dropK)))⟩)
    · apply hK (k + 1)
      · refine ⟨by omega, fun _ => ?_, fun _ => ?_⟩
        · rcases Nat.eq_zero_or_pos k with h | h
          · have := hv0 h; omega
          · exact hka h
        · have := hv1 (by omega); omega
      · omega
      · (repeat (first | exact sub_nil _ | (apply sub_cons; first | exact rfl | exact congrArg (fun z : Int => some (Value.int .i64 z)) (by omega))))
      · exact fun w hw => hw
  clear hK
  have ha := hka (by omega)
  have hb := hkb (by omega)
  clear hka hkb
  obtain ⟨p1, p2, p3⟩ := hoks rfl (k := 0) (by omega)
  have hcel : ∀ i v, ([.int .i64 1, .int .i64 0, .int .i64 c, .int .i64 data.size, .string (piece data (Int.toNat 100) 0)] : List Value)[i]? = some v → (frs ((List.range c).map (frOf 1 data (Int.toNat 100) c)))[(0 : Int).toNat * 5 + i]? = some v := by
    intro i v hv
    have hi : i < 5 := by have := (List.getElem?_eq_some_iff.1 hv).1; simpa using this
    rw [show (0 : Int).toNat = 0 from rfl, frs_get _ 0 i hi, List.getElem?_map, List.getElem?_range (show 0 < c by omega)]
    exact hv
  have hcel2 : ∀ i v, ([.int .i64 2, .int .i64 0, .int .i64 1, .int .i64 1, .string sx] : List Value)[i]? = some v → (frs ((List.range 1).map (frOf 2 sx (Int.toNat 1) 1)))[(0 : Int).toNat * 5 + i]? = some v := by
    intro i v hv
    have hi : i < 5 := by have := (List.getElem?_eq_some_iff.1 hv).1; simpa using this
    rw [show (0 : Int).toNat = 0 from rfl, frs_get _ 0 i hi, List.getElem?_map, List.getElem?_range (show 0 < 1 by omega)]
    rw [← hv]
    show (frc (2, ((0 : Nat) : Int), 1, sx.size, piece sx (Int.toNat 1) 0))[i]? = _
    rw [sx_piece]
    rfl
  obtain ⟨p, hp⟩ : ∃ p, piece data (Int.toNat 100) 0 = p := ⟨_, rfl⟩
  rw [hp] at p1 p2 hcel
  clear hp
  repeat' (first | (apply VL_index_arr T; exact rfl; exact rfl; exact rfl; exact rfl; omega) | (apply VL_load_agg_sl T (vs := [.int .i64 1, .int .i64 0, .int .i64 c, .int .i64 data.size, .string p]); exact rfl; (focus repeat (first | with_reducible exact List.mem_cons_self | with_reducible apply List.mem_cons_of_mem | assumption)); exact rfl; exact rfl; exact rfl; decide; exact hcel) | apply (zs1 ?_) | apply (zs2 ?_) | (apply zg3; refine zs7 ?_) | (apply zg5; refine zs10 ?_) | (apply (zs17 ?_ ?_) <;> intro _ <;> try (exfalso; omega)) | apply (zs65 ?_) | apply (zs68 ?_) | apply (zs69 ?_) | apply (zs70 ?_) | (apply zg27; refine zs72 ?_) | apply (zs75 ?_) | apply (zs80 ?_) | apply (zs81 ?_))
  apply VL_callP [blk r _, blk mm _, many _] _ en22
  (repeat (first | exact args_nil | (apply args_cons; exact rfl)))
  (repeat (first | with_reducible exact pull_nil | (with_reducible apply pull_cons; (repeat (first | with_reducible exact rem_here | with_reducible apply rem_there)))))
  (repeat (first | with_reducible exact app_nil | with_reducible apply app_cons))
  exact rfl
  exact fun _ hw => (recv_new hold 0 mm r [] [] 0 a 1 c data.size p (by omega) p1 (by omega) (by omega) hh ⟨by simp, by simp, (fun d hd => (by cases hd))⟩ (fun d hd => (by cases hd)) rfl rfl (by simp) (by omega) hw)
  rintro _ _ ⟨g1, x1, rfl, rfl⟩
  have hO1 : OkD (newDg g1 0 1 c data.size (Fm.part 1 0 c data.size p.size)) := ⟨by simp [newDg], ⟨by show (1 : Int) ≤ c; omega, by show (c : Int) ≤ 32; omega⟩, by simp [newDg], fun x hx => by rw [(List.mem_replicate.1 hx).2]; decide⟩
  have hD1 : OkD (upd (newDg g1 0 1 c data.size (Fm.part 1 0 c data.size p.size)) a 0 p) := okd_upd hO1 (by omega) (by omega) (by omega)
  obtain ⟨d1, hd1⟩ : ∃ d, upd (newDg g1 0 1 c data.size (Fm.part 1 0 c data.size p.size)) a 0 p = d := ⟨_, rfl⟩
  have t1 : d1.tag = 1 := by rw [← hd1]; rfl
  have b1 : d1.born = 0 := by rw [← hd1]; rfl
  have l1 : d1.last = a := by rw [← hd1]; rfl
  rw [hd1] at hD1
  rw [hd1]
  have m1 : Maps [d1] 1 := ⟨by simp, by simp, one_all (P := fun d => d.born < 1) (by omega)⟩
  unfold rpcs
  have hall1 : ∀ d ∈ [d1], OkD d := one_all hD1
  by_cases hq : b ≤ hold
  · have hf1 : ([d1].filter fun d => !old hold (a + b) d) = [d1] := by simp [old, l1]; omega
    by_cases hcc : (c : Int) = 1
    · rw [show decide ((c : Int) = 1) = true by simp [hcc]]
      repeat' (first | (apply VL_index_arr T; exact rfl; exact rfl; exact rfl; exact rfl; omega) | (apply VL_load_agg_sl T (vs := [.int .i64 2, .int .i64 0, .int .i64 1, .int .i64 1, .string sx]); exact rfl; (focus repeat (first | with_reducible exact List.mem_cons_self | with_reducible apply List.mem_cons_of_mem | assumption)); exact rfl; exact rfl; exact rfl; decide; exact hcel2) | apply (zs1 ?_) | apply (zs2 ?_) | (apply zg1; refine zs4 ?_) | (apply zg3; refine zs7 ?_) | (apply zg4; refine zs9 ?_) | (apply zg5; refine zs10 ?_) | (apply zg6; refine zs12 ?_) | apply (zs13 ?_) | (apply zg7; (refine zs15 ?_ ?_ <;> intro _ <;> try (exfalso; omega))) | (apply zg8; first | (refine zs16 ?_ ?_ <;> intro _ <;> try (exfalso; omega)) | refine zs63 ?_) | (apply zg13; refine zs30 ?_) | apply (zs65 ?_) | apply (zs68 ?_) | apply (zs69 ?_) | apply (zs70 ?_) | (apply zg27; refine zs72 ?_) | apply (zs76 ?_))
      apply VL_callP [blk r _, blk mm _, many _] _ en22
      (repeat (first | exact args_nil | (apply args_cons; exact rfl)))
      (repeat (first | with_reducible exact pull_nil | (with_reducible apply pull_cons; (repeat (first | with_reducible exact rem_here | with_reducible apply rem_there)))))
      (repeat (first | with_reducible exact app_nil | with_reducible apply app_cons))
      exact rfl
      exact fun _ hw => (recv_new hold a mm r [d1] [d1] 1 (a + b) 2 1 1 sx (by decide) sx_part (by omega) (by omega) hh m1 hall1 hf1 (by simp [findD, t1]) (by simp) (by omega) hw)
      rintro _ _ ⟨g2, x2, rfl, rfl⟩
      have hO2 : OkD (newDg g2 1 2 1 1 (Fm.part 2 0 1 1 sx.size)) := ⟨by simp [newDg], ⟨by show (1 : Int) ≤ 1; omega, by show (1 : Int) ≤ 32; omega⟩, by simp [newDg], fun x hx => by rw [(List.mem_replicate.1 hx).2]; decide⟩
      have hD2 : OkD (upd (newDg g2 1 2 1 1 (Fm.part 2 0 1 1 sx.size)) (a + b) 0 sx) := okd_upd hO2 (by omega) (by omega) (by decide)
      obtain ⟨e2, he2⟩ : ∃ d, upd (newDg g2 1 2 1 1 (Fm.part 2 0 1 1 sx.size)) (a + b) 0 sx = d := ⟨_, rfl⟩
      have t2 : e2.tag = 2 := by rw [← he2]; rfl
      have b2 : e2.born = 1 := by rw [← he2]; rfl
      have l2 : e2.last = a + b := by rw [← he2]; rfl
      rw [he2] at hD2
      rw [he2]
      have m2 : Maps [d1, e2] 2 := ⟨by simp [t1, t2], by simp [b1, b2], two_lt (by omega) (by omega)⟩
      have hall2 : ∀ d ∈ [d1, e2], OkD d := two_all hD1 hD2
      have htag : ∀ d ∈ [d1, e2], 0 ≤ d.tag ∧ d.tag ≤ 255 := two_all (P := fun d => 0 ≤ d.tag ∧ d.tag ≤ 255) (by omega) (by omega)
      have hin1 : (1 : Int) ∈ tagsOf [d1, e2] := mem_tagsOf.2 (by simp [t1])
      have hf2 : ([d1, e2].filter fun d => !old hold (a + b) d) = [d1, e2] := by simp [old, l1, l2]; omega
      unfold rpcs
      repeat' (first | (apply VL_index_arr T; exact rfl; exact rfl; exact rfl; exact rfl; omega) | (apply VL_bneq; exact rfl; exact rfl; exact rfl; kernel_rfl) | apply (zs1 ?_) | apply (zs2 ?_) | apply (zs13 ?_) | (apply zg8; (refine zs16 ?_ ?_ <;> intro _ <;> try (exfalso; omega))) | apply (zs65 ?_) | apply (zs68 ?_) | apply (zs69 ?_) | apply (zs70 ?_) | (apply zg27; refine zs72 ?_) | apply (zs76 ?_))
      apply VL_callP [blk r _, blk mm _, many _] _ en23
      (repeat (first | exact args_nil | (apply args_cons; exact rfl)))
      (repeat (first | with_reducible exact pull_nil | (with_reducible apply pull_cons; (repeat (first | with_reducible exact rem_here | with_reducible apply rem_there)))))
      (repeat (first | with_reducible exact app_nil | with_reducible apply app_cons))
      exact rfl
      exact fun _ hw => (bitmap_spec hold (a + b) mm r [] d1 [e2] 2 1 (by simp [findD, t1]) hw)
      rintro _ _ ⟨rfl, rfl⟩
      unfold rpcs
      repeat' (first | (apply VL_index_arr T; exact rfl; exact rfl; exact rfl; exact rfl; omega) | (apply VL_bneq; exact rfl; exact rfl; exact rfl; kernel_rfl) | apply (zs1 ?_) | apply (zs2 ?_) | (apply zg1; refine zs4 ?_) | (apply zg3; refine zs7 ?_) | apply (zs13 ?_) | (apply zg7; (refine zs15 ?_ ?_ <;> intro _ <;> try (exfalso; omega))) | (apply (zs18 ?_ ?_) <;> intro _ <;> try (exfalso; omega)) | apply (zs65 ?_) | apply (zs68 ?_) | apply (zs69 ?_) | apply (zs70 ?_))
      apply VL_callP [blk r _, blk mm _, many _] _ en32
      (repeat (first | exact args_nil | (apply args_cons; exact rfl)))
      (repeat (first | with_reducible exact pull_nil | (with_reducible apply pull_cons; (repeat (first | with_reducible exact rem_here | with_reducible apply rem_there)))))
      (repeat (first | with_reducible exact app_nil | with_reducible apply app_cons))
      exact rfl
      exact fun _ hw => (tags_spec hold (a + b) mm r [d1, e2] 2 m2 (by simp) htag hw)
      rintro _ _ ⟨A3, cap3, rfl, rfl⟩
      unfold rpcs
      repeat' (first | (apply zg1; refine zs4 ?_))
      first | apply VL_callt en34 | apply VL_callq en34
      (repeat (first | exact args_nil | (apply args_cons; exact rfl)))
      exact rfl
      exact fun _ hw => (calls_val (congrArg Value.bool (decide_eq_true hin1)) (fun _ hw => contains_ints (tagsOf [d1, e2]) 1 (by rw [tagsOf_len]; simp) (by rw [flat_num]; exact Rd.sl (by (focus repeat (first | with_reducible exact List.mem_cons_self | with_reducible apply List.mem_cons_of_mem | assumption)))) hw) hw)
      repeat' (first | (apply VL_index_arr T; exact rfl; exact rfl; exact rfl; exact rfl; omega) | (apply VL_bneq; exact rfl; exact rfl; exact rfl; kernel_rfl) | (apply VL_load_agg_sl T (vs := [.int .i64 1, .int .i64 0, .int .i64 c, .int .i64 data.size, .string p]); exact rfl; (focus repeat (first | with_reducible exact List.mem_cons_self | with_reducible apply List.mem_cons_of_mem | assumption)); exact rfl; exact rfl; exact rfl; decide; exact hcel) | apply (zs1 ?_) | (apply zg1; refine zs4 ?_) | (apply zg5; refine zs10 ?_) | (apply zg6; refine zs12 ?_) | (apply zg7; (refine zs15 ?_ ?_ <;> intro _ <;> try (exfalso; omega))) | apply (zs65 ?_) | apply (zs68 ?_) | apply (zs69 ?_) | apply (zs70 ?_) | (apply zg27; refine zs72 ?_) | apply (zs76 ?_))
      apply VL_callP [blk r _, blk mm _, many _] _ en22
      (repeat (first | exact args_nil | (apply args_cons; exact rfl)))
      (repeat (first | with_reducible exact pull_nil | (with_reducible apply pull_cons; (repeat (first | with_reducible exact rem_here | with_reducible apply rem_there)))))
      (repeat (first | with_reducible exact app_nil | with_reducible apply app_cons))
      exact rfl
      exact fun _ hw => (recv_again hold (a + b) mm r [d1, e2] [d1, e2] 2 (a + b) a 1 c data.size g1 0 p (by omega) p1 (by omega) (by omega) hh m2 hall2 hf2 (by rw [hd1]; simp [findD, t1]) (by omega) hw)
      rintro _ _ ⟨ds3, ck3, rfl, rfl⟩
      unfold rpcs
      repeat' (first | (apply VL_index_arr T; exact rfl; exact rfl; exact rfl; exact rfl; omega) | (apply VL_beql; exact rfl; exact rfl; exact rfl; kernel_rfl) | apply (zs1 ?_) | apply (zs2 ?_) | (apply zg1; refine zs4 ?_) | (apply zg3; refine zs7 ?_) | (apply zg4; refine zs9 ?_) | (apply zg6; refine zs11 ?_) | apply (zs13 ?_) | (apply zg7; (refine zs15 ?_ ?_ <;> intro _ <;> try (exfalso; omega))) | (apply (zs19 ?_ ?_) <;> intro _ <;> try (exfalso; omega)) | apply (zs65 ?_) | apply (zs68 ?_) | apply (zs69 ?_) | apply (zs70 ?_) | apply (zs74 ?_))
      apply VQ_ret1; exact rfl; exact rfl
      exact ⟨rfl, (by (intro w hw; refine hw.perm ?_; focus repeat (first | with_reducible exact Perm.refl _ | (with_reducible apply perm_take; focus ((repeat (first | with_reducible exact rem_here | with_reducible apply rem_there)); done)) | with_reducible apply Perm.dropK)))⟩
    · rw [show decide ((c : Int) = 1) = false by simp [hcc]]
      repeat' (first | (apply VL_index_arr T; exact rfl; exact rfl; exact rfl; exact rfl; omega) | (apply VL_load_agg_sl T (vs := [.int .i64 2, .int .i64 0, .int .i64 1, .int .i64 1, .string sx]); exact rfl; (focus repeat (first | with_reducible exact List.mem_cons_self | with_reducible apply List.mem_cons_of_mem | assumption)); exact rfl; exact rfl; exact rfl; decide; exact hcel2) | apply (zs1 ?_) | apply (zs2 ?_) | (apply zg1; refine zs4 ?_) | (apply zg3; refine zs7 ?_) | (apply zg4; refine zs9 ?_) | (apply zg5; refine zs10 ?_) | (apply zg6; refine zs12 ?_) | apply (zs13 ?_) | (apply zg7; (refine zs15 ?_ ?_ <;> intro _ <;> try (exfalso; omega))) | (apply zg8; first | (refine zs16 ?_ ?_ <;> intro _ <;> try (exfalso; omega)) | refine zs63 ?_) | (apply zg13; refine zs30 ?_) | apply (zs65 ?_) | apply (zs68 ?_) | apply (zs69 ?_) | apply (zs70 ?_) | (apply zg27; refine zs72 ?_) | apply (zs76 ?_))
      apply VL_callP [blk r _, blk mm _, many _] _ en22
      (repeat (first | exact args_nil | (apply args_cons; exact rfl)))
      (repeat (first | with_reducible exact pull_nil | (with_reducible apply pull_cons; (repeat (first | with_reducible exact rem_here | with_reducible apply rem_there)))))
      (repeat (first | with_reducible exact app_nil | with_reducible apply app_cons))
      exact rfl
      exact fun _ hw => (recv_new hold a mm r [d1] [d1] 1 (a + b) 2 1 1 sx (by decide) sx_part (by omega) (by omega) hh m1 hall1 hf1 (by simp [findD, t1]) (by simp) (by omega) hw)
      rintro _ _ ⟨g2, x2, rfl, rfl⟩
      have hO2 : OkD (newDg g2 1 2 1 1 (Fm.part 2 0 1 1 sx.size)) := ⟨by simp [newDg], ⟨by show (1 : Int) ≤ 1; omega, by show (1 : Int) ≤ 32; omega⟩, by simp [newDg], fun x hx => by rw [(List.mem_replicate.1 hx).2]; decide⟩
      have hD2 : OkD (upd (newDg g2 1 2 1 1 (Fm.part 2 0 1 1 sx.size)) (a + b) 0 sx) := okd_upd hO2 (by omega) (by omega) (by decide)
      obtain ⟨e2, he2⟩ : ∃ d, upd (newDg g2 1 2 1 1 (Fm.part 2 0 1 1 sx.size)) (a + b) 0 sx = d := ⟨_, rfl⟩
      have t2 : e2.tag = 2 := by rw [← he2]; rfl
      have b2 : e2.born = 1 := by rw [← he2]; rfl
      have l2 : e2.last = a + b := by rw [← he2]; rfl
      rw [he2] at hD2
      rw [he2]
      have m2 : Maps [d1, e2] 2 := ⟨by simp [t1, t2], by simp [b1, b2], two_lt (by omega) (by omega)⟩
      have hall2 : ∀ d ∈ [d1, e2], OkD d := two_all hD1 hD2
      have htag : ∀ d ∈ [d1, e2], 0 ≤ d.tag ∧ d.tag ≤ 255 := two_all (P := fun d => 0 ≤ d.tag ∧ d.tag ≤ 255) (by omega) (by omega)
      have hin1 : (1 : Int) ∈ tagsOf [d1, e2] := mem_tagsOf.2 (by simp [t1])
      have hf2 : ([d1, e2].filter fun d => !old hold (a + b) d) = [d1, e2] := by simp [old, l1, l2]; omega
      unfold rpcs
      repeat' (first | (apply VL_index_arr T; exact rfl; exact rfl; exact rfl; exact rfl; omega) | (apply VL_bneq; exact rfl; exact rfl; exact rfl; kernel_rfl) | apply (zs1 ?_) | apply (zs2 ?_) | apply (zs13 ?_) | (apply zg8; (refine zs16 ?_ ?_ <;> intro _ <;> try (exfalso; omega))) | apply (zs65 ?_) | apply (zs68 ?_) | apply (zs69 ?_) | apply (zs70 ?_) | (apply zg27; refine zs72 ?_) | apply (zs76 ?_))
      apply VL_callP [blk r _, blk mm _, many _] _ en23
      (repeat (first | exact args_nil | (apply args_cons; exact rfl)))
      (repeat (first | with_reducible exact pull_nil | (with_reducible apply pull_cons; (repeat (first | with_reducible exact rem_here | with_reducible apply rem_there)))))
      (repeat (first | with_reducible exact app_nil | with_reducible apply app_cons))
      exact rfl
      exact fun _ hw => (bitmap_spec hold (a + b) mm r [] d1 [e2] 2 1 (by simp [findD, t1]) hw)
      rintro _ _ ⟨rfl, rfl⟩
      unfold rpcs
      repeat' (first | (apply VL_index_arr T; exact rfl; exact rfl; exact rfl; exact rfl; omega) | (apply VL_bneq; exact rfl; exact rfl; exact rfl; kernel_rfl) | apply (zs1 ?_) | apply (zs2 ?_) | (apply zg1; refine zs4 ?_) | (apply zg3; refine zs7 ?_) | apply (zs13 ?_) | (apply zg7; (refine zs15 ?_ ?_ <;> intro _ <;> try (exfalso; omega))) | (apply (zs18 ?_ ?_) <;> intro _ <;> try (exfalso; omega)) | apply (zs65 ?_) | apply (zs68 ?_) | apply (zs69 ?_) | apply (zs70 ?_))
      apply VL_callP [blk r _, blk mm _, many _] _ en32
      (repeat (first | exact args_nil | (apply args_cons; exact rfl)))
      (repeat (first | with_reducible exact pull_nil | (with_reducible apply pull_cons; (repeat (first | with_reducible exact rem_here | with_reducible apply rem_there)))))
      (repeat (first | with_reducible exact app_nil | with_reducible apply app_cons))
      exact rfl
      exact fun _ hw => (tags_spec hold (a + b) mm r [d1, e2] 2 m2 (by simp) htag hw)
      rintro _ _ ⟨A3, cap3, rfl, rfl⟩
      unfold rpcs
      repeat' (first | (apply zg1; refine zs4 ?_))
      first | apply VL_callt en34 | apply VL_callq en34
      (repeat (first | exact args_nil | (apply args_cons; exact rfl)))
      exact rfl
      exact fun _ hw => (calls_val (congrArg Value.bool (decide_eq_true hin1)) (fun _ hw => contains_ints (tagsOf [d1, e2]) 1 (by rw [tagsOf_len]; simp) (by rw [flat_num]; exact Rd.sl (by (focus repeat (first | with_reducible exact List.mem_cons_self | with_reducible apply List.mem_cons_of_mem | assumption)))) hw) hw)
      repeat' (first | (apply VL_index_arr T; exact rfl; exact rfl; exact rfl; exact rfl; omega) | (apply VL_bneq; exact rfl; exact rfl; exact rfl; kernel_rfl) | (apply VL_load_agg_sl T (vs := [.int .i64 1, .int .i64 0, .int .i64 c, .int .i64 data.size, .string p]); exact rfl; (focus repeat (first | with_reducible exact List.mem_cons_self | with_reducible apply List.mem_cons_of_mem | assumption)); exact rfl; exact rfl; exact rfl; decide; exact hcel) | apply (zs1 ?_) | (apply zg1; refine zs4 ?_) | (apply zg5; refine zs10 ?_) | (apply zg6; refine zs12 ?_) | (apply zg7; (refine zs15 ?_ ?_ <;> intro _ <;> try (exfalso; omega))) | apply (zs65 ?_) | apply (zs68 ?_) | apply (zs69 ?_) | apply (zs70 ?_) | (apply zg27; refine zs72 ?_) | apply (zs76 ?_))
      apply VL_callP [blk r _, blk mm _, many _] _ en22
      (repeat (first | exact args_nil | (apply args_cons; exact rfl)))
      (repeat (first | with_reducible exact pull_nil | (with_reducible apply pull_cons; (repeat (first | with_reducible exact rem_here | with_reducible apply rem_there)))))
      (repeat (first | with_reducible exact app_nil | with_reducible apply app_cons))
      exact rfl
      exact fun _ hw => (recv_again hold (a + b) mm r [d1, e2] [d1, e2] 2 (a + b) a 1 c data.size g1 0 p (by omega) p1 (by omega) (by omega) hh m2 hall2 hf2 (by rw [hd1]; simp [findD, t1]) (by omega) hw)
      rintro _ _ ⟨ds3, ck3, rfl, rfl⟩
      unfold rpcs
      repeat' (first | (apply VL_index_arr T; exact rfl; exact rfl; exact rfl; exact rfl; omega) | (apply VL_beql; exact rfl; exact rfl; exact rfl; kernel_rfl) | apply (zs1 ?_) | apply (zs2 ?_) | (apply zg1; first | refine zs3 ?_ | refine zs4 ?_) | (apply zg4; refine zs9 ?_) | (apply zg6; first | refine zs11 ?_ | refine zs12 ?_) | apply (zs13 ?_) | (apply zg7; (refine zs15 ?_ ?_ <;> intro _ <;> try (exfalso; omega))) | apply (zs65 ?_) | apply (zs68 ?_) | apply (zs69 ?_) | apply (zs70 ?_) | apply (zs74 ?_))
      apply VQ_ret1; exact rfl; exact rfl
      exact ⟨rfl, (by (intro w hw; refine hw.perm ?_; focus repeat (first | with_reducible exact Perm.refl _ | (with_reducible apply perm_take; focus ((repeat (first | with_reducible exact rem_here | with_reducible apply rem_there)); done)) | with_reducible apply Perm.dropK)))⟩
  · have hf1 : ([d1].filter fun d => !old hold (a + b) d) = [] := by simp [old, l1]; omega
    by_cases hcc : (c : Int) = 1
    · rw [show decide ((c : Int) = 1) = true by simp [hcc]]
      repeat' (first | (apply VL_index_arr T; exact rfl; exact rfl; exact rfl; exact rfl; omega) | (apply VL_load_agg_sl T (vs := [.int .i64 2, .int .i64 0, .int .i64 1, .int .i64 1, .string sx]); exact rfl; (focus repeat (first | with_reducible exact List.mem_cons_self | with_reducible apply List.mem_cons_of_mem | assumption)); exact rfl; exact rfl; exact rfl; decide; exact hcel2) | apply (zs1 ?_) | apply (zs2 ?_) | (apply zg1; refine zs4 ?_) | (apply zg3; refine zs7 ?_) | (apply zg4; refine zs9 ?_) | (apply zg5; refine zs10 ?_) | (apply zg6; refine zs12 ?_) | apply (zs13 ?_) | (apply zg7; (refine zs15 ?_ ?_ <;> intro _ <;> try (exfalso; omega))) | (apply zg8; first | (refine zs16 ?_ ?_ <;> intro _ <;> try (exfalso; omega)) | refine zs63 ?_) | (apply zg13; refine zs30 ?_) | apply (zs65 ?_) | apply (zs68 ?_) | apply (zs69 ?_) | apply (zs70 ?_) | (apply zg27; refine zs72 ?_) | apply (zs76 ?_))
      apply VL_callP [blk r _, blk mm _, many _] _ en22
      (repeat (first | exact args_nil | (apply args_cons; exact rfl)))
      (repeat (first | with_reducible exact pull_nil | (with_reducible apply pull_cons; (repeat (first | with_reducible exact rem_here | with_reducible apply rem_there)))))
      (repeat (first | with_reducible exact app_nil | with_reducible apply app_cons))
      exact rfl
      exact fun _ hw => (recv_new hold a mm r [d1] [] 1 (a + b) 2 1 1 sx (by decide) sx_part (by omega) (by omega) hh m1 hall1 hf1 (rfl) (by simp) (by omega) hw)
      rintro _ _ ⟨g2, x2, rfl, rfl⟩
      have hO2 : OkD (newDg g2 1 2 1 1 (Fm.part 2 0 1 1 sx.size)) := ⟨by simp [newDg], ⟨by show (1 : Int) ≤ 1; omega, by show (1 : Int) ≤ 32; omega⟩, by simp [newDg], fun x hx => by rw [(List.mem_replicate.1 hx).2]; decide⟩
      have hD2 : OkD (upd (newDg g2 1 2 1 1 (Fm.part 2 0 1 1 sx.size)) (a + b) 0 sx) := okd_upd hO2 (by omega) (by omega) (by decide)
      obtain ⟨e2, he2⟩ : ∃ d, upd (newDg g2 1 2 1 1 (Fm.part 2 0 1 1 sx.size)) (a + b) 0 sx = d := ⟨_, rfl⟩
      have t2 : e2.tag = 2 := by rw [← he2]; rfl
      have b2 : e2.born = 1 := by rw [← he2]; rfl
      have l2 : e2.last = a + b := by rw [← he2]; rfl
      rw [he2] at hD2
      rw [he2]
      have m2 : Maps [e2] 2 := ⟨by simp, by simp, one_all (P := fun d => d.born < 2) (by omega)⟩
      have hall2 : ∀ d ∈ [e2], OkD d := one_all hD2
      have htag : ∀ d ∈ [e2], 0 ≤ d.tag ∧ d.tag ≤ 255 := one_all (P := fun d => 0 ≤ d.tag ∧ d.tag ≤ 255) (by omega)
      have hin1 : (1 : Int) ∉ tagsOf [e2] := fun h => by have := mem_tagsOf.1 h; simp [t2] at this
      have hf2 : ([e2].filter fun d => !old hold (a + b) d) = [e2] := by simp [old, l2]; omega
      unfold rpcs
      repeat' (first | (apply VL_index_arr T; exact rfl; exact rfl; exact rfl; exact rfl; omega) | (apply VL_bneq; exact rfl; exact rfl; exact rfl; kernel_rfl) | apply (zs1 ?_) | apply (zs2 ?_) | apply (zs13 ?_) | (apply zg8; (refine zs16 ?_ ?_ <;> intro _ <;> try (exfalso; omega))) | apply (zs65 ?_) | apply (zs68 ?_) | apply (zs69 ?_) | apply (zs70 ?_) | (apply zg27; refine zs72 ?_) | apply (zs76 ?_))
      apply VL_callP [blk r _, blk mm _, many _] _ en23
      (repeat (first | exact args_nil | (apply args_cons; exact rfl)))
      (repeat (first | with_reducible exact pull_nil | (with_reducible apply pull_cons; (repeat (first | with_reducible exact rem_here | with_reducible apply rem_there)))))
      (repeat (first | with_reducible exact app_nil | with_reducible apply app_cons))
      exact rfl
      exact fun _ hw => (bitmap_none hold (a + b) mm r [e2] 2 1 (by simp [findD, t2]) hw)
      rintro _ _ ⟨rfl, rfl⟩
      unfold rpcs
      repeat' (first | (apply VL_index_arr T; exact rfl; exact rfl; exact rfl; exact rfl; omega) | (apply VL_bneq; exact rfl; exact rfl; exact rfl; kernel_rfl) | apply (zs1 ?_) | apply (zs2 ?_) | (apply zg1; refine zs4 ?_) | (apply zg3; refine zs7 ?_) | apply (zs13 ?_) | (apply zg7; (refine zs15 ?_ ?_ <;> intro _ <;> try (exfalso; omega))) | (apply (zs18 ?_ ?_) <;> intro _ <;> try (exfalso; omega)) | apply (zs65 ?_) | apply (zs68 ?_) | apply (zs69 ?_) | apply (zs70 ?_))
      apply VL_callP [blk r _, blk mm _, many _] _ en32
      (repeat (first | exact args_nil | (apply args_cons; exact rfl)))
      (repeat (first | with_reducible exact pull_nil | (with_reducible apply pull_cons; (repeat (first | with_reducible exact rem_here | with_reducible apply rem_there)))))
      (repeat (first | with_reducible exact app_nil | with_reducible apply app_cons))
      exact rfl
      exact fun _ hw => (tags_spec hold (a + b) mm r [e2] 2 m2 (by simp) htag hw)
      rintro _ _ ⟨A3, cap3, rfl, rfl⟩
      unfold rpcs
      repeat' (first | (apply zg1; refine zs4 ?_))
      first | apply VL_callt en34 | apply VL_callq en34
      (repeat (first | exact args_nil | (apply args_cons; exact rfl)))
      exact rfl
      exact fun _ hw => (calls_val (congrArg Value.bool (decide_eq_false hin1)) (fun _ hw => contains_ints (tagsOf [e2]) 1 (by rw [tagsOf_len]; simp) (by rw [flat_num]; exact Rd.sl (by (focus repeat (first | with_reducible exact List.mem_cons_self | with_reducible apply List.mem_cons_of_mem | assumption)))) hw) hw)
      repeat' (first | (apply VL_index_arr T; exact rfl; exact rfl; exact rfl; exact rfl; omega) | (apply VL_bneq; exact rfl; exact rfl; exact rfl; kernel_rfl) | (apply VL_load_agg_sl T (vs := [.int .i64 1, .int .i64 0, .int .i64 c, .int .i64 data.size, .string p]); exact rfl; (focus repeat (first | with_reducible exact List.mem_cons_self | with_reducible apply List.mem_cons_of_mem | assumption)); exact rfl; exact rfl; exact rfl; decide; exact hcel) | apply (zs1 ?_) | (apply zg1; refine zs4 ?_) | (apply zg5; refine zs10 ?_) | (apply zg6; refine zs12 ?_) | (apply zg7; (refine zs15 ?_ ?_ <;> intro _ <;> try (exfalso; omega))) | apply (zs65 ?_) | apply (zs68 ?_) | apply (zs69 ?_) | apply (zs70 ?_) | (apply zg27; refine zs72 ?_) | apply (zs76 ?_))
      apply VL_callP [blk r _, blk mm _, many _] _ en22
      (repeat (first | exact args_nil | (apply args_cons; exact rfl)))
      (repeat (first | with_reducible exact pull_nil | (with_reducible apply pull_cons; (repeat (first | with_reducible exact rem_here | with_reducible apply rem_there)))))
      (repeat (first | with_reducible exact app_nil | with_reducible apply app_cons))
      exact rfl
      exact fun _ hw => (recv_new hold (a + b) mm r [e2] [e2] 2 (a + b) 1 c data.size p (by omega) p1 (by omega) (by omega) hh m2 hall2 hf2 (by simp [findD, t2]) (by simp) (by omega) hw)
      rintro _ _ ⟨g4, x4, rfl, rfl⟩
      rw [show decide ((c : Int) = 1) = true by simp [hcc]]
      unfold rpcs
      repeat' (first | (apply VL_index_arr T; exact rfl; exact rfl; exact rfl; exact rfl; omega) | (apply VL_beql; exact rfl; exact rfl; exact rfl; kernel_rfl) | apply (zs1 ?_) | apply (zs2 ?_) | (apply zg1; refine zs4 ?_) | (apply zg3; refine zs7 ?_) | (apply zg4; refine zs9 ?_) | (apply zg6; refine zs11 ?_) | apply (zs13 ?_) | (apply zg7; (refine zs15 ?_ ?_ <;> intro _ <;> try (exfalso; omega))) | (apply (zs19 ?_ ?_) <;> intro _ <;> try (exfalso; omega)) | apply (zs65 ?_) | apply (zs68 ?_) | apply (zs69 ?_) | apply (zs70 ?_) | apply (zs74 ?_))
      apply VQ_ret1; exact rfl; exact rfl
      exact ⟨rfl, (by (intro w hw; refine hw.perm ?_; focus repeat (first | with_reducible exact Perm.refl _ | (with_reducible apply perm_take; focus ((repeat (first | with_reducible exact rem_here | with_reducible apply rem_there)); done)) | with_reducible apply Perm.dropK)))⟩
    · rw [show decide ((c : Int) = 1) = false by simp [hcc]]
      repeat' (first | (apply VL_index_arr T; exact rfl; exact rfl; exact rfl; exact rfl; omega) | (apply VL_load_agg_sl T (vs := [.int .i64 2, .int .i64 0, .int .i64 1, .int .i64 1, .string sx]); exact rfl; (focus repeat (first | with_reducible exact List.mem_cons_self | with_reducible apply List.mem_cons_of_mem | assumption)); exact rfl; exact rfl; exact rfl; decide; exact hcel2) | apply (zs1 ?_) | apply (zs2 ?_) | (apply zg1; refine zs4 ?_) | (apply zg3; refine zs7 ?_) | (apply zg4; refine zs9 ?_) | (apply zg5; refine zs10 ?_) | (apply zg6; refine zs12 ?_) | apply (zs13 ?_) | (apply zg7; (refine zs15 ?_ ?_ <;> intro _ <;> try (exfalso; omega))) | (apply zg8; first | (refine zs16 ?_ ?_ <;> intro _ <;> try (exfalso; omega)) | refine zs63 ?_) | (apply zg13; refine zs30 ?_) | apply (zs65 ?_) | apply (zs68 ?_) | apply (zs69 ?_) | apply (zs70 ?_) | (apply zg27; refine zs72 ?_) | apply (zs76 ?_))
      apply VL_callP [blk r _, blk mm _, many _] _ en22
      (repeat (first | exact args_nil | (apply args_cons; exact rfl)))
      (repeat (first | with_reducible exact pull_nil | (with_reducible apply pull_cons; (repeat (first | with_reducible exact rem_here | with_reducible apply rem_there)))))
      (repeat (first | with_reducible exact app_nil | with_reducible apply app_cons))
      exact rfl
      exact fun _ hw => (recv_new hold a mm r [d1] [] 1 (a + b) 2 1 1 sx (by decide) sx_part (by omega) (by omega) hh m1 hall1 hf1 (rfl) (by simp) (by omega) hw)
      rintro _ _ ⟨g2, x2, rfl, rfl⟩
      have hO2 : OkD (newDg g2 1 2 1 1 (Fm.part 2 0 1 1 sx.size)) := ⟨by simp [newDg], ⟨by show (1 : Int) ≤ 1; omega, by show (1 : Int) ≤ 32; omega⟩, by simp [newDg], fun x hx => by rw [(List.mem_replicate.1 hx).2]; decide⟩
      have hD2 : OkD (upd (newDg g2 1 2 1 1 (Fm.part 2 0 1 1 sx.size)) (a + b) 0 sx) := okd_upd hO2 (by omega) (by omega) (by decide)
      obtain ⟨e2, he2⟩ : ∃ d, upd (newDg g2 1 2 1 1 (Fm.part 2 0 1 1 sx.size)) (a + b) 0 sx = d := ⟨_, rfl⟩
      have t2 : e2.tag = 2 := by rw [← he2]; rfl
      have b2 : e2.born = 1 := by rw [← he2]; rfl
      have l2 : e2.last = a + b := by rw [← he2]; rfl
      rw [he2] at hD2
      rw [he2]
      have m2 : Maps [e2] 2 := ⟨by simp, by simp, one_all (P := fun d => d.born < 2) (by omega)⟩
      have hall2 : ∀ d ∈ [e2], OkD d := one_all hD2
      have htag : ∀ d ∈ [e2], 0 ≤ d.tag ∧ d.tag ≤ 255 := one_all (P := fun d => 0 ≤ d.tag ∧ d.tag ≤ 255) (by omega)
      have hin1 : (1 : Int) ∉ tagsOf [e2] := fun h => by have := mem_tagsOf.1 h; simp [t2] at this
      have hf2 : ([e2].filter fun d => !old hold (a + b) d) = [e2] := by simp [old, l2]; omega
      unfold rpcs
      repeat' (first | (apply VL_index_arr T; exact rfl; exact rfl; exact rfl; exact rfl; omega) | (apply VL_bneq; exact rfl; exact rfl; exact rfl; kernel_rfl) | apply (zs1 ?_) | apply (zs2 ?_) | apply (zs13 ?_) | (apply zg8; (refine zs16 ?_ ?_ <;> intro _ <;> try (exfalso; omega))) | apply (zs65 ?_) | apply (zs68 ?_) | apply (zs69 ?_) | apply (zs70 ?_) | (apply zg27; refine zs72 ?_) | apply (zs76 ?_))
      apply VL_callP [blk r _, blk mm _, many _] _ en23
      (repeat (first | exact args_nil | (apply args_cons; exact rfl)))
      (repeat (first | with_reducible exact pull_nil | (with_reducible apply pull_cons; (repeat (first | with_reducible exact rem_here | with_reducible apply rem_there)))))
      (repeat (first | with_reducible exact app_nil | with_reducible apply app_cons))
      exact rfl
      exact fun _ hw => (bitmap_none hold (a + b) mm r [e2] 2 1 (by simp [findD, t2]) hw)
      rintro _ _ ⟨rfl, rfl⟩
      unfold rpcs
      repeat' (first | (apply VL_index_arr T; exact rfl; exact rfl; exact rfl; exact rfl; omega) | (apply VL_bneq; exact rfl; exact rfl; exact rfl; kernel_rfl) | apply (zs1 ?_) | apply (zs2 ?_) | (apply zg1; refine zs4 ?_) | (apply zg3; refine zs7 ?_) | apply (zs13 ?_) | (apply zg7; (refine zs15 ?_ ?_ <;> intro _ <;> try (exfalso; omega))) | (apply (zs18 ?_ ?_) <;> intro _ <;> try (exfalso; omega)) | apply (zs65 ?_) | apply (zs68 ?_) | apply (zs69 ?_) | apply (zs70 ?_))
      apply VL_callP [blk r _, blk mm _, many _] _ en32
      (repeat (first | exact args_nil | (apply args_cons; exact rfl)))
      (repeat (first | with_reducible exact pull_nil | (with_reducible apply pull_cons; (repeat (first | with_reducible exact rem_here | with_reducible apply rem_there)))))
      (repeat (first | with_reducible exact app_nil | with_reducible apply app_cons))
      exact rfl
      exact fun _ hw => (tags_spec hold (a + b) mm r [e2] 2 m2 (by simp) htag hw)
      rintro _ _ ⟨A3, cap3, rfl, rfl⟩
      unfold rpcs
      repeat' (first | (apply zg1; refine zs4 ?_))
      first | apply VL_callt en34 | apply VL_callq en34
      (repeat (first | exact args_nil | (apply args_cons; exact rfl)))
      exact rfl
      exact fun _ hw => (calls_val (congrArg Value.bool (decide_eq_false hin1)) (fun _ hw => contains_ints (tagsOf [e2]) 1 (by rw [tagsOf_len]; simp) (by rw [flat_num]; exact Rd.sl (by (focus repeat (first | with_reducible exact List.mem_cons_self | with_reducible apply List.mem_cons_of_mem | assumption)))) hw) hw)
      repeat' (first | (apply VL_index_arr T; exact rfl; exact rfl; exact rfl; exact rfl; omega) | (apply VL_bneq; exact rfl; exact rfl; exact rfl; kernel_rfl) | (apply VL_load_agg_sl T (vs := [.int .i64 1, .int .i64 0, .int .i64 c, .int .i64 data.size, .string p]); exact rfl; (focus repeat (first | with_reducible exact List.mem_cons_self | with_reducible apply List.mem_cons_of_mem | assumption)); exact rfl; exact rfl; exact rfl; decide; exact hcel) | apply (zs1 ?_) | (apply zg1; refine zs4 ?_) | (apply zg5; refine zs10 ?_) | (apply zg6; refine zs12 ?_) | (apply zg7; (refine zs15 ?_ ?_ <;> intro _ <;> try (exfalso; omega))) | apply (zs65 ?_) | apply (zs68 ?_) | apply (zs69 ?_) | apply (zs70 ?_) | (apply zg27; refine zs72 ?_) | apply (zs76 ?_))
      apply VL_callP [blk r _, blk mm _, many _] _ en22
      (repeat (first | exact args_nil | (apply args_cons; exact rfl)))
      (repeat (first | with_reducible exact pull_nil | (with_reducible apply pull_cons; (repeat (first | with_reducible exact rem_here | with_reducible apply rem_there)))))
      (repeat (first | with_reducible exact app_nil | with_reducible apply app_cons))
      exact rfl
      exact fun _ hw => (recv_new hold (a + b) mm r [e2] [e2] 2 (a + b) 1 c data.size p (by omega) p1 (by omega) (by omega) hh m2 hall2 hf2 (by simp [findD, t2]) (by simp) (by omega) hw)
      rintro _ _ ⟨g4, x4, rfl, rfl⟩
      rw [show decide ((c : Int) = 1) = false by simp [hcc]]
      unfold rpcs
      repeat' (first | (apply VL_index_arr T; exact rfl; exact rfl; exact rfl; exact rfl; omega) | (apply VL_beql; exact rfl; exact rfl; exact rfl; kernel_rfl) | apply (zs1 ?_) | apply (zs2 ?_) | (apply zg1; first | refine zs3 ?_ | refine zs4 ?_) | (apply zg4; refine zs9 ?_) | (apply zg6; first | refine zs11 ?_ | refine zs12 ?_) | apply (zs13 ?_) | (apply zg7; (refine zs15 ?_ ?_ <;> intro _ <;> try (exfalso; omega))) | apply (zs65 ?_) | apply (zs68 ?_) | apply (zs69 ?_) | apply (zs70 ?_) | apply (zs74 ?_))
      apply VQ_ret1; exact rfl; exact rfl
      exact ⟨rfl, (by (intro w hw; refine hw.perm ?_; focus repeat (first | with_reducible exact Perm.refl _ | (with_reducible apply perm_take; focus ((repeat (first | with_reducible exact rem_here | with_reducible apply rem_there)); done)) | with_reducible apply Perm.dropK)))⟩
end Go.Proofs.Ytfobgjhjigkigaa
