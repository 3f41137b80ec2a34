/- Walk: the statement FragmentSplits. -/
import Derived.Test.YtfobgjhjigkigaaFw11
namespace Go.Proofs.Ytfobgjhjigkigaa
open Go.RowKit Go.Eng

theorem splitErr_cnt {tag most : Int} {size : Nat} (h : splitErr tag size most = 0) : (0 ≤ tag ∧ tag ≤ 255) ∧ (1 ≤ most ∧ most ≤ 120) ∧ size ≠ 0 ∧ size ≤ 4095 ∧ (size + most - 1) / most ≤ 32 := by
  unfold splitErr at h
  by_cases h1 : tag < 0; · rw [if_pos h1] at h; cases h
  rw [if_neg h1] at h
  by_cases h2 : 255 < tag; · rw [if_pos h2] at h; cases h
  rw [if_neg h2] at h
  by_cases h3 : most < 1; · rw [if_pos h3] at h; cases h
  rw [if_neg h3] at h
  by_cases h4 : 120 < most; · rw [if_pos h4] at h; cases h
  rw [if_neg h4] at h
  by_cases h5 : size = 0; · rw [if_pos h5] at h; cases h
  rw [if_neg h5] at h
  by_cases h6 : 4095 < size; · rw [if_pos h6] at h; cases h
  rw [if_neg h6] at h
  by_cases h7 : 32 < (size + most - 1) / most; · rw [if_pos h7] at h; cases h
  omega
theorem splitCnt_le (tag : Int) (size : Nat) (most : Int) : splitCnt tag size most ≤ 32 := by
  unfold splitCnt
  by_cases h : splitErr tag size most = 0
  · rw [if_pos h]; have := (splitErr_cnt h).2.2.2.2; omega
  · rw [if_neg h]; omega
theorem missErr_ok {cnt bm : Int} (h : missErr cnt bm = 0) : (1 ≤ cnt ∧ cnt ≤ 32) ∧ 0 ≤ bm := by
  unfold missErr at h
  by_cases h1 : cnt < 1; · rw [if_pos h1] at h; cases h
  rw [if_neg h1] at h
  by_cases h2 : 32 < cnt; · rw [if_pos h2] at h; cases h
  rw [if_neg h2] at h
  by_cases h3 : bm < 0; · rw [if_pos h3] at h; cases h
  omega
theorem missOf_le (cnt bm : Int) : (missOf cnt bm).length ≤ 32 := by
  unfold missOf
  by_cases h : missErr cnt bm = 0
  · rw [if_pos h]; have h1 := missErr_ok h; have h2 := missL_len bm.toNat cnt.toNat; omega
  · rw [if_neg h]; simp

set_option maxRecDepth 10000 in
theorem splits_spec (tag idx cnt size : Int) (s data : ByteArray) (x0 x1 x2 x3 : Int) (hs : s.size ≤ 9223372036854775807) (hd : data.size ≤ 9223372036854775807) (hx : x3 ≤ 9223372036854775807) {B : Nat} {w0 : World} {H : List HP} {w : World} (hw : St B w0 H w) :
    Calls Try.prog 3 [.agg #[.int .i64 tag, .int .i64 idx, .int .i64 cnt, .int .i64 size, .string s], .string data, .agg #[.int .i64 x0, .int .i64 x1, .int .i64 x2, .int .i64 x3]].toArray w (Post B w0 fun v K => v = .bool true ∧ K = H) := by
  refine Calls_of_VC Try.func3 Try.ntmps3 rfl rfl hw ?_
  repeat' (first | (apply VL_move; exact rfl; exact rfl) | (apply VL_assign; exact rfl; exact rfl) | (apply VL_guard_no; exact rfl; exact rfl; exact rfl; exact rfl; exact rfl) | (apply VL_guard_yes; exact rfl; exact rfl; exact rfl) | (apply VL_nilCheck; exact rfl; exact rfl) | (apply VL_fieldAddr T; exact rfl; exact rfl; exact rfl) | (apply VL_load T; exact rfl; (repeat (first | with_reducible exact List.mem_cons_self | with_reducible apply List.mem_cons_of_mem)); exact rfl; exact rfl; exact rfl) | (apply VL_load_whole T; exact rfl; (repeat (first | with_reducible exact List.mem_cons_self | with_reducible apply List.mem_cons_of_mem)); exact rfl; exact rfl; exact rfl) | (apply VL_len T; exact rfl; exact rfl; exact rfl) | (apply VL_index_sl T; exact rfl; (repeat (first | with_reducible exact List.mem_cons_self | with_reducible apply List.mem_cons_of_mem)); exact rfl; exact rfl; exact rfl; omega) | (apply VL_pick_true; exact rfl; exact rfl; exact rfl) | (apply VL_pick_false; exact rfl; exact rfl; exact rfl) | (apply VL_extract; exact rfl; exact rfl; exact rfl) | (apply VL_slen T; exact rfl; exact rfl; exact rfl) | (apply VL_eql; exact rfl; exact rfl; exact rfl; all_goals (intro _; try (exfalso; omega))) | (apply VL_neq; exact rfl; exact rfl; exact rfl; all_goals (intro _; try (exfalso; omega))) | (apply VL_lss; exact rfl; exact rfl; exact rfl; all_goals (intro _; try (exfalso; omega))) | (apply VL_leq; exact rfl; exact rfl; exact rfl; all_goals (intro _; try (exfalso; omega))) | (apply VL_gtr; exact rfl; exact rfl; exact rfl; all_goals (intro _; try (exfalso; omega))) | (apply VL_geq; exact rfl; exact rfl; exact rfl; all_goals (intro _; try (exfalso; omega))) | (apply VL_seql0; exact rfl; exact rfl; all_goals (intro _ _; try (exfalso; omega))) | (apply VL_sneq0; exact rfl; exact rfl; all_goals (intro _ _; try (exfalso; omega))) | (apply VL_seql; exact rfl; exact rfl; exact rfl; all_goals intro _) | (apply VL_sneq; exact rfl; exact rfl; exact rfl; all_goals intro _) | (apply VL_min2; exact rfl; exact rfl; exact rfl; all_goals (intro _; try (exfalso; omega))) | (apply VL_substr T; exact rfl; exact rfl; exact rfl; exact rfl; exact rfl; omega) | (apply VL_substr_lo T; exact rfl; exact rfl; exact rfl; exact rfl; omega) | (apply VL_substr_hi T; exact rfl; exact rfl; exact rfl; exact rfl; omega) | (apply VL_index_str T; exact rfl; exact rfl; exact rfl; exact rfl; omega; intro _ _) | (apply VL_add; exact rfl; exact rfl; exact rfl; omega) | (apply VL_sub; exact rfl; exact rfl; exact rfl; omega) | (apply VL_mul; exact rfl; exact rfl; exact rfl; first | exact mul_bd (by omega) (by omega) (by omega) (by omega) | exact mul_bd' (by omega) (by omega) (by omega) (by omega) | omega) | (apply VL_add_any; exact rfl; exact rfl; exact rfl; intro _ _) | (apply VL_sub_any; exact rfl; exact rfl; exact rfl; intro _ _) | (apply VL_mul_any; exact rfl; exact rfl; exact rfl; intro _ _) | (apply VL_quo; exact rfl; exact rfl; exact rfl; omega) | (apply VL_rem; exact rfl; exact rfl; exact rfl; omega) | (apply VL_shr_c; exact rfl; exact rfl; (simp only [IntKind.bits]; omega); (simp only [Int.reduceToNat, Int.reducePow]; rfl)) | (apply VL_shr; exact rfl; exact rfl; exact rfl; (simp only [IntKind.bits]; omega)) | (apply VL_shl; exact rfl; exact rfl; exact rfl; (simp only [IntKind.bits]; omega)) | (apply VL_and; exact rfl; exact rfl; exact rfl) | (apply VL_or; exact rfl; exact rfl; exact rfl) | (apply VL_xor; exact rfl; exact rfl; exact rfl) | (apply VL_conv_id T; exact rfl; exact rfl; exact rfl; exact rfl; omega) | (apply VL_conv T; exact rfl; exact rfl; exact rfl; exact rfl) | (apply VL_not_true; exact rfl; exact rfl) | (apply VL_not_false; exact rfl; exact rfl) | (apply VL_append T; exact rfl; exact rfl; exact rfl; (repeat (first | with_reducible exact List.mem_cons_self | with_reducible apply List.mem_cons_of_mem)); exact rfl; exact rfl; exact rfl; (intro _ _; (repeat (first | with_reducible exact Upd.here _ | with_reducible apply Upd.there))); omega; intro _ _) | (apply VL_store T; exact rfl; exact rfl; exact rfl; (repeat (first | with_reducible exact Upd.here _ | with_reducible apply Upd.there)); (repeat (first | exact setat_here | apply setat_there)); exact rfl) | (apply VL_box_agg; exact rfl; exact rfl; intro _) | (apply VL_box_one; exact rfl; exact rfl; exact rfl; intro _) | apply VL_nil | apply VL_nilq | (apply VL_nilh; (repeat (first | with_reducible exact app_nil | with_reducible apply app_cons))) | apply VQ_then | apply VC_seq | apply VC_region | (apply VC_cond_true; exact rfl) | (apply VC_cond_false; exact rfl) | apply VC_block | apply VC_ret | apply VC_exit | apply VC_skip | apply VQ_then_ret | apply VQ_block_ret | apply VQ_block_normal | apply VQ_then_exit | apply VQ_block_exit | (apply VQ_block_other; exact rfl) | (apply VC_drawp; exact rfl; kernel_rfl; kernel_rfl) | (apply VL_heff; exact rfl; exact rfl; (repeat (first | with_reducible exact app_nil | with_reducible apply app_cons))) | (apply VQ_heldq; (repeat (first | with_reducible exact pull_nil | (with_reducible apply pull_cons; (repeat (first | with_reducible exact rem_here | with_reducible apply rem_there)))))) | apply VQ_tailq | apply VQ_only)
  first | apply VL_callt en10 | apply VL_callq en10
  (repeat (first | exact args_nil | (apply args_cons; exact rfl)))
  exact rfl
  exact fun _ hw => (awake_spec hw)
  repeat' (first
    | (apply VL_index_arr T; exact rfl; exact rfl; exact rfl; exact rfl; decide)
    | (apply VL_move; exact rfl; exact rfl)
    | (apply VL_assign; exact rfl; exact rfl)
    | (apply VL_guard_no; exact rfl; exact rfl; exact rfl; exact rfl; exact rfl)
    | (apply VL_guard_yes; exact rfl; exact rfl; exact rfl)
    | (apply VL_nilCheck; exact rfl; exact rfl)
    | (apply VL_fieldAddr T; exact rfl; exact rfl; exact rfl)
    | (apply VL_load T; exact rfl; (repeat (first | with_reducible exact List.mem_cons_self | with_reducible apply List.mem_cons_of_mem)); exact rfl; exact rfl; exact rfl)
    | (apply VL_load_whole T; exact rfl; (repeat (first | with_reducible exact List.mem_cons_self | with_reducible apply List.mem_cons_of_mem)); exact rfl; exact rfl; exact rfl)
    | (apply VL_len T; exact rfl; exact rfl; exact rfl)
    | (apply VL_index_sl T; exact rfl; (repeat (first | with_reducible exact List.mem_cons_self | with_reducible apply List.mem_cons_of_mem)); exact rfl; exact rfl; exact rfl; omega)
    | (apply VL_pick_true; exact rfl; exact rfl; exact rfl)
    | (apply VL_pick_false; exact rfl; exact rfl; exact rfl)
    | (apply VL_extract; exact rfl; exact rfl; exact rfl)
    | (apply VL_slen T; exact rfl; exact rfl; exact rfl)
    | (apply VL_eql; exact rfl; exact rfl; exact rfl; all_goals (intro _; try (exfalso; omega)))
    | (apply VL_neq; exact rfl; exact rfl; exact rfl; all_goals (intro _; try (exfalso; omega)))
    | (apply VL_lss; exact rfl; exact rfl; exact rfl; all_goals (intro _; try (exfalso; omega)))
    | (apply VL_leq; exact rfl; exact rfl; exact rfl; all_goals (intro _; try (exfalso; omega)))
    | (apply VL_gtr; exact rfl; exact rfl; exact rfl; all_goals (intro _; try (exfalso; omega)))
    | (apply VL_geq; exact rfl; exact rfl; exact rfl; all_goals (intro _; try (exfalso; omega)))
    | (apply VL_seql0; exact rfl; exact rfl; all_goals (intro _ _; try (exfalso; omega)))
    | (apply VL_sneq0; exact rfl; exact rfl; all_goals (intro _ _; try (exfalso; omega)))
    | (apply VL_seql; exact rfl; exact rfl; exact rfl; all_goals intro _)
    | (apply VL_sneq; exact rfl; exact rfl; exact rfl; all_goals intro _)
    | (apply VL_min2; exact rfl; exact rfl; exact rfl; all_goals (intro _; try (exfalso; omega)))
    | (apply VL_substr T; exact rfl; exact rfl; exact rfl; exact rfl; exact rfl; omega)
    | (apply VL_substr_lo T; exact rfl; exact rfl; exact rfl; exact rfl; omega)
    | (apply VL_substr_hi T; exact rfl; exact rfl; exact rfl; exact rfl; omega)
    | (apply VL_index_str T; exact rfl; exact rfl; exact rfl; exact rfl; omega; intro _ _)
    | (apply VL_add; exact rfl; exact rfl; exact rfl; omega)
    | (apply VL_sub; exact rfl; exact rfl; exact rfl; omega)
    | (apply VL_mul; exact rfl; exact rfl; exact rfl; first | exact mul_bd (by omega) (by omega) (by omega) (by omega) | exact mul_bd' (by omega) (by omega) (by omega) (by omega) | omega)
    | (apply VL_add_any; exact rfl; exact rfl; exact rfl; intro _ _)
    | (apply VL_sub_any; exact rfl; exact rfl; exact rfl; intro _ _)
    | (apply VL_mul_any; exact rfl; exact rfl; exact rfl; intro _ _)
    | (apply VL_quo; exact rfl; exact rfl; exact rfl; omega)
    | (apply VL_rem; exact rfl; exact rfl; exact rfl; omega)
    | (apply VL_shr_c; exact rfl; exact rfl; (simp only [IntKind.bits]; omega); (simp only [Int.reduceToNat, Int.reducePow]; rfl))
    | (apply VL_shr; exact rfl; exact rfl; exact rfl; (simp only [IntKind.bits]; omega))
    | (apply VL_shl; exact rfl; exact rfl; exact rfl; (simp only [IntKind.bits]; omega))
    | (apply VL_and; exact rfl; exact rfl; exact rfl)
    | (apply VL_or; exact rfl; exact rfl; exact rfl)
    | (apply VL_xor; exact rfl; exact rfl; exact rfl)
    | (apply VL_conv_id T; exact rfl; exact rfl; exact rfl; exact rfl; omega)
    | (apply VL_conv T; exact rfl; exact rfl; exact rfl; exact rfl)
    | (apply VL_not_true; exact rfl; exact rfl)
    | (apply VL_not_false; exact rfl; exact rfl)
    | (apply VL_append T; exact rfl; exact rfl; exact rfl; (repeat (first | with_reducible exact List.mem_cons_self | with_reducible apply List.mem_cons_of_mem)); exact rfl; exact rfl; exact rfl; (intro _ _; (repeat (first | with_reducible exact Upd.here _ | with_reducible apply Upd.there))); omega; intro _ _)
    | (apply VL_store T; exact rfl; exact rfl; exact rfl; (repeat (first | with_reducible exact Upd.here _ | with_reducible apply Upd.there)); (repeat (first | exact setat_here | apply setat_there)); exact rfl)
    | (apply VL_box_agg; exact rfl; exact rfl; intro _)
    | (apply VL_box_one; exact rfl; exact rfl; exact rfl; intro _)
    | apply VL_nil
    | apply VL_nilq
    | (apply VL_nilh; (repeat (first | with_reducible exact app_nil | with_reducible apply app_cons)))
    | apply VQ_then
    | apply VC_seq
    | apply VC_region
    | (apply VC_cond_true; exact rfl)
    | (apply VC_cond_false; exact rfl)
    | apply VC_block
    | apply VC_ret
    | apply VC_exit
    | apply VC_skip
    | apply VQ_then_ret
    | apply VQ_block_ret
    | apply VQ_block_normal
    | apply VQ_then_exit
    | apply VQ_block_exit
    | (apply VQ_block_other; exact rfl)
    | (apply VC_drawp; exact rfl; kernel_rfl; kernel_rfl)
    | (apply VL_heff; exact rfl; exact rfl; (repeat (first | with_reducible exact app_nil | with_reducible apply app_cons)))
    | (apply VQ_heldq; (repeat (first | with_reducible exact pull_nil | (with_reducible apply pull_cons; (repeat (first | with_reducible exact rem_here | with_reducible apply rem_there))))))
    | apply VQ_tailq
    | apply VQ_only)
  · apply VQ_tail; apply VQ_tail; apply VQ_ret1; exact rfl; exact rfl
    exact ⟨rfl, rfl⟩
  · apply VQ_tail; apply VQ_tail; apply VQ_ret1; exact rfl; exact rfl
    exact ⟨rfl, rfl⟩
  apply VL_call _ en11
  (repeat (first | exact args_nil | (apply args_cons; exact rfl)))
  exact rfl
  exact fun _ hw => (split_spec x0 x1 data (by omega) (hw))
  rintro _ _ ⟨A1, c1, rfl, rfl⟩
  repeat' (first
    | (apply VL_index_arr T; exact rfl; exact rfl; exact rfl; exact rfl; decide)
    | (apply VL_move; exact rfl; exact rfl)
    | (apply VL_assign; exact rfl; exact rfl)
    | (apply VL_guard_no; exact rfl; exact rfl; exact rfl; exact rfl; exact rfl)
    | (apply VL_guard_yes; exact rfl; exact rfl; exact rfl)
    | (apply VL_nilCheck; exact rfl; exact rfl)
    | (apply VL_fieldAddr T; exact rfl; exact rfl; exact rfl)
    | (apply VL_load T; exact rfl; (repeat (first | with_reducible exact List.mem_cons_self | with_reducible apply List.mem_cons_of_mem)); exact rfl; exact rfl; exact rfl)
    | (apply VL_load_whole T; exact rfl; (repeat (first | with_reducible exact List.mem_cons_self | with_reducible apply List.mem_cons_of_mem)); exact rfl; exact rfl; exact rfl)
    | (apply VL_len T; exact rfl; exact rfl; exact rfl)
    | (apply VL_index_sl T; exact rfl; (repeat (first | with_reducible exact List.mem_cons_self | with_reducible apply List.mem_cons_of_mem)); exact rfl; exact rfl; exact rfl; omega)
    | (apply VL_pick_true; exact rfl; exact rfl; exact rfl)
    | (apply VL_pick_false; exact rfl; exact rfl; exact rfl)
    | (apply VL_extract; exact rfl; exact rfl; exact rfl)
    | (apply VL_slen T; exact rfl; exact rfl; exact rfl)
    | (apply VL_eql; exact rfl; exact rfl; exact rfl; all_goals (intro _; try (exfalso; omega)))
    | (apply VL_neq; exact rfl; exact rfl; exact rfl; all_goals (intro _; try (exfalso; omega)))
    | (apply VL_lss; exact rfl; exact rfl; exact rfl; all_goals (intro _; try (exfalso; omega)))
    | (apply VL_leq; exact rfl; exact rfl; exact rfl; all_goals (intro _; try (exfalso; omega)))
    | (apply VL_gtr; exact rfl; exact rfl; exact rfl; all_goals (intro _; try (exfalso; omega)))
    | (apply VL_geq; exact rfl; exact rfl; exact rfl; all_goals (intro _; try (exfalso; omega)))
    | (apply VL_seql0; exact rfl; exact rfl; all_goals (intro _ _; try (exfalso; omega)))
    | (apply VL_sneq0; exact rfl; exact rfl; all_goals (intro _ _; try (exfalso; omega)))
    | (apply VL_seql; exact rfl; exact rfl; exact rfl; all_goals intro _)
    | (apply VL_sneq; exact rfl; exact rfl; exact rfl; all_goals intro _)
    | (apply VL_min2; exact rfl; exact rfl; exact rfl; all_goals (intro _; try (exfalso; omega)))
    | (apply VL_substr T; exact rfl; exact rfl; exact rfl; exact rfl; exact rfl; omega)
    | (apply VL_substr_lo T; exact rfl; exact rfl; exact rfl; exact rfl; omega)
    | (apply VL_substr_hi T; exact rfl; exact rfl; exact rfl; exact rfl; omega)
    | (apply VL_index_str T; exact rfl; exact rfl; exact rfl; exact rfl; omega; intro _ _)
    | (apply VL_add; exact rfl; exact rfl; exact rfl; omega)
    | (apply VL_sub; exact rfl; exact rfl; exact rfl; omega)
    | (apply VL_mul; exact rfl; exact rfl; exact rfl; first | exact mul_bd (by omega) (by omega) (by omega) (by omega) | exact mul_bd' (by omega) (by omega) (by omega) (by omega) | omega)
    | (apply VL_add_any; exact rfl; exact rfl; exact rfl; intro _ _)
    | (apply VL_sub_any; exact rfl; exact rfl; exact rfl; intro _ _)
    | (apply VL_mul_any; exact rfl; exact rfl; exact rfl; intro _ _)
    | (apply VL_quo; exact rfl; exact rfl; exact rfl; omega)
    | (apply VL_rem; exact rfl; exact rfl; exact rfl; omega)
    | (apply VL_shr_c; exact rfl; exact rfl; (simp only [IntKind.bits]; omega); (simp only [Int.reduceToNat, Int.reducePow]; rfl))
    | (apply VL_shr; exact rfl; exact rfl; exact rfl; (simp only [IntKind.bits]; omega))
    | (apply VL_shl; exact rfl; exact rfl; exact rfl; (simp only [IntKind.bits]; omega))
    | (apply VL_and; exact rfl; exact rfl; exact rfl)
    | (apply VL_or; exact rfl; exact rfl; exact rfl)
    | (apply VL_xor; exact rfl; exact rfl; exact rfl)
    | (apply VL_conv_id T; exact rfl; exact rfl; exact rfl; exact rfl; omega)
    | (apply VL_conv T; exact rfl; exact rfl; exact rfl; exact rfl)
    | (apply VL_not_true; exact rfl; exact rfl)
    | (apply VL_not_false; exact rfl; exact rfl)
    | (apply VL_append T; exact rfl; exact rfl; exact rfl; (repeat (first | with_reducible exact List.mem_cons_self | with_reducible apply List.mem_cons_of_mem)); exact rfl; exact rfl; exact rfl; (intro _ _; (repeat (first | with_reducible exact Upd.here _ | with_reducible apply Upd.there))); omega; intro _ _)
    | (apply VL_store T; exact rfl; exact rfl; exact rfl; (repeat (first | with_reducible exact Upd.here _ | with_reducible apply Upd.there)); (repeat (first | exact setat_here | apply setat_there)); exact rfl)
    | (apply VL_box_agg; exact rfl; exact rfl; intro _)
    | (apply VL_box_one; exact rfl; exact rfl; exact rfl; intro _)
    | apply VL_nil
    | apply VL_nilq
    | (apply VL_nilh; (repeat (first | with_reducible exact app_nil | with_reducible apply app_cons)))
    | apply VQ_then
    | apply VC_seq
    | apply VC_region
    | (apply VC_cond_true; exact rfl)
    | (apply VC_cond_false; exact rfl)
    | apply VC_block
    | apply VC_ret
    | apply VC_exit
    | apply VC_skip
    | apply VQ_then_ret
    | apply VQ_block_ret
    | apply VQ_block_normal
    | apply VQ_then_exit
    | apply VQ_block_exit
    | (apply VQ_block_other; exact rfl)
    | (apply VC_drawp; exact rfl; kernel_rfl; kernel_rfl)
    | (apply VL_heff; exact rfl; exact rfl; (repeat (first | with_reducible exact app_nil | with_reducible apply app_cons)))
    | (apply VQ_heldq; (repeat (first | with_reducible exact pull_nil | (with_reducible apply pull_cons; (repeat (first | with_reducible exact rem_here | with_reducible apply rem_there))))))
    | apply VQ_tailq
    | apply VQ_only)
  apply VL_call _ en12
  (repeat (first | exact args_nil | (apply args_cons; exact rfl)))
  exact rfl
  exact fun _ hw => (rsplit_spec x0 x1 data (by omega) (hw))
  rintro _ _ ⟨A2, c2, rfl, rfl⟩
  repeat' (first | (apply VL_move; exact rfl; exact rfl) | (apply VL_assign; exact rfl; exact rfl) | (apply VL_guard_no; exact rfl; exact rfl; exact rfl; exact rfl; exact rfl) | (apply VL_guard_yes; exact rfl; exact rfl; exact rfl) | (apply VL_nilCheck; exact rfl; exact rfl) | (apply VL_fieldAddr T; exact rfl; exact rfl; exact rfl) | (apply VL_load T; exact rfl; (repeat (first | with_reducible exact List.mem_cons_self | with_reducible apply List.mem_cons_of_mem)); exact rfl; exact rfl; exact rfl) | (apply VL_load_whole T; exact rfl; (repeat (first | with_reducible exact List.mem_cons_self | with_reducible apply List.mem_cons_of_mem)); exact rfl; exact rfl; exact rfl) | (apply VL_len T; exact rfl; exact rfl; exact rfl) | (apply VL_index_sl T; exact rfl; (repeat (first | with_reducible exact List.mem_cons_self | with_reducible apply List.mem_cons_of_mem)); exact rfl; exact rfl; exact rfl; omega) | (apply VL_pick_true; exact rfl; exact rfl; exact rfl) | (apply VL_pick_false; exact rfl; exact rfl; exact rfl) | (apply VL_extract; exact rfl; exact rfl; exact rfl) | (apply VL_slen T; exact rfl; exact rfl; exact rfl) | (apply VL_eql; exact rfl; exact rfl; exact rfl; all_goals (intro _; try (exfalso; omega))) | (apply VL_neq; exact rfl; exact rfl; exact rfl; all_goals (intro _; try (exfalso; omega))) | (apply VL_lss; exact rfl; exact rfl; exact rfl; all_goals (intro _; try (exfalso; omega))) | (apply VL_leq; exact rfl; exact rfl; exact rfl; all_goals (intro _; try (exfalso; omega))) | (apply VL_gtr; exact rfl; exact rfl; exact rfl; all_goals (intro _; try (exfalso; omega))) | (apply VL_geq; exact rfl; exact rfl; exact rfl; all_goals (intro _; try (exfalso; omega))) | (apply VL_seql0; exact rfl; exact rfl; all_goals (intro _ _; try (exfalso; omega))) | (apply VL_sneq0; exact rfl; exact rfl; all_goals (intro _ _; try (exfalso; omega))) | (apply VL_seql; exact rfl; exact rfl; exact rfl; all_goals intro _) | (apply VL_sneq; exact rfl; exact rfl; exact rfl; all_goals intro _) | (apply VL_min2; exact rfl; exact rfl; exact rfl; all_goals (intro _; try (exfalso; omega))) | (apply VL_substr T; exact rfl; exact rfl; exact rfl; exact rfl; exact rfl; omega) | (apply VL_substr_lo T; exact rfl; exact rfl; exact rfl; exact rfl; omega) | (apply VL_substr_hi T; exact rfl; exact rfl; exact rfl; exact rfl; omega) | (apply VL_index_str T; exact rfl; exact rfl; exact rfl; exact rfl; omega; intro _ _) | (apply VL_add; exact rfl; exact rfl; exact rfl; omega) | (apply VL_sub; exact rfl; exact rfl; exact rfl; omega) | (apply VL_mul; exact rfl; exact rfl; exact rfl; first | exact mul_bd (by omega) (by omega) (by omega) (by omega) | exact mul_bd' (by omega) (by omega) (by omega) (by omega) | omega) | (apply VL_add_any; exact rfl; exact rfl; exact rfl; intro _ _) | (apply VL_sub_any; exact rfl; exact rfl; exact rfl; intro _ _) | (apply VL_mul_any; exact rfl; exact rfl; exact rfl; intro _ _) | (apply VL_quo; exact rfl; exact rfl; exact rfl; omega) | (apply VL_rem; exact rfl; exact rfl; exact rfl; omega) | (apply VL_shr_c; exact rfl; exact rfl; (simp only [IntKind.bits]; omega); (simp only [Int.reduceToNat, Int.reducePow]; rfl)) | (apply VL_shr; exact rfl; exact rfl; exact rfl; (simp only [IntKind.bits]; omega)) | (apply VL_shl; exact rfl; exact rfl; exact rfl; (simp only [IntKind.bits]; omega)) | (apply VL_and; exact rfl; exact rfl; exact rfl) | (apply VL_or; exact rfl; exact rfl; exact rfl) | (apply VL_xor; exact rfl; exact rfl; exact rfl) | (apply VL_conv_id T; exact rfl; exact rfl; exact rfl; exact rfl; omega) | (apply VL_conv T; exact rfl; exact rfl; exact rfl; exact rfl) | (apply VL_not_true; exact rfl; exact rfl) | (apply VL_not_false; exact rfl; exact rfl) | (apply VL_append T; exact rfl; exact rfl; exact rfl; (repeat (first | with_reducible exact List.mem_cons_self | with_reducible apply List.mem_cons_of_mem)); exact rfl; exact rfl; exact rfl; (intro _ _; (repeat (first | with_reducible exact Upd.here _ | with_reducible apply Upd.there))); omega; intro _ _) | (apply VL_store T; exact rfl; exact rfl; exact rfl; (repeat (first | with_reducible exact Upd.here _ | with_reducible apply Upd.there)); (repeat (first | exact setat_here | apply setat_there)); exact rfl) | (apply VL_box_agg; exact rfl; exact rfl; intro _) | (apply VL_box_one; exact rfl; exact rfl; exact rfl; intro _) | apply VL_nil | apply VL_nilq | (apply VL_nilh; (repeat (first | with_reducible exact app_nil | with_reducible apply app_cons))) | apply VQ_then | apply VC_seq | apply VC_region | (apply VC_cond_true; exact rfl) | (apply VC_cond_false; exact rfl) | apply VC_block | apply VC_ret | apply VC_exit | apply VC_skip | apply VQ_then_ret | apply VQ_block_ret | apply VQ_block_normal | apply VQ_then_exit | apply VQ_block_exit | (apply VQ_block_other; exact rfl) | (apply VC_drawp; exact rfl; kernel_rfl; kernel_rfl) | (apply VL_heff; exact rfl; exact rfl; (repeat (first | with_reducible exact app_nil | with_reducible apply app_cons))) | (apply VQ_heldq; (repeat (first | with_reducible exact pull_nil | (with_reducible apply pull_cons; (repeat (first | with_reducible exact rem_here | with_reducible apply rem_there)))))) | apply VQ_tailq | apply VQ_only)
  first | apply VL_callt en13 | apply VL_callq en13
  (repeat (first | exact args_nil | (apply args_cons; exact rfl)))
  exact rfl
  exact fun _ hw => (encode_spec tag idx cnt size s (by omega) hw)
  repeat' (first | (apply VL_move; exact rfl; exact rfl) | (apply VL_assign; exact rfl; exact rfl) | (apply VL_guard_no; exact rfl; exact rfl; exact rfl; exact rfl; exact rfl) | (apply VL_guard_yes; exact rfl; exact rfl; exact rfl) | (apply VL_nilCheck; exact rfl; exact rfl) | (apply VL_fieldAddr T; exact rfl; exact rfl; exact rfl) | (apply VL_load T; exact rfl; (repeat (first | with_reducible exact List.mem_cons_self | with_reducible apply List.mem_cons_of_mem)); exact rfl; exact rfl; exact rfl) | (apply VL_load_whole T; exact rfl; (repeat (first | with_reducible exact List.mem_cons_self | with_reducible apply List.mem_cons_of_mem)); exact rfl; exact rfl; exact rfl) | (apply VL_len T; exact rfl; exact rfl; exact rfl) | (apply VL_index_sl T; exact rfl; (repeat (first | with_reducible exact List.mem_cons_self | with_reducible apply List.mem_cons_of_mem)); exact rfl; exact rfl; exact rfl; omega) | (apply VL_pick_true; exact rfl; exact rfl; exact rfl) | (apply VL_pick_false; exact rfl; exact rfl; exact rfl) | (apply VL_extract; exact rfl; exact rfl; exact rfl) | (apply VL_slen T; exact rfl; exact rfl; exact rfl) | (apply VL_eql; exact rfl; exact rfl; exact rfl; all_goals (intro _; try (exfalso; omega))) | (apply VL_neq; exact rfl; exact rfl; exact rfl; all_goals (intro _; try (exfalso; omega))) | (apply VL_lss; exact rfl; exact rfl; exact rfl; all_goals (intro _; try (exfalso; omega))) | (apply VL_leq; exact rfl; exact rfl; exact rfl; all_goals (intro _; try (exfalso; omega))) | (apply VL_gtr; exact rfl; exact rfl; exact rfl; all_goals (intro _; try (exfalso; omega))) | (apply VL_geq; exact rfl; exact rfl; exact rfl; all_goals (intro _; try (exfalso; omega))) | (apply VL_seql0; exact rfl; exact rfl; all_goals (intro _ _; try (exfalso; omega))) | (apply VL_sneq0; exact rfl; exact rfl; all_goals (intro _ _; try (exfalso; omega))) | (apply VL_seql; exact rfl; exact rfl; exact rfl; all_goals intro _) | (apply VL_sneq; exact rfl; exact rfl; exact rfl; all_goals intro _) | (apply VL_min2; exact rfl; exact rfl; exact rfl; all_goals (intro _; try (exfalso; omega))) | (apply VL_substr T; exact rfl; exact rfl; exact rfl; exact rfl; exact rfl; omega) | (apply VL_substr_lo T; exact rfl; exact rfl; exact rfl; exact rfl; omega) | (apply VL_substr_hi T; exact rfl; exact rfl; exact rfl; exact rfl; omega) | (apply VL_index_str T; exact rfl; exact rfl; exact rfl; exact rfl; omega; intro _ _) | (apply VL_add; exact rfl; exact rfl; exact rfl; omega) | (apply VL_sub; exact rfl; exact rfl; exact rfl; omega) | (apply VL_mul; exact rfl; exact rfl; exact rfl; first | exact mul_bd (by omega) (by omega) (by omega) (by omega) | exact mul_bd' (by omega) (by omega) (by omega) (by omega) | omega) | (apply VL_add_any; exact rfl; exact rfl; exact rfl; intro _ _) | (apply VL_sub_any; exact rfl; exact rfl; exact rfl; intro _ _) | (apply VL_mul_any; exact rfl; exact rfl; exact rfl; intro _ _) | (apply VL_quo; exact rfl; exact rfl; exact rfl; omega) | (apply VL_rem; exact rfl; exact rfl; exact rfl; omega) | (apply VL_shr_c; exact rfl; exact rfl; (simp only [IntKind.bits]; omega); (simp only [Int.reduceToNat, Int.reducePow]; rfl)) | (apply VL_shr; exact rfl; exact rfl; exact rfl; (simp only [IntKind.bits]; omega)) | (apply VL_shl; exact rfl; exact rfl; exact rfl; (simp only [IntKind.bits]; omega)) | (apply VL_and; exact rfl; exact rfl; exact rfl) | (apply VL_or; exact rfl; exact rfl; exact rfl) | (apply VL_xor; exact rfl; exact rfl; exact rfl) | (apply VL_conv_id T; exact rfl; exact rfl; exact rfl; exact rfl; omega) | (apply VL_conv T; exact rfl; exact rfl; exact rfl; exact rfl) | (apply VL_not_true; exact rfl; exact rfl) | (apply VL_not_false; exact rfl; exact rfl) | (apply VL_append T; exact rfl; exact rfl; exact rfl; (repeat (first | with_reducible exact List.mem_cons_self | with_reducible apply List.mem_cons_of_mem)); exact rfl; exact rfl; exact rfl; (intro _ _; (repeat (first | with_reducible exact Upd.here _ | with_reducible apply Upd.there))); omega; intro _ _) | (apply VL_store T; exact rfl; exact rfl; exact rfl; (repeat (first | with_reducible exact Upd.here _ | with_reducible apply Upd.there)); (repeat (first | exact setat_here | apply setat_there)); exact rfl) | (apply VL_box_agg; exact rfl; exact rfl; intro _) | (apply VL_box_one; exact rfl; exact rfl; exact rfl; intro _) | apply VL_nil | apply VL_nilq | (apply VL_nilh; (repeat (first | with_reducible exact app_nil | with_reducible apply app_cons))) | apply VQ_then | apply VC_seq | apply VC_region | (apply VC_cond_true; exact rfl) | (apply VC_cond_false; exact rfl) | apply VC_block | apply VC_ret | apply VC_exit | apply VC_skip | apply VQ_then_ret | apply VQ_block_ret | apply VQ_block_normal | apply VQ_then_exit | apply VQ_block_exit | (apply VQ_block_other; exact rfl) | (apply VC_drawp; exact rfl; kernel_rfl; kernel_rfl) | (apply VL_heff; exact rfl; exact rfl; (repeat (first | with_reducible exact app_nil | with_reducible apply app_cons))) | (apply VQ_heldq; (repeat (first | with_reducible exact pull_nil | (with_reducible apply pull_cons; (repeat (first | with_reducible exact rem_here | with_reducible apply rem_there)))))) | apply VQ_tailq | apply VQ_only)
  first | apply VL_callt en14 | apply VL_callq en14
  (repeat (first | exact args_nil | (apply args_cons; exact rfl)))
  exact rfl
  exact fun _ hw => (rencode_spec tag idx cnt size s (by omega) hw)
  repeat' (first
    | (apply VL_index_arr T; exact rfl; exact rfl; exact rfl; exact rfl; decide)
    | (apply VL_move; exact rfl; exact rfl)
    | (apply VL_assign; exact rfl; exact rfl)
    | (apply VL_guard_no; exact rfl; exact rfl; exact rfl; exact rfl; exact rfl)
    | (apply VL_guard_yes; exact rfl; exact rfl; exact rfl)
    | (apply VL_nilCheck; exact rfl; exact rfl)
    | (apply VL_fieldAddr T; exact rfl; exact rfl; exact rfl)
    | (apply VL_load T; exact rfl; (repeat (first | with_reducible exact List.mem_cons_self | with_reducible apply List.mem_cons_of_mem)); exact rfl; exact rfl; exact rfl)
    | (apply VL_load_whole T; exact rfl; (repeat (first | with_reducible exact List.mem_cons_self | with_reducible apply List.mem_cons_of_mem)); exact rfl; exact rfl; exact rfl)
    | (apply VL_len T; exact rfl; exact rfl; exact rfl)
    | (apply VL_index_sl T; exact rfl; (repeat (first | with_reducible exact List.mem_cons_self | with_reducible apply List.mem_cons_of_mem)); exact rfl; exact rfl; exact rfl; omega)
    | (apply VL_pick_true; exact rfl; exact rfl; exact rfl)
    | (apply VL_pick_false; exact rfl; exact rfl; exact rfl)
    | (apply VL_extract; exact rfl; exact rfl; exact rfl)
    | (apply VL_slen T; exact rfl; exact rfl; exact rfl)
    | (apply VL_eql; exact rfl; exact rfl; exact rfl; all_goals (intro _; try (exfalso; omega)))
    | (apply VL_neq; exact rfl; exact rfl; exact rfl; all_goals (intro _; try (exfalso; omega)))
    | (apply VL_lss; exact rfl; exact rfl; exact rfl; all_goals (intro _; try (exfalso; omega)))
    | (apply VL_leq; exact rfl; exact rfl; exact rfl; all_goals (intro _; try (exfalso; omega)))
    | (apply VL_gtr; exact rfl; exact rfl; exact rfl; all_goals (intro _; try (exfalso; omega)))
    | (apply VL_geq; exact rfl; exact rfl; exact rfl; all_goals (intro _; try (exfalso; omega)))
    | (apply VL_seql0; exact rfl; exact rfl; all_goals (intro _ _; try (exfalso; omega)))
    | (apply VL_sneq0; exact rfl; exact rfl; all_goals (intro _ _; try (exfalso; omega)))
    | (apply VL_seql; exact rfl; exact rfl; exact rfl; all_goals intro _)
    | (apply VL_sneq; exact rfl; exact rfl; exact rfl; all_goals intro _)
    | (apply VL_min2; exact rfl; exact rfl; exact rfl; all_goals (intro _; try (exfalso; omega)))
    | (apply VL_substr T; exact rfl; exact rfl; exact rfl; exact rfl; exact rfl; omega)
    | (apply VL_substr_lo T; exact rfl; exact rfl; exact rfl; exact rfl; omega)
    | (apply VL_substr_hi T; exact rfl; exact rfl; exact rfl; exact rfl; omega)
    | (apply VL_index_str T; exact rfl; exact rfl; exact rfl; exact rfl; omega; intro _ _)
    | (apply VL_add; exact rfl; exact rfl; exact rfl; omega)
    | (apply VL_sub; exact rfl; exact rfl; exact rfl; omega)
    | (apply VL_mul; exact rfl; exact rfl; exact rfl; first | exact mul_bd (by omega) (by omega) (by omega) (by omega) | exact mul_bd' (by omega) (by omega) (by omega) (by omega) | omega)
    | (apply VL_add_any; exact rfl; exact rfl; exact rfl; intro _ _)
    | (apply VL_sub_any; exact rfl; exact rfl; exact rfl; intro _ _)
    | (apply VL_mul_any; exact rfl; exact rfl; exact rfl; intro _ _)
    | (apply VL_quo; exact rfl; exact rfl; exact rfl; omega)
    | (apply VL_rem; exact rfl; exact rfl; exact rfl; omega)
    | (apply VL_shr_c; exact rfl; exact rfl; (simp only [IntKind.bits]; omega); (simp only [Int.reduceToNat, Int.reducePow]; rfl))
    | (apply VL_shr; exact rfl; exact rfl; exact rfl; (simp only [IntKind.bits]; omega))
    | (apply VL_shl; exact rfl; exact rfl; exact rfl; (simp only [IntKind.bits]; omega))
    | (apply VL_and; exact rfl; exact rfl; exact rfl)
    | (apply VL_or; exact rfl; exact rfl; exact rfl)
    | (apply VL_xor; exact rfl; exact rfl; exact rfl)
    | (apply VL_conv_id T; exact rfl; exact rfl; exact rfl; exact rfl; omega)
    | (apply VL_conv T; exact rfl; exact rfl; exact rfl; exact rfl)
    | (apply VL_not_true; exact rfl; exact rfl)
    | (apply VL_not_false; exact rfl; exact rfl)
    | (apply VL_append T; exact rfl; exact rfl; exact rfl; (repeat (first | with_reducible exact List.mem_cons_self | with_reducible apply List.mem_cons_of_mem)); exact rfl; exact rfl; exact rfl; (intro _ _; (repeat (first | with_reducible exact Upd.here _ | with_reducible apply Upd.there))); omega; intro _ _)
    | (apply VL_store T; exact rfl; exact rfl; exact rfl; (repeat (first | with_reducible exact Upd.here _ | with_reducible apply Upd.there)); (repeat (first | exact setat_here | apply setat_there)); exact rfl)
    | (apply VL_box_agg; exact rfl; exact rfl; intro _)
    | (apply VL_box_one; exact rfl; exact rfl; exact rfl; intro _)
    | apply VL_nil
    | apply VL_nilq
    | (apply VL_nilh; (repeat (first | with_reducible exact app_nil | with_reducible apply app_cons)))
    | apply VQ_then
    | apply VC_seq
    | apply VC_region
    | (apply VC_cond_true; exact rfl)
    | (apply VC_cond_false; exact rfl)
    | apply VC_block
    | apply VC_ret
    | apply VC_exit
    | apply VC_skip
    | apply VQ_then_ret
    | apply VQ_block_ret
    | apply VQ_block_normal
    | apply VQ_then_exit
    | apply VQ_block_exit
    | (apply VQ_block_other; exact rfl)
    | (apply VC_drawp; exact rfl; kernel_rfl; kernel_rfl)
    | (apply VL_heff; exact rfl; exact rfl; (repeat (first | with_reducible exact app_nil | with_reducible apply app_cons)))
    | (apply VQ_heldq; (repeat (first | with_reducible exact pull_nil | (with_reducible apply pull_cons; (repeat (first | with_reducible exact rem_here | with_reducible apply rem_there))))))
    | apply VQ_tailq
    | apply VQ_only)
  apply VL_call _ en15
  (repeat (first | exact args_nil | (apply args_cons; exact rfl)))
  exact rfl
  exact fun _ hw => (missing_spec x2 x3 hx (hw))
  rintro _ _ ⟨A3, c3, rfl, rfl⟩
  repeat' (first
    | (apply VL_index_arr T; exact rfl; exact rfl; exact rfl; exact rfl; decide)
    | (apply VL_move; exact rfl; exact rfl)
    | (apply VL_assign; exact rfl; exact rfl)
    | (apply VL_guard_no; exact rfl; exact rfl; exact rfl; exact rfl; exact rfl)
    | (apply VL_guard_yes; exact rfl; exact rfl; exact rfl)
    | (apply VL_nilCheck; exact rfl; exact rfl)
    | (apply VL_fieldAddr T; exact rfl; exact rfl; exact rfl)
    | (apply VL_load T; exact rfl; (repeat (first | with_reducible exact List.mem_cons_self | with_reducible apply List.mem_cons_of_mem)); exact rfl; exact rfl; exact rfl)
    | (apply VL_load_whole T; exact rfl; (repeat (first | with_reducible exact List.mem_cons_self | with_reducible apply List.mem_cons_of_mem)); exact rfl; exact rfl; exact rfl)
    | (apply VL_len T; exact rfl; exact rfl; exact rfl)
    | (apply VL_index_sl T; exact rfl; (repeat (first | with_reducible exact List.mem_cons_self | with_reducible apply List.mem_cons_of_mem)); exact rfl; exact rfl; exact rfl; omega)
    | (apply VL_pick_true; exact rfl; exact rfl; exact rfl)
    | (apply VL_pick_false; exact rfl; exact rfl; exact rfl)
    | (apply VL_extract; exact rfl; exact rfl; exact rfl)
    | (apply VL_slen T; exact rfl; exact rfl; exact rfl)
    | (apply VL_eql; exact rfl; exact rfl; exact rfl; all_goals (intro _; try (exfalso; omega)))
    | (apply VL_neq; exact rfl; exact rfl; exact rfl; all_goals (intro _; try (exfalso; omega)))
    | (apply VL_lss; exact rfl; exact rfl; exact rfl; all_goals (intro _; try (exfalso; omega)))
    | (apply VL_leq; exact rfl; exact rfl; exact rfl; all_goals (intro _; try (exfalso; omega)))
    | (apply VL_gtr; exact rfl; exact rfl; exact rfl; all_goals (intro _; try (exfalso; omega)))
    | (apply VL_geq; exact rfl; exact rfl; exact rfl; all_goals (intro _; try (exfalso; omega)))
    | (apply VL_seql0; exact rfl; exact rfl; all_goals (intro _ _; try (exfalso; omega)))
    | (apply VL_sneq0; exact rfl; exact rfl; all_goals (intro _ _; try (exfalso; omega)))
    | (apply VL_seql; exact rfl; exact rfl; exact rfl; all_goals intro _)
    | (apply VL_sneq; exact rfl; exact rfl; exact rfl; all_goals intro _)
    | (apply VL_min2; exact rfl; exact rfl; exact rfl; all_goals (intro _; try (exfalso; omega)))
    | (apply VL_substr T; exact rfl; exact rfl; exact rfl; exact rfl; exact rfl; omega)
    | (apply VL_substr_lo T; exact rfl; exact rfl; exact rfl; exact rfl; omega)
    | (apply VL_substr_hi T; exact rfl; exact rfl; exact rfl; exact rfl; omega)
    | (apply VL_index_str T; exact rfl; exact rfl; exact rfl; exact rfl; omega; intro _ _)
    | (apply VL_add; exact rfl; exact rfl; exact rfl; omega)
    | (apply VL_sub; exact rfl; exact rfl; exact rfl; omega)
    | (apply VL_mul; exact rfl; exact rfl; exact rfl; first | exact mul_bd (by omega) (by omega) (by omega) (by omega) | exact mul_bd' (by omega) (by omega) (by omega) (by omega) | omega)
    | (apply VL_add_any; exact rfl; exact rfl; exact rfl; intro _ _)
    | (apply VL_sub_any; exact rfl; exact rfl; exact rfl; intro _ _)
    | (apply VL_mul_any; exact rfl; exact rfl; exact rfl; intro _ _)
    | (apply VL_quo; exact rfl; exact rfl; exact rfl; omega)
    | (apply VL_rem; exact rfl; exact rfl; exact rfl; omega)
    | (apply VL_shr_c; exact rfl; exact rfl; (simp only [IntKind.bits]; omega); (simp only [Int.reduceToNat, Int.reducePow]; rfl))
    | (apply VL_shr; exact rfl; exact rfl; exact rfl; (simp only [IntKind.bits]; omega))
    | (apply VL_shl; exact rfl; exact rfl; exact rfl; (simp only [IntKind.bits]; omega))
    | (apply VL_and; exact rfl; exact rfl; exact rfl)
    | (apply VL_or; exact rfl; exact rfl; exact rfl)
    | (apply VL_xor; exact rfl; exact rfl; exact rfl)
    | (apply VL_conv_id T; exact rfl; exact rfl; exact rfl; exact rfl; omega)
    | (apply VL_conv T; exact rfl; exact rfl; exact rfl; exact rfl)
    | (apply VL_not_true; exact rfl; exact rfl)
    | (apply VL_not_false; exact rfl; exact rfl)
    | (apply VL_append T; exact rfl; exact rfl; exact rfl; (repeat (first | with_reducible exact List.mem_cons_self | with_reducible apply List.mem_cons_of_mem)); exact rfl; exact rfl; exact rfl; (intro _ _; (repeat (first | with_reducible exact Upd.here _ | with_reducible apply Upd.there))); omega; intro _ _)
    | (apply VL_store T; exact rfl; exact rfl; exact rfl; (repeat (first | with_reducible exact Upd.here _ | with_reducible apply Upd.there)); (repeat (first | exact setat_here | apply setat_there)); exact rfl)
    | (apply VL_box_agg; exact rfl; exact rfl; intro _)
    | (apply VL_box_one; exact rfl; exact rfl; exact rfl; intro _)
    | apply VL_nil
    | apply VL_nilq
    | (apply VL_nilh; (repeat (first | with_reducible exact app_nil | with_reducible apply app_cons)))
    | apply VQ_then
    | apply VC_seq
    | apply VC_region
    | (apply VC_cond_true; exact rfl)
    | (apply VC_cond_false; exact rfl)
    | apply VC_block
    | apply VC_ret
    | apply VC_exit
    | apply VC_skip
    | apply VQ_then_ret
    | apply VQ_block_ret
    | apply VQ_block_normal
    | apply VQ_then_exit
    | apply VQ_block_exit
    | (apply VQ_block_other; exact rfl)
    | (apply VC_drawp; exact rfl; kernel_rfl; kernel_rfl)
    | (apply VL_heff; exact rfl; exact rfl; (repeat (first | with_reducible exact app_nil | with_reducible apply app_cons)))
    | (apply VQ_heldq; (repeat (first | with_reducible exact pull_nil | (with_reducible apply pull_cons; (repeat (first | with_reducible exact rem_here | with_reducible apply rem_there))))))
    | apply VQ_tailq
    | apply VQ_only)
  apply VL_call _ en16
  (repeat (first | exact args_nil | (apply args_cons; exact rfl)))
  exact rfl
  exact fun _ hw => (rmissing_spec x2 x3 hx (hw))
  rintro _ _ ⟨A4, c4, rfl, rfl⟩
  repeat' (first | (apply VL_move; exact rfl; exact rfl) | (apply VL_assign; exact rfl; exact rfl) | (apply VL_guard_no; exact rfl; exact rfl; exact rfl; exact rfl; exact rfl) | (apply VL_guard_yes; exact rfl; exact rfl; exact rfl) | (apply VL_nilCheck; exact rfl; exact rfl) | (apply VL_fieldAddr T; exact rfl; exact rfl; exact rfl) | (apply VL_load T; exact rfl; (repeat (first | with_reducible exact List.mem_cons_self | with_reducible apply List.mem_cons_of_mem)); exact rfl; exact rfl; exact rfl) | (apply VL_load_whole T; exact rfl; (repeat (first | with_reducible exact List.mem_cons_self | with_reducible apply List.mem_cons_of_mem)); exact rfl; exact rfl; exact rfl) | (apply VL_len T; exact rfl; exact rfl; exact rfl) | (apply VL_index_sl T; exact rfl; (repeat (first | with_reducible exact List.mem_cons_self | with_reducible apply List.mem_cons_of_mem)); exact rfl; exact rfl; exact rfl; omega) | (apply VL_pick_true; exact rfl; exact rfl; exact rfl) | (apply VL_pick_false; exact rfl; exact rfl; exact rfl) | (apply VL_extract; exact rfl; exact rfl; exact rfl) | (apply VL_slen T; exact rfl; exact rfl; exact rfl) | (apply VL_eql; exact rfl; exact rfl; exact rfl; all_goals (intro _; try (exfalso; omega))) | (apply VL_neq; exact rfl; exact rfl; exact rfl; all_goals (intro _; try (exfalso; omega))) | (apply VL_lss; exact rfl; exact rfl; exact rfl; all_goals (intro _; try (exfalso; omega))) | (apply VL_leq; exact rfl; exact rfl; exact rfl; all_goals (intro _; try (exfalso; omega))) | (apply VL_gtr; exact rfl; exact rfl; exact rfl; all_goals (intro _; try (exfalso; omega))) | (apply VL_geq; exact rfl; exact rfl; exact rfl; all_goals (intro _; try (exfalso; omega))) | (apply VL_seql0; exact rfl; exact rfl; all_goals (intro _ _; try (exfalso; omega))) | (apply VL_sneq0; exact rfl; exact rfl; all_goals (intro _ _; try (exfalso; omega))) | (apply VL_seql; exact rfl; exact rfl; exact rfl; all_goals intro _) | (apply VL_sneq; exact rfl; exact rfl; exact rfl; all_goals intro _) | (apply VL_min2; exact rfl; exact rfl; exact rfl; all_goals (intro _; try (exfalso; omega))) | (apply VL_substr T; exact rfl; exact rfl; exact rfl; exact rfl; exact rfl; omega) | (apply VL_substr_lo T; exact rfl; exact rfl; exact rfl; exact rfl; omega) | (apply VL_substr_hi T; exact rfl; exact rfl; exact rfl; exact rfl; omega) | (apply VL_index_str T; exact rfl; exact rfl; exact rfl; exact rfl; omega; intro _ _) | (apply VL_add; exact rfl; exact rfl; exact rfl; omega) | (apply VL_sub; exact rfl; exact rfl; exact rfl; omega) | (apply VL_mul; exact rfl; exact rfl; exact rfl; first | exact mul_bd (by omega) (by omega) (by omega) (by omega) | exact mul_bd' (by omega) (by omega) (by omega) (by omega) | omega) | (apply VL_add_any; exact rfl; exact rfl; exact rfl; intro _ _) | (apply VL_sub_any; exact rfl; exact rfl; exact rfl; intro _ _) | (apply VL_mul_any; exact rfl; exact rfl; exact rfl; intro _ _) | (apply VL_quo; exact rfl; exact rfl; exact rfl; omega) | (apply VL_rem; exact rfl; exact rfl; exact rfl; omega) | (apply VL_shr_c; exact rfl; exact rfl; (simp only [IntKind.bits]; omega); (simp only [Int.reduceToNat, Int.reducePow]; rfl)) | (apply VL_shr; exact rfl; exact rfl; exact rfl; (simp only [IntKind.bits]; omega)) | (apply VL_shl; exact rfl; exact rfl; exact rfl; (simp only [IntKind.bits]; omega)) | (apply VL_and; exact rfl; exact rfl; exact rfl) | (apply VL_or; exact rfl; exact rfl; exact rfl) | (apply VL_xor; exact rfl; exact rfl; exact rfl) | (apply VL_conv_id T; exact rfl; exact rfl; exact rfl; exact rfl; omega) | (apply VL_conv T; exact rfl; exact rfl; exact rfl; exact rfl) | (apply VL_not_true; exact rfl; exact rfl) | (apply VL_not_false; exact rfl; exact rfl) | (apply VL_append T; exact rfl; exact rfl; exact rfl; (repeat (first | with_reducible exact List.mem_cons_self | with_reducible apply List.mem_cons_of_mem)); exact rfl; exact rfl; exact rfl; (intro _ _; (repeat (first | with_reducible exact Upd.here _ | with_reducible apply Upd.there))); omega; intro _ _) | (apply VL_store T; exact rfl; exact rfl; exact rfl; (repeat (first | with_reducible exact Upd.here _ | with_reducible apply Upd.there)); (repeat (first | exact setat_here | apply setat_there)); exact rfl) | (apply VL_box_agg; exact rfl; exact rfl; intro _) | (apply VL_box_one; exact rfl; exact rfl; exact rfl; intro _) | apply VL_nil | apply VL_nilq | (apply VL_nilh; (repeat (first | with_reducible exact app_nil | with_reducible apply app_cons))) | apply VQ_then | apply VC_seq | apply VC_region | (apply VC_cond_true; exact rfl) | (apply VC_cond_false; exact rfl) | apply VC_block | apply VC_ret | apply VC_exit | apply VC_skip | apply VQ_then_ret | apply VQ_block_ret | apply VQ_block_normal | apply VQ_then_exit | apply VQ_block_exit | (apply VQ_block_other; exact rfl) | (apply VC_drawp; exact rfl; kernel_rfl; kernel_rfl) | (apply VL_heff; exact rfl; exact rfl; (repeat (first | with_reducible exact app_nil | with_reducible apply app_cons))) | (apply VQ_heldq; (repeat (first | with_reducible exact pull_nil | (with_reducible apply pull_cons; (repeat (first | with_reducible exact rem_here | with_reducible apply rem_there)))))) | apply VQ_tailq | apply VQ_only)
  obtain ⟨l, hl, hp⟩ : ∃ l : List Fr, splitCnt x0 data.size x1 = l.length ∧ pieces x0 data x1.toNat (splitCnt x0 data.size x1) (splitCnt x0 data.size x1) = frs l := ⟨(List.range (splitCnt x0 data.size x1)).map (frOf x0 data x1.toNat (splitCnt x0 data.size x1)), by simp, pieces_frs _ _ _ _ _⟩
  have hl32 := splitCnt_le x0 data.size x1
  have hm32 := missOf_le x2 x3
  rw [hp, hl]
  rw [hl] at hl32
  clear hp hl
  apply VC_draw
  kernel_rfl
  kernel_rfl
  repeat' (first | (apply VL_move; exact rfl; exact rfl) | (apply VL_assign; exact rfl; exact rfl) | (apply VL_guard_no; exact rfl; exact rfl; exact rfl; exact rfl; exact rfl) | (apply VL_guard_yes; exact rfl; exact rfl; exact rfl) | (apply VL_nilCheck; exact rfl; exact rfl) | (apply VL_fieldAddr T; exact rfl; exact rfl; exact rfl) | (apply VL_load T; exact rfl; (repeat (first | with_reducible exact List.mem_cons_self | with_reducible apply List.mem_cons_of_mem)); exact rfl; exact rfl; exact rfl) | (apply VL_load_whole T; exact rfl; (repeat (first | with_reducible exact List.mem_cons_self | with_reducible apply List.mem_cons_of_mem)); exact rfl; exact rfl; exact rfl) | (apply VL_len T; exact rfl; exact rfl; exact rfl) | (apply VL_index_sl T; exact rfl; (repeat (first | with_reducible exact List.mem_cons_self | with_reducible apply List.mem_cons_of_mem)); exact rfl; exact rfl; exact rfl; omega) | (apply VL_pick_true; exact rfl; exact rfl; exact rfl) | (apply VL_pick_false; exact rfl; exact rfl; exact rfl) | (apply VL_extract; exact rfl; exact rfl; exact rfl) | (apply VL_slen T; exact rfl; exact rfl; exact rfl) | (apply VL_eql; exact rfl; exact rfl; exact rfl; all_goals (intro _; try (exfalso; omega))) | (apply VL_neq; exact rfl; exact rfl; exact rfl; all_goals (intro _; try (exfalso; omega))) | (apply VL_lss; exact rfl; exact rfl; exact rfl; all_goals (intro _; try (exfalso; omega))) | (apply VL_leq; exact rfl; exact rfl; exact rfl; all_goals (intro _; try (exfalso; omega))) | (apply VL_gtr; exact rfl; exact rfl; exact rfl; all_goals (intro _; try (exfalso; omega))) | (apply VL_geq; exact rfl; exact rfl; exact rfl; all_goals (intro _; try (exfalso; omega))) | (apply VL_seql0; exact rfl; exact rfl; all_goals (intro _ _; try (exfalso; omega))) | (apply VL_sneq0; exact rfl; exact rfl; all_goals (intro _ _; try (exfalso; omega))) | (apply VL_seql; exact rfl; exact rfl; exact rfl; all_goals intro _) | (apply VL_sneq; exact rfl; exact rfl; exact rfl; all_goals intro _) | (apply VL_min2; exact rfl; exact rfl; exact rfl; all_goals (intro _; try (exfalso; omega))) | (apply VL_substr T; exact rfl; exact rfl; exact rfl; exact rfl; exact rfl; omega) | (apply VL_substr_lo T; exact rfl; exact rfl; exact rfl; exact rfl; omega) | (apply VL_substr_hi T; exact rfl; exact rfl; exact rfl; exact rfl; omega) | (apply VL_index_str T; exact rfl; exact rfl; exact rfl; exact rfl; omega; intro _ _) | (apply VL_add; exact rfl; exact rfl; exact rfl; omega) | (apply VL_sub; exact rfl; exact rfl; exact rfl; omega) | (apply VL_mul; exact rfl; exact rfl; exact rfl; first | exact mul_bd (by omega) (by omega) (by omega) (by omega) | exact mul_bd' (by omega) (by omega) (by omega) (by omega) | omega) | (apply VL_add_any; exact rfl; exact rfl; exact rfl; intro _ _) | (apply VL_sub_any; exact rfl; exact rfl; exact rfl; intro _ _) | (apply VL_mul_any; exact rfl; exact rfl; exact rfl; intro _ _) | (apply VL_quo; exact rfl; exact rfl; exact rfl; omega) | (apply VL_rem; exact rfl; exact rfl; exact rfl; omega) | (apply VL_shr_c; exact rfl; exact rfl; (simp only [IntKind.bits]; omega); (simp only [Int.reduceToNat, Int.reducePow]; rfl)) | (apply VL_shr; exact rfl; exact rfl; exact rfl; (simp only [IntKind.bits]; omega)) | (apply VL_shl; exact rfl; exact rfl; exact rfl; (simp only [IntKind.bits]; omega)) | (apply VL_and; exact rfl; exact rfl; exact rfl) | (apply VL_or; exact rfl; exact rfl; exact rfl) | (apply VL_xor; exact rfl; exact rfl; exact rfl) | (apply VL_conv_id T; exact rfl; exact rfl; exact rfl; exact rfl; omega) | (apply VL_conv T; exact rfl; exact rfl; exact rfl; exact rfl) | (apply VL_not_true; exact rfl; exact rfl) | (apply VL_not_false; exact rfl; exact rfl) | (apply VL_append T; exact rfl; exact rfl; exact rfl; (repeat (first | with_reducible exact List.mem_cons_self | with_reducible apply List.mem_cons_of_mem)); exact rfl; exact rfl; exact rfl; (intro _ _; (repeat (first | with_reducible exact Upd.here _ | with_reducible apply Upd.there))); omega; intro _ _) | (apply VL_store T; exact rfl; exact rfl; exact rfl; (repeat (first | with_reducible exact Upd.here _ | with_reducible apply Upd.there)); (repeat (first | exact setat_here | apply setat_there)); exact rfl) | (apply VL_box_agg; exact rfl; exact rfl; intro _) | (apply VL_box_one; exact rfl; exact rfl; exact rfl; intro _) | apply VL_nil | apply VL_nilq | (apply VL_nilh; (repeat (first | with_reducible exact app_nil | with_reducible apply app_cons))) | apply VQ_then | apply VC_seq | apply VC_region | (apply VC_cond_true; exact rfl) | (apply VC_cond_false; exact rfl) | apply VC_block | apply VC_ret | apply VC_exit | apply VC_skip | apply VQ_then_ret | apply VQ_block_ret | apply VQ_block_normal | apply VQ_then_exit | apply VQ_block_exit | (apply VQ_block_other; exact rfl) | (apply VC_drawp; exact rfl; kernel_rfl; kernel_rfl) | (apply VL_heff; exact rfl; exact rfl; (repeat (first | with_reducible exact app_nil | with_reducible apply app_cons))) | (apply VQ_heldq; (repeat (first | with_reducible exact pull_nil | (with_reducible apply pull_cons; (repeat (first | with_reducible exact rem_here | with_reducible apply rem_there)))))) | apply VQ_tailq | apply VQ_only)
  first | apply VL_callt en17 | apply VL_callq en17
  (repeat (first | exact args_nil | (apply args_cons; exact rfl)))
  exact rfl
  exact fun _ hw => (check_spec tag idx cnt size s (by omega) hw)
  repeat' (first | (apply VL_move; exact rfl; exact rfl) | (apply VL_assign; exact rfl; exact rfl) | (apply VL_guard_no; exact rfl; exact rfl; exact rfl; exact rfl; exact rfl) | (apply VL_guard_yes; exact rfl; exact rfl; exact rfl) | (apply VL_nilCheck; exact rfl; exact rfl) | (apply VL_fieldAddr T; exact rfl; exact rfl; exact rfl) | (apply VL_load T; exact rfl; (repeat (first | with_reducible exact List.mem_cons_self | with_reducible apply List.mem_cons_of_mem)); exact rfl; exact rfl; exact rfl) | (apply VL_load_whole T; exact rfl; (repeat (first | with_reducible exact List.mem_cons_self | with_reducible apply List.mem_cons_of_mem)); exact rfl; exact rfl; exact rfl) | (apply VL_len T; exact rfl; exact rfl; exact rfl) | (apply VL_index_sl T; exact rfl; (repeat (first | with_reducible exact List.mem_cons_self | with_reducible apply List.mem_cons_of_mem)); exact rfl; exact rfl; exact rfl; omega) | (apply VL_pick_true; exact rfl; exact rfl; exact rfl) | (apply VL_pick_false; exact rfl; exact rfl; exact rfl) | (apply VL_extract; exact rfl; exact rfl; exact rfl) | (apply VL_slen T; exact rfl; exact rfl; exact rfl) | (apply VL_eql; exact rfl; exact rfl; exact rfl; all_goals (intro _; try (exfalso; omega))) | (apply VL_neq; exact rfl; exact rfl; exact rfl; all_goals (intro _; try (exfalso; omega))) | (apply VL_lss; exact rfl; exact rfl; exact rfl; all_goals (intro _; try (exfalso; omega))) | (apply VL_leq; exact rfl; exact rfl; exact rfl; all_goals (intro _; try (exfalso; omega))) | (apply VL_gtr; exact rfl; exact rfl; exact rfl; all_goals (intro _; try (exfalso; omega))) | (apply VL_geq; exact rfl; exact rfl; exact rfl; all_goals (intro _; try (exfalso; omega))) | (apply VL_seql0; exact rfl; exact rfl; all_goals (intro _ _; try (exfalso; omega))) | (apply VL_sneq0; exact rfl; exact rfl; all_goals (intro _ _; try (exfalso; omega))) | (apply VL_seql; exact rfl; exact rfl; exact rfl; all_goals intro _) | (apply VL_sneq; exact rfl; exact rfl; exact rfl; all_goals intro _) | (apply VL_min2; exact rfl; exact rfl; exact rfl; all_goals (intro _; try (exfalso; omega))) | (apply VL_substr T; exact rfl; exact rfl; exact rfl; exact rfl; exact rfl; omega) | (apply VL_substr_lo T; exact rfl; exact rfl; exact rfl; exact rfl; omega) | (apply VL_substr_hi T; exact rfl; exact rfl; exact rfl; exact rfl; omega) | (apply VL_index_str T; exact rfl; exact rfl; exact rfl; exact rfl; omega; intro _ _) | (apply VL_add; exact rfl; exact rfl; exact rfl; omega) | (apply VL_sub; exact rfl; exact rfl; exact rfl; omega) | (apply VL_mul; exact rfl; exact rfl; exact rfl; first | exact mul_bd (by omega) (by omega) (by omega) (by omega) | exact mul_bd' (by omega) (by omega) (by omega) (by omega) | omega) | (apply VL_add_any; exact rfl; exact rfl; exact rfl; intro _ _) | (apply VL_sub_any; exact rfl; exact rfl; exact rfl; intro _ _) | (apply VL_mul_any; exact rfl; exact rfl; exact rfl; intro _ _) | (apply VL_quo; exact rfl; exact rfl; exact rfl; omega) | (apply VL_rem; exact rfl; exact rfl; exact rfl; omega) | (apply VL_shr_c; exact rfl; exact rfl; (simp only [IntKind.bits]; omega); (simp only [Int.reduceToNat, Int.reducePow]; rfl)) | (apply VL_shr; exact rfl; exact rfl; exact rfl; (simp only [IntKind.bits]; omega)) | (apply VL_shl; exact rfl; exact rfl; exact rfl; (simp only [IntKind.bits]; omega)) | (apply VL_and; exact rfl; exact rfl; exact rfl) | (apply VL_or; exact rfl; exact rfl; exact rfl) | (apply VL_xor; exact rfl; exact rfl; exact rfl) | (apply VL_conv_id T; exact rfl; exact rfl; exact rfl; exact rfl; omega) | (apply VL_conv T; exact rfl; exact rfl; exact rfl; exact rfl) | (apply VL_not_true; exact rfl; exact rfl) | (apply VL_not_false; exact rfl; exact rfl) | (apply VL_append T; exact rfl; exact rfl; exact rfl; (repeat (first | with_reducible exact List.mem_cons_self | with_reducible apply List.mem_cons_of_mem)); exact rfl; exact rfl; exact rfl; (intro _ _; (repeat (first | with_reducible exact Upd.here _ | with_reducible apply Upd.there))); omega; intro _ _) | (apply VL_store T; exact rfl; exact rfl; exact rfl; (repeat (first | with_reducible exact Upd.here _ | with_reducible apply Upd.there)); (repeat (first | exact setat_here | apply setat_there)); exact rfl) | (apply VL_box_agg; exact rfl; exact rfl; intro _) | (apply VL_box_one; exact rfl; exact rfl; exact rfl; intro _) | apply VL_nil | apply VL_nilq | (apply VL_nilh; (repeat (first | with_reducible exact app_nil | with_reducible apply app_cons))) | apply VQ_then | apply VC_seq | apply VC_region | (apply VC_cond_true; exact rfl) | (apply VC_cond_false; exact rfl) | apply VC_block | apply VC_ret | apply VC_exit | apply VC_skip | apply VQ_then_ret | apply VQ_block_ret | apply VQ_block_normal | apply VQ_then_exit | apply VQ_block_exit | (apply VQ_block_other; exact rfl) | (apply VC_drawp; exact rfl; kernel_rfl; kernel_rfl) | (apply VL_heff; exact rfl; exact rfl; (repeat (first | with_reducible exact app_nil | with_reducible apply app_cons))) | (apply VQ_heldq; (repeat (first | with_reducible exact pull_nil | (with_reducible apply pull_cons; (repeat (first | with_reducible exact rem_here | with_reducible apply rem_there)))))) | apply VQ_tailq | apply VQ_only)
  first | apply VL_callt en18 | apply VL_callq en18
  (repeat (first | exact args_nil | (apply args_cons; exact rfl)))
  exact rfl
  exact fun _ hw => (rcheck_spec tag idx cnt size s (by omega) hw)
  rw [← Fm.part_length tag idx cnt size s.size (by omega)]
  repeat' (first
    | (apply VL_eql; exact rfl; exact rfl; exact rfl; (intro _); (exact fun h => absurd rfl h))
    | (apply VL_move; exact rfl; exact rfl)
    | (apply VL_assign; exact rfl; exact rfl)
    | (apply VL_guard_no; exact rfl; exact rfl; exact rfl; exact rfl; exact rfl)
    | (apply VL_guard_yes; exact rfl; exact rfl; exact rfl)
    | (apply VL_nilCheck; exact rfl; exact rfl)
    | (apply VL_fieldAddr T; exact rfl; exact rfl; exact rfl)
    | (apply VL_load T; exact rfl; (repeat (first | with_reducible exact List.mem_cons_self | with_reducible apply List.mem_cons_of_mem)); exact rfl; exact rfl; exact rfl)
    | (apply VL_load_whole T; exact rfl; (repeat (first | with_reducible exact List.mem_cons_self | with_reducible apply List.mem_cons_of_mem)); exact rfl; exact rfl; exact rfl)
    | (apply VL_len T; exact rfl; exact rfl; exact rfl)
    | (apply VL_index_sl T; exact rfl; (repeat (first | with_reducible exact List.mem_cons_self | with_reducible apply List.mem_cons_of_mem)); exact rfl; exact rfl; exact rfl; omega)
    | (apply VL_pick_true; exact rfl; exact rfl; exact rfl)
    | (apply VL_pick_false; exact rfl; exact rfl; exact rfl)
    | (apply VL_extract; exact rfl; exact rfl; exact rfl)
    | (apply VL_slen T; exact rfl; exact rfl; exact rfl)
    | (apply VL_eql; exact rfl; exact rfl; exact rfl; all_goals (intro _; try (exfalso; omega)))
    | (apply VL_neq; exact rfl; exact rfl; exact rfl; all_goals (intro _; try (exfalso; omega)))
    | (apply VL_lss; exact rfl; exact rfl; exact rfl; all_goals (intro _; try (exfalso; omega)))
    | (apply VL_leq; exact rfl; exact rfl; exact rfl; all_goals (intro _; try (exfalso; omega)))
    | (apply VL_gtr; exact rfl; exact rfl; exact rfl; all_goals (intro _; try (exfalso; omega)))
    | (apply VL_geq; exact rfl; exact rfl; exact rfl; all_goals (intro _; try (exfalso; omega)))
    | (apply VL_seql0; exact rfl; exact rfl; all_goals (intro _ _; try (exfalso; omega)))
    | (apply VL_sneq0; exact rfl; exact rfl; all_goals (intro _ _; try (exfalso; omega)))
    | (apply VL_seql; exact rfl; exact rfl; exact rfl; all_goals intro _)
    | (apply VL_sneq; exact rfl; exact rfl; exact rfl; all_goals intro _)
    | (apply VL_min2; exact rfl; exact rfl; exact rfl; all_goals (intro _; try (exfalso; omega)))
    | (apply VL_substr T; exact rfl; exact rfl; exact rfl; exact rfl; exact rfl; omega)
    | (apply VL_substr_lo T; exact rfl; exact rfl; exact rfl; exact rfl; omega)
    | (apply VL_substr_hi T; exact rfl; exact rfl; exact rfl; exact rfl; omega)
    | (apply VL_index_str T; exact rfl; exact rfl; exact rfl; exact rfl; omega; intro _ _)
    | (apply VL_add; exact rfl; exact rfl; exact rfl; omega)
    | (apply VL_sub; exact rfl; exact rfl; exact rfl; omega)
    | (apply VL_mul; exact rfl; exact rfl; exact rfl; first | exact mul_bd (by omega) (by omega) (by omega) (by omega) | exact mul_bd' (by omega) (by omega) (by omega) (by omega) | omega)
    | (apply VL_add_any; exact rfl; exact rfl; exact rfl; intro _ _)
    | (apply VL_sub_any; exact rfl; exact rfl; exact rfl; intro _ _)
    | (apply VL_mul_any; exact rfl; exact rfl; exact rfl; intro _ _)
    | (apply VL_quo; exact rfl; exact rfl; exact rfl; omega)
    | (apply VL_rem; exact rfl; exact rfl; exact rfl; omega)
    | (apply VL_shr_c; exact rfl; exact rfl; (simp only [IntKind.bits]; omega); (simp only [Int.reduceToNat, Int.reducePow]; rfl))
    | (apply VL_shr; exact rfl; exact rfl; exact rfl; (simp only [IntKind.bits]; omega))
    | (apply VL_shl; exact rfl; exact rfl; exact rfl; (simp only [IntKind.bits]; omega))
    | (apply VL_and; exact rfl; exact rfl; exact rfl)
    | (apply VL_or; exact rfl; exact rfl; exact rfl)
    | (apply VL_xor; exact rfl; exact rfl; exact rfl)
    | (apply VL_conv_id T; exact rfl; exact rfl; exact rfl; exact rfl; omega)
    | (apply VL_conv T; exact rfl; exact rfl; exact rfl; exact rfl)
    | (apply VL_not_true; exact rfl; exact rfl)
    | (apply VL_not_false; exact rfl; exact rfl)
    | (apply VL_append T; exact rfl; exact rfl; exact rfl; (repeat (first | with_reducible exact List.mem_cons_self | with_reducible apply List.mem_cons_of_mem)); exact rfl; exact rfl; exact rfl; (intro _ _; (repeat (first | with_reducible exact Upd.here _ | with_reducible apply Upd.there))); omega; intro _ _)
    | (apply VL_store T; exact rfl; exact rfl; exact rfl; (repeat (first | with_reducible exact Upd.here _ | with_reducible apply Upd.there)); (repeat (first | exact setat_here | apply setat_there)); exact rfl)
    | (apply VL_box_agg; exact rfl; exact rfl; intro _)
    | (apply VL_box_one; exact rfl; exact rfl; exact rfl; intro _)
    | apply VL_nil
    | apply VL_nilq
    | (apply VL_nilh; (repeat (first | with_reducible exact app_nil | with_reducible apply app_cons)))
    | apply VQ_then
    | apply VC_seq
    | apply VC_region
    | (apply VC_cond_true; exact rfl)
    | (apply VC_cond_false; exact rfl)
    | apply VC_block
    | apply VC_ret
    | apply VC_exit
    | apply VC_skip
    | apply VQ_then_ret
    | apply VQ_block_ret
    | apply VQ_block_normal
    | apply VQ_then_exit
    | apply VQ_block_exit
    | (apply VQ_block_other; exact rfl)
    | (apply VC_drawp; exact rfl; kernel_rfl; kernel_rfl)
    | (apply VL_heff; exact rfl; exact rfl; (repeat (first | with_reducible exact app_nil | with_reducible apply app_cons)))
    | (apply VQ_heldq; (repeat (first | with_reducible exact pull_nil | (with_reducible apply pull_cons; (repeat (first | with_reducible exact rem_here | with_reducible apply rem_there))))))
    | apply VQ_tailq
    | apply VQ_only)
  apply VL_callq en19
  (repeat (first | exact args_nil | (apply args_cons; exact rfl)))
  exact rfl
  exact fun _ hw => eqFrag_spec l (by omega) (.tail _ (.tail _ (.tail _ (.head _)))) (.tail _ (.tail _ (.head _))) hw
  repeat' (first
    | (apply VL_eql; exact rfl; exact rfl; exact rfl; (intro _); (exact fun h => absurd rfl h))
    | (apply VL_seql; exact rfl; exact rfl; exact rfl; rotate_left; exact fun h => absurd rfl h; intro _)
    | (apply VL_move; exact rfl; exact rfl)
    | (apply VL_assign; exact rfl; exact rfl)
    | (apply VL_guard_no; exact rfl; exact rfl; exact rfl; exact rfl; exact rfl)
    | (apply VL_guard_yes; exact rfl; exact rfl; exact rfl)
    | (apply VL_nilCheck; exact rfl; exact rfl)
    | (apply VL_fieldAddr T; exact rfl; exact rfl; exact rfl)
    | (apply VL_load T; exact rfl; (repeat (first | with_reducible exact List.mem_cons_self | with_reducible apply List.mem_cons_of_mem)); exact rfl; exact rfl; exact rfl)
    | (apply VL_load_whole T; exact rfl; (repeat (first | with_reducible exact List.mem_cons_self | with_reducible apply List.mem_cons_of_mem)); exact rfl; exact rfl; exact rfl)
    | (apply VL_len T; exact rfl; exact rfl; exact rfl)
    | (apply VL_index_sl T; exact rfl; (repeat (first | with_reducible exact List.mem_cons_self | with_reducible apply List.mem_cons_of_mem)); exact rfl; exact rfl; exact rfl; omega)
    | (apply VL_pick_true; exact rfl; exact rfl; exact rfl)
    | (apply VL_pick_false; exact rfl; exact rfl; exact rfl)
    | (apply VL_extract; exact rfl; exact rfl; exact rfl)
    | (apply VL_slen T; exact rfl; exact rfl; exact rfl)
    | (apply VL_eql; exact rfl; exact rfl; exact rfl; all_goals (intro _; try (exfalso; omega)))
    | (apply VL_neq; exact rfl; exact rfl; exact rfl; all_goals (intro _; try (exfalso; omega)))
    | (apply VL_lss; exact rfl; exact rfl; exact rfl; all_goals (intro _; try (exfalso; omega)))
    | (apply VL_leq; exact rfl; exact rfl; exact rfl; all_goals (intro _; try (exfalso; omega)))
    | (apply VL_gtr; exact rfl; exact rfl; exact rfl; all_goals (intro _; try (exfalso; omega)))
    | (apply VL_geq; exact rfl; exact rfl; exact rfl; all_goals (intro _; try (exfalso; omega)))
    | (apply VL_seql0; exact rfl; exact rfl; all_goals (intro _ _; try (exfalso; omega)))
    | (apply VL_sneq0; exact rfl; exact rfl; all_goals (intro _ _; try (exfalso; omega)))
    | (apply VL_seql; exact rfl; exact rfl; exact rfl; all_goals intro _)
    | (apply VL_sneq; exact rfl; exact rfl; exact rfl; all_goals intro _)
    | (apply VL_min2; exact rfl; exact rfl; exact rfl; all_goals (intro _; try (exfalso; omega)))
    | (apply VL_substr T; exact rfl; exact rfl; exact rfl; exact rfl; exact rfl; omega)
    | (apply VL_substr_lo T; exact rfl; exact rfl; exact rfl; exact rfl; omega)
    | (apply VL_substr_hi T; exact rfl; exact rfl; exact rfl; exact rfl; omega)
    | (apply VL_index_str T; exact rfl; exact rfl; exact rfl; exact rfl; omega; intro _ _)
    | (apply VL_add; exact rfl; exact rfl; exact rfl; omega)
    | (apply VL_sub; exact rfl; exact rfl; exact rfl; omega)
    | (apply VL_mul; exact rfl; exact rfl; exact rfl; first | exact mul_bd (by omega) (by omega) (by omega) (by omega) | exact mul_bd' (by omega) (by omega) (by omega) (by omega) | omega)
    | (apply VL_add_any; exact rfl; exact rfl; exact rfl; intro _ _)
    | (apply VL_sub_any; exact rfl; exact rfl; exact rfl; intro _ _)
    | (apply VL_mul_any; exact rfl; exact rfl; exact rfl; intro _ _)
    | (apply VL_quo; exact rfl; exact rfl; exact rfl; omega)
    | (apply VL_rem; exact rfl; exact rfl; exact rfl; omega)
    | (apply VL_shr_c; exact rfl; exact rfl; (simp only [IntKind.bits]; omega); (simp only [Int.reduceToNat, Int.reducePow]; rfl))
    | (apply VL_shr; exact rfl; exact rfl; exact rfl; (simp only [IntKind.bits]; omega))
    | (apply VL_shl; exact rfl; exact rfl; exact rfl; (simp only [IntKind.bits]; omega))
    | (apply VL_and; exact rfl; exact rfl; exact rfl)
    | (apply VL_or; exact rfl; exact rfl; exact rfl)
    | (apply VL_xor; exact rfl; exact rfl; exact rfl)
    | (apply VL_conv_id T; exact rfl; exact rfl; exact rfl; exact rfl; omega)
    | (apply VL_conv T; exact rfl; exact rfl; exact rfl; exact rfl)
    | (apply VL_not_true; exact rfl; exact rfl)
    | (apply VL_not_false; exact rfl; exact rfl)
    | (apply VL_append T; exact rfl; exact rfl; exact rfl; (repeat (first | with_reducible exact List.mem_cons_self | with_reducible apply List.mem_cons_of_mem)); exact rfl; exact rfl; exact rfl; (intro _ _; (repeat (first | with_reducible exact Upd.here _ | with_reducible apply Upd.there))); omega; intro _ _)
    | (apply VL_store T; exact rfl; exact rfl; exact rfl; (repeat (first | with_reducible exact Upd.here _ | with_reducible apply Upd.there)); (repeat (first | exact setat_here | apply setat_there)); exact rfl)
    | (apply VL_box_agg; exact rfl; exact rfl; intro _)
    | (apply VL_box_one; exact rfl; exact rfl; exact rfl; intro _)
    | apply VL_nil
    | apply VL_nilq
    | (apply VL_nilh; (repeat (first | with_reducible exact app_nil | with_reducible apply app_cons)))
    | apply VQ_then
    | apply VC_seq
    | apply VC_region
    | (apply VC_cond_true; exact rfl)
    | (apply VC_cond_false; exact rfl)
    | apply VC_block
    | apply VC_ret
    | apply VC_exit
    | apply VC_skip
    | apply VQ_then_ret
    | apply VQ_block_ret
    | apply VQ_block_normal
    | apply VQ_then_exit
    | apply VQ_block_exit
    | (apply VQ_block_other; exact rfl)
    | (apply VC_drawp; exact rfl; kernel_rfl; kernel_rfl)
    | (apply VL_heff; exact rfl; exact rfl; (repeat (first | with_reducible exact app_nil | with_reducible apply app_cons)))
    | (apply VQ_heldq; (repeat (first | with_reducible exact pull_nil | (with_reducible apply pull_cons; (repeat (first | with_reducible exact rem_here | with_reducible apply rem_there))))))
    | apply VQ_tailq
    | apply VQ_only)
  apply VL_callq en20
  (repeat (first | exact args_nil | (apply args_cons; exact rfl)))
  exact rfl
  exact fun _ hw => eqInt_spec _ (by omega) (.tail _ (.head _)) (.head _) hw
  repeat' (first
    | (apply VL_eql; exact rfl; exact rfl; exact rfl; (intro _); (exact fun h => absurd rfl h))
    | (apply VL_move; exact rfl; exact rfl)
    | (apply VL_assign; exact rfl; exact rfl)
    | (apply VL_guard_no; exact rfl; exact rfl; exact rfl; exact rfl; exact rfl)
    | (apply VL_guard_yes; exact rfl; exact rfl; exact rfl)
    | (apply VL_nilCheck; exact rfl; exact rfl)
    | (apply VL_fieldAddr T; exact rfl; exact rfl; exact rfl)
    | (apply VL_load T; exact rfl; (repeat (first | with_reducible exact List.mem_cons_self | with_reducible apply List.mem_cons_of_mem)); exact rfl; exact rfl; exact rfl)
    | (apply VL_load_whole T; exact rfl; (repeat (first | with_reducible exact List.mem_cons_self | with_reducible apply List.mem_cons_of_mem)); exact rfl; exact rfl; exact rfl)
    | (apply VL_len T; exact rfl; exact rfl; exact rfl)
    | (apply VL_index_sl T; exact rfl; (repeat (first | with_reducible exact List.mem_cons_self | with_reducible apply List.mem_cons_of_mem)); exact rfl; exact rfl; exact rfl; omega)
    | (apply VL_pick_true; exact rfl; exact rfl; exact rfl)
    | (apply VL_pick_false; exact rfl; exact rfl; exact rfl)
    | (apply VL_extract; exact rfl; exact rfl; exact rfl)
    | (apply VL_slen T; exact rfl; exact rfl; exact rfl)
    | (apply VL_eql; exact rfl; exact rfl; exact rfl; all_goals (intro _; try (exfalso; omega)))
    | (apply VL_neq; exact rfl; exact rfl; exact rfl; all_goals (intro _; try (exfalso; omega)))
    | (apply VL_lss; exact rfl; exact rfl; exact rfl; all_goals (intro _; try (exfalso; omega)))
    | (apply VL_leq; exact rfl; exact rfl; exact rfl; all_goals (intro _; try (exfalso; omega)))
    | (apply VL_gtr; exact rfl; exact rfl; exact rfl; all_goals (intro _; try (exfalso; omega)))
    | (apply VL_geq; exact rfl; exact rfl; exact rfl; all_goals (intro _; try (exfalso; omega)))
    | (apply VL_seql0; exact rfl; exact rfl; all_goals (intro _ _; try (exfalso; omega)))
    | (apply VL_sneq0; exact rfl; exact rfl; all_goals (intro _ _; try (exfalso; omega)))
    | (apply VL_seql; exact rfl; exact rfl; exact rfl; all_goals intro _)
    | (apply VL_sneq; exact rfl; exact rfl; exact rfl; all_goals intro _)
    | (apply VL_min2; exact rfl; exact rfl; exact rfl; all_goals (intro _; try (exfalso; omega)))
    | (apply VL_substr T; exact rfl; exact rfl; exact rfl; exact rfl; exact rfl; omega)
    | (apply VL_substr_lo T; exact rfl; exact rfl; exact rfl; exact rfl; omega)
    | (apply VL_substr_hi T; exact rfl; exact rfl; exact rfl; exact rfl; omega)
    | (apply VL_index_str T; exact rfl; exact rfl; exact rfl; exact rfl; omega; intro _ _)
    | (apply VL_add; exact rfl; exact rfl; exact rfl; omega)
    | (apply VL_sub; exact rfl; exact rfl; exact rfl; omega)
    | (apply VL_mul; exact rfl; exact rfl; exact rfl; first | exact mul_bd (by omega) (by omega) (by omega) (by omega) | exact mul_bd' (by omega) (by omega) (by omega) (by omega) | omega)
    | (apply VL_add_any; exact rfl; exact rfl; exact rfl; intro _ _)
    | (apply VL_sub_any; exact rfl; exact rfl; exact rfl; intro _ _)
    | (apply VL_mul_any; exact rfl; exact rfl; exact rfl; intro _ _)
    | (apply VL_quo; exact rfl; exact rfl; exact rfl; omega)
    | (apply VL_rem; exact rfl; exact rfl; exact rfl; omega)
    | (apply VL_shr_c; exact rfl; exact rfl; (simp only [IntKind.bits]; omega); (simp only [Int.reduceToNat, Int.reducePow]; rfl))
    | (apply VL_shr; exact rfl; exact rfl; exact rfl; (simp only [IntKind.bits]; omega))
    | (apply VL_shl; exact rfl; exact rfl; exact rfl; (simp only [IntKind.bits]; omega))
    | (apply VL_and; exact rfl; exact rfl; exact rfl)
    | (apply VL_or; exact rfl; exact rfl; exact rfl)
    | (apply VL_xor; exact rfl; exact rfl; exact rfl)
    | (apply VL_conv_id T; exact rfl; exact rfl; exact rfl; exact rfl; omega)
    | (apply VL_conv T; exact rfl; exact rfl; exact rfl; exact rfl)
    | (apply VL_not_true; exact rfl; exact rfl)
    | (apply VL_not_false; exact rfl; exact rfl)
    | (apply VL_append T; exact rfl; exact rfl; exact rfl; (repeat (first | with_reducible exact List.mem_cons_self | with_reducible apply List.mem_cons_of_mem)); exact rfl; exact rfl; exact rfl; (intro _ _; (repeat (first | with_reducible exact Upd.here _ | with_reducible apply Upd.there))); omega; intro _ _)
    | (apply VL_store T; exact rfl; exact rfl; exact rfl; (repeat (first | with_reducible exact Upd.here _ | with_reducible apply Upd.there)); (repeat (first | exact setat_here | apply setat_there)); exact rfl)
    | (apply VL_box_agg; exact rfl; exact rfl; intro _)
    | (apply VL_box_one; exact rfl; exact rfl; exact rfl; intro _)
    | apply VL_nil
    | apply VL_nilq
    | (apply VL_nilh; (repeat (first | with_reducible exact app_nil | with_reducible apply app_cons)))
    | apply VQ_then
    | apply VC_seq
    | apply VC_region
    | (apply VC_cond_true; exact rfl)
    | (apply VC_cond_false; exact rfl)
    | apply VC_block
    | apply VC_ret
    | apply VC_exit
    | apply VC_skip
    | apply VQ_then_ret
    | apply VQ_block_ret
    | apply VQ_block_normal
    | apply VQ_then_exit
    | apply VQ_block_exit
    | (apply VQ_block_other; exact rfl)
    | (apply VC_drawp; exact rfl; kernel_rfl; kernel_rfl)
    | (apply VL_heff; exact rfl; exact rfl; (repeat (first | with_reducible exact app_nil | with_reducible apply app_cons)))
    | (apply VQ_heldq; (repeat (first | with_reducible exact pull_nil | (with_reducible apply pull_cons; (repeat (first | with_reducible exact rem_here | with_reducible apply rem_there))))))
    | apply VQ_tailq
    | apply VQ_only)
  apply VQ_tail; apply VQ_tail; apply VQ_tail; apply VQ_tail; apply VQ_tail; apply VQ_tail
  apply VQ_ret1; exact rfl; exact rfl
  exact ⟨rfl, rfl⟩
end Go.Proofs.Ytfobgjhjigkigaa
