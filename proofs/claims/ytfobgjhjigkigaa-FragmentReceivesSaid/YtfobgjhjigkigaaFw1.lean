/- Walks: part, Length, Check of both texts. -/
import Derived.Test.YtfobgjhjigkigaaTab
import Derived.Test.YtfobgjhjigkigaaE3

import Derived.Test.YtfobgjhjigkigaaFm
namespace Go.Proofs.Ytfobgjhjigkigaa
open Go.RowKit Go.Eng

set_option maxRecDepth 10000 in
theorem part_spec (tag idx cnt size : Int) (s : ByteArray) (hs : s.size ≤ 9223372036854775807) {B : Nat} {w0 : World} {H : List HP} {w : World} (hw : St B w0 H w) :
    Calls Try.prog 42 [.agg #[.int .i64 tag, .int .i64 idx, .int .i64 cnt, .int .i64 size, .string s]].toArray w (Post B w0 fun v K => v = .int .i64 (Fm.part tag idx cnt size s.size) ∧ K = H) := by
  refine Calls_of_VC Try.func42 Try.ntmps42 rfl rfl hw ?_
  repeat' (first | (apply VL_move; exact rfl; exact rfl) | (apply VL_assign; exact rfl; exact rfl) | (apply VL_guard_no; exact rfl; exact rfl; exact rfl; exact rfl; exact rfl) | (apply VL_guard_yes; exact rfl; exact rfl; exact rfl) | (apply VL_fieldAddr T; exact rfl; exact rfl; exact rfl) | (apply VL_load T; exact rfl; (focus repeat (first | with_reducible exact List.mem_cons_self | with_reducible apply List.mem_cons_of_mem | assumption)); exact rfl; exact rfl; exact rfl) | (apply VL_pick_true; exact rfl; exact rfl; exact rfl) | (apply VL_pick_false; exact rfl; exact rfl; exact rfl) | (apply VL_slen T; exact rfl; exact rfl; exact rfl) | (apply VL_eql; exact rfl; exact rfl; exact rfl; all_goals (intro _; try (exfalso; omega))) | (apply VL_neq; exact rfl; exact rfl; exact rfl; all_goals (intro _; try (exfalso; omega))) | (apply VL_lss; exact rfl; exact rfl; exact rfl; all_goals (intro _; try (exfalso; omega))) | (apply VL_gtr; exact rfl; exact rfl; exact rfl; all_goals (intro _; try (exfalso; omega))) | (apply VL_geq; exact rfl; exact rfl; exact rfl; all_goals (intro _; try (exfalso; omega))) | (apply VL_sub; exact rfl; exact rfl; exact rfl; omega) | (apply VL_mul; exact rfl; exact rfl; exact rfl; first | exact mul_bd (by omega) (by omega) (by omega) (by omega) | exact mul_bd' (by omega) (by omega) (by omega) (by omega) | omega) | (apply VL_sub_any; exact rfl; exact rfl; exact rfl; intro _ _) | (apply VL_quo; exact rfl; exact rfl; exact rfl; omega) | (apply VL_rem; exact rfl; exact rfl; exact rfl; omega) | (apply VL_box_agg; exact rfl; exact rfl; intro _) | apply VL_nil | apply VL_nilq | apply VQ_then | apply VC_seq | apply VC_region | (apply VC_cond_true; exact rfl) | (apply VC_cond_false; exact rfl) | apply VC_block | apply VC_ret | apply VC_skip | apply VQ_then_ret | apply VQ_block_ret | apply VQ_block_normal | (apply VC_drawp; exact rfl; kernel_rfl; kernel_rfl))
  all_goals (((repeat apply VQ_tail); apply VQ_ret1; exact rfl; exact rfl; refine ⟨congrArg _ ?_, rfl⟩); unfold Fm.part; (repeat (first | refine eq_ite_neg (by omega) ?_ | refine eq_ite_pos (by omega) ?_)); first | rfl | omega)

set_option maxRecDepth 10000 in
theorem length_spec (tag idx cnt size : Int) (s : ByteArray) (hs : s.size ≤ 9223372036854775807) {B : Nat} {w0 : World} {H : List HP} {w : World} (hw : St B w0 H w) :
    Calls Try.prog 43 [.agg #[.int .i64 tag, .int .i64 idx, .int .i64 cnt, .int .i64 size, .string s]].toArray w (Post B w0 fun v K => v = .int .i64 (Fm.length tag idx cnt size s.size) ∧ K = H) := by
  refine Calls_of_VC Try.func43 Try.ntmps43 rfl rfl hw ?_
  repeat' (first | (apply VL_move; exact rfl; exact rfl) | (apply VL_assign; exact rfl; exact rfl) | (apply VL_guard_no; exact rfl; exact rfl; exact rfl; exact rfl; exact rfl) | (apply VL_guard_yes; exact rfl; exact rfl; exact rfl) | (apply VL_fieldAddr T; exact rfl; exact rfl; exact rfl) | (apply VL_load T; exact rfl; (focus repeat (first | with_reducible exact List.mem_cons_self | with_reducible apply List.mem_cons_of_mem | assumption)); exact rfl; exact rfl; exact rfl) | (apply VL_pick_true; exact rfl; exact rfl; exact rfl) | (apply VL_pick_false; exact rfl; exact rfl; exact rfl) | (apply VL_slen T; exact rfl; exact rfl; exact rfl) | (apply VL_eql; exact rfl; exact rfl; exact rfl; all_goals (intro _; try (exfalso; omega))) | (apply VL_neq; exact rfl; exact rfl; exact rfl; all_goals (intro _; try (exfalso; omega))) | (apply VL_lss; exact rfl; exact rfl; exact rfl; all_goals (intro _; try (exfalso; omega))) | (apply VL_gtr; exact rfl; exact rfl; exact rfl; all_goals (intro _; try (exfalso; omega))) | (apply VL_geq; exact rfl; exact rfl; exact rfl; all_goals (intro _; try (exfalso; omega))) | (apply VL_sub; exact rfl; exact rfl; exact rfl; omega) | (apply VL_sub_any; exact rfl; exact rfl; exact rfl; intro _ _) | (apply VL_mul_any; exact rfl; exact rfl; exact rfl; intro _ _) | (apply VL_quo; exact rfl; exact rfl; exact rfl; omega) | (apply VL_rem; exact rfl; exact rfl; exact rfl; omega) | (apply VL_box_agg; exact rfl; exact rfl; intro _) | apply VL_nil | apply VQ_then | apply VC_seq | apply VC_region | (apply VC_cond_true; exact rfl) | (apply VC_cond_false; exact rfl) | apply VC_ret | apply VC_skip | apply VQ_then_ret)
  all_goals (((repeat apply VQ_tail); apply VQ_ret1; exact rfl; exact rfl; refine ⟨congrArg _ ?_, rfl⟩); unfold Fm.length)
  all_goals ((try have b1 := @mul_nn ((size - s.size) / (cnt - 1)) (cnt - 1) (by omega) (by omega) (by omega) (by omega)); (try have b2 := @mul_nn s.size (cnt - 1) (by omega) (by omega) (by omega) (by omega)))
  all_goals ((repeat (first | refine eq_ite_neg (by omega) ?_ | refine eq_ite_pos (by omega) ?_)); first | rfl | omega)

theorem check_spec (tag idx cnt size : Int) (s : ByteArray) (hs : s.size ≤ 9223372036854775807) {B : Nat} {w0 : World} {H : List HP} {w : World} (hw : St B w0 H w) :
    Calls Try.prog 17 [.agg #[.int .i64 tag, .int .i64 idx, .int .i64 cnt, .int .i64 size, .string s]].toArray w (Post B w0 fun v K => v = .int .i64 (if Fm.part tag idx cnt size s.size = 0 then 1 else 0) ∧ K = H) := by
  refine Calls_of_VC Try.func17 Try.ntmps17 rfl rfl hw ?_
  repeat' (first | (apply VL_assign; exact rfl; exact rfl) | (apply VL_load_whole T; exact rfl; (focus repeat (first | with_reducible exact List.mem_cons_self | with_reducible apply List.mem_cons_of_mem | assumption)); exact rfl; exact rfl; exact rfl) | (apply VL_box_agg; exact rfl; exact rfl; intro _) | apply VL_nil | apply VQ_then | apply VC_seq | apply VC_region)
  first | apply VL_callt en42 | apply VL_callq en42
  (repeat (first | exact args_nil | (apply args_cons; exact rfl)))
  exact rfl
  exact fun _ hw => (part_spec _ _ _ _ _ hs hw)
  repeat' (first | (apply VL_assign; exact rfl; exact rfl) | (apply VL_eql; exact rfl; exact rfl; exact rfl; all_goals (intro _; try (exfalso; omega))) | apply VL_nil | apply VQ_then | apply VC_seq | apply VC_region | (apply VC_cond_true; exact rfl) | (apply VC_cond_false; exact rfl) | apply VC_ret | apply VC_skip | apply VQ_then_ret)
  all_goals (((repeat apply VQ_tail); apply VQ_ret1; exact rfl; exact rfl; refine ⟨congrArg _ ?_, rfl⟩); (repeat (first | refine eq_ite_neg (by omega) ?_ | refine eq_ite_pos (by omega) ?_)); rfl)

theorem rcheck_spec (tag idx cnt size : Int) (s : ByteArray) (hs : s.size ≤ 9223372036854775807) {B : Nat} {w0 : World} {H : List HP} {w : World} (hw : St B w0 H w) :
    Calls Try.prog 18 [.agg #[.int .i64 tag, .int .i64 idx, .int .i64 cnt, .int .i64 size, .string s]].toArray w (Post B w0 fun v K => v = .int .i64 (if Fm.length tag idx cnt size s.size = 0 then 1 else 0) ∧ K = H) := by
  refine Calls_of_VC Try.func18 Try.ntmps18 rfl rfl hw ?_
  repeat' (first | (apply VL_assign; exact rfl; exact rfl) | (apply VL_load_whole T; exact rfl; (focus repeat (first | with_reducible exact List.mem_cons_self | with_reducible apply List.mem_cons_of_mem | assumption)); exact rfl; exact rfl; exact rfl) | (apply VL_box_agg; exact rfl; exact rfl; intro _) | apply VL_nil | apply VQ_then | apply VC_seq | apply VC_region)
  first | apply VL_callt en43 | apply VL_callq en43
  (repeat (first | exact args_nil | (apply args_cons; exact rfl)))
  exact rfl
  exact fun _ hw => (length_spec _ _ _ _ _ hs hw)
  repeat' (first | (apply VL_assign; exact rfl; exact rfl) | (apply VL_eql; exact rfl; exact rfl; exact rfl; all_goals (intro _; try (exfalso; omega))) | apply VL_nil | apply VQ_then | apply VC_seq | apply VC_region | (apply VC_cond_true; exact rfl) | (apply VC_cond_false; exact rfl) | apply VC_ret | apply VC_skip | apply VQ_then_ret)
  all_goals (((repeat apply VQ_tail); apply VQ_ret1; exact rfl; exact rfl; refine ⟨congrArg _ ?_, rfl⟩); (repeat (first | refine eq_ite_neg (by omega) ?_ | refine eq_ite_pos (by omega) ?_)); rfl)
end Go.Proofs.Ytfobgjhjigkigaa
