/- Walks: slices.Equal at fragments and at integers (equal contents). -/
import Derived.Test.YtfobgjhjigkigaaFw6
import Derived.Test.YtfobgjhjigkigaaE4

namespace Go.Proofs.Ytfobgjhjigkigaa
open Go.RowKit Go.Eng

/-- A fragment, and its cells. -/
abbrev Fr := Int × Int × Int × Int × ByteArray
def frc (f : Fr) : List Value := frag f.1 f.2.1 f.2.2.1 f.2.2.2.1 f.2.2.2.2
def frs (l : List Fr) : List Value := l.flatMap frc
theorem length_frc (f : Fr) : (frc f).length = 5 := rfl
theorem length_frs (l : List Fr) : (frs l).length = l.length * 5 := by
  induction l with
  | nil => rfl
  | cons f l ih => simp only [frs, List.flatMap_cons, List.length_append, length_frc, List.length_cons] at *; omega
theorem frs_get (l : List Fr) (i j : Nat) (hj : j < 5) : (frs l)[i * 5 + j]? = (l[i]?).bind fun f => (frc f)[j]? := by
  induction l generalizing i with
  | nil => simp [frs]
  | cons f l ih =>
    cases i with
    | zero =>
      simp only [frs, List.flatMap_cons]
      rw [List.getElem?_append_left (by rw [length_frc]; omega)]
      simp
    | succ i =>
      simp only [frs, List.flatMap_cons]
      rw [List.getElem?_append_right (by rw [length_frc]; omega), length_frc, show (i + 1) * 5 + j - 5 = i * 5 + j by omega]
      have := ih i
      simp only [frs] at this
      simpa using this

def frOf (tag : Int) (data : ByteArray) (most cnt i : Nat) : Fr := (tag, i, cnt, data.size, piece data most i)
theorem pieces_frs (tag : Int) (data : ByteArray) (most cnt k : Nat) : pieces tag data most cnt k = frs ((List.range k).map (frOf tag data most cnt)) := by
  induction k with
  | zero => rfl
  | succ k ih => rw [pieces_succ, ih, List.range_succ]; simp [frs, frc, frOf]

theorem eqFrag_spec (l : List Fr) {A A' : Option Addr} {cap cap' : Nat} (hl : l.length ≤ 1000000)
    {B : Nat} {w0 : World} {H : List HP} {w : World} (h1 : sl 23 5 A l.length cap (frs l) ∈ H) (h2 : sl 23 5 A' l.length cap' (frs l) ∈ H) (hw : St B w0 H w) :
    Calls Try.prog 19 [.slice A l.length cap, .slice A' l.length cap'].toArray w (Post B w0 fun v K => v = .bool true ∧ K = H) := by
  refine Calls_of_VC Try.func19 Try.ntmps19 rfl rfl hw ?_
  repeat' (first | (apply VL_move; exact rfl; exact rfl) | (apply VL_assign; exact rfl; exact rfl) | (apply VL_guard_no; exact rfl; exact rfl; exact rfl; exact rfl; exact rfl) | (apply VL_guard_yes; exact rfl; exact rfl; exact rfl) | (apply VL_nilCheck; exact rfl; exact rfl) | (apply VL_fieldAddr T; exact rfl; exact rfl; exact rfl) | (apply VL_load T; exact rfl; (repeat (first | with_reducible exact List.mem_cons_self | with_reducible apply List.mem_cons_of_mem)); exact rfl; exact rfl; exact rfl) | (apply VL_load_whole T; exact rfl; (repeat (first | with_reducible exact List.mem_cons_self | with_reducible apply List.mem_cons_of_mem)); exact rfl; exact rfl; exact rfl) | (apply VL_len T; exact rfl; exact rfl; exact rfl) | (apply VL_index_sl T; exact rfl; (repeat (first | with_reducible exact List.mem_cons_self | with_reducible apply List.mem_cons_of_mem)); exact rfl; exact rfl; exact rfl; omega) | (apply VL_pick_true; exact rfl; exact rfl; exact rfl) | (apply VL_pick_false; exact rfl; exact rfl; exact rfl) | (apply VL_extract; exact rfl; exact rfl; exact rfl) | (apply VL_slen T; exact rfl; exact rfl; exact rfl) | (apply VL_eql; exact rfl; exact rfl; exact rfl; all_goals (intro _; try (exfalso; omega))) | (apply VL_neq; exact rfl; exact rfl; exact rfl; all_goals (intro _; try (exfalso; omega))) | (apply VL_lss; exact rfl; exact rfl; exact rfl; all_goals (intro _; try (exfalso; omega))) | (apply VL_leq; exact rfl; exact rfl; exact rfl; all_goals (intro _; try (exfalso; omega))) | (apply VL_gtr; exact rfl; exact rfl; exact rfl; all_goals (intro _; try (exfalso; omega))) | (apply VL_geq; exact rfl; exact rfl; exact rfl; all_goals (intro _; try (exfalso; omega))) | (apply VL_seql0; exact rfl; exact rfl; all_goals (intro _ _; try (exfalso; omega))) | (apply VL_sneq0; exact rfl; exact rfl; all_goals (intro _ _; try (exfalso; omega))) | (apply VL_seql; exact rfl; exact rfl; exact rfl; all_goals intro _) | (apply VL_sneq; exact rfl; exact rfl; exact rfl; all_goals intro _) | (apply VL_min2; exact rfl; exact rfl; exact rfl; all_goals (intro _; try (exfalso; omega))) | (apply VL_substr T; exact rfl; exact rfl; exact rfl; exact rfl; exact rfl; omega) | (apply VL_substr_lo T; exact rfl; exact rfl; exact rfl; exact rfl; omega) | (apply VL_substr_hi T; exact rfl; exact rfl; exact rfl; exact rfl; omega) | (apply VL_index_str T; exact rfl; exact rfl; exact rfl; exact rfl; omega; intro _ _) | (apply VL_add; exact rfl; exact rfl; exact rfl; omega) | (apply VL_sub; exact rfl; exact rfl; exact rfl; omega) | (apply VL_mul; exact rfl; exact rfl; exact rfl; first | exact mul_bd (by omega) (by omega) (by omega) (by omega) | exact mul_bd' (by omega) (by omega) (by omega) (by omega) | omega) | (apply VL_add_any; exact rfl; exact rfl; exact rfl; intro _ _) | (apply VL_sub_any; exact rfl; exact rfl; exact rfl; intro _ _) | (apply VL_mul_any; exact rfl; exact rfl; exact rfl; intro _ _) | (apply VL_quo; exact rfl; exact rfl; exact rfl; omega) | (apply VL_rem; exact rfl; exact rfl; exact rfl; omega) | (apply VL_shr_c; exact rfl; exact rfl; (simp only [IntKind.bits]; omega); (simp only [Int.reduceToNat, Int.reducePow]; rfl)) | (apply VL_shr; exact rfl; exact rfl; exact rfl; (simp only [IntKind.bits]; omega)) | (apply VL_shl; exact rfl; exact rfl; exact rfl; (simp only [IntKind.bits]; omega)) | (apply VL_and; exact rfl; exact rfl; exact rfl) | (apply VL_or; exact rfl; exact rfl; exact rfl) | (apply VL_xor; exact rfl; exact rfl; exact rfl) | (apply VL_conv_id T; exact rfl; exact rfl; exact rfl; exact rfl; omega) | (apply VL_conv T; exact rfl; exact rfl; exact rfl; exact rfl) | (apply VL_not_true; exact rfl; exact rfl) | (apply VL_not_false; exact rfl; exact rfl) | (apply VL_append T; exact rfl; exact rfl; exact rfl; (repeat (first | with_reducible exact List.mem_cons_self | with_reducible apply List.mem_cons_of_mem)); exact rfl; exact rfl; exact rfl; (intro _ _; (repeat (first | with_reducible exact Upd.here _ | with_reducible apply Upd.there))); omega; intro _ _) | (apply VL_store T; exact rfl; exact rfl; exact rfl; (repeat (first | with_reducible exact Upd.here _ | with_reducible apply Upd.there)); (repeat (first | exact setat_here | apply setat_there)); exact rfl) | (apply VL_store_agg T; exact rfl; exact rfl; exact rfl; (repeat (first | with_reducible exact Upd.here _ | with_reducible apply Upd.there)); (repeat (first | exact PutAt.nil | (apply PutAt.cons; (repeat (first | exact setat_here | apply setat_there))))); exact rfl; exact rfl) | (apply VL_box_agg; exact rfl; exact rfl; intro _) | (apply VL_box_one; exact rfl; exact rfl; exact rfl; intro _) | apply VL_nil | apply VL_nilq | (apply VL_nilh; (repeat (first | with_reducible exact app_nil | with_reducible apply app_cons))) | apply VQ_then | apply VC_seq | apply VC_region | (apply VC_cond_true; exact rfl) | (apply VC_cond_false; exact rfl) | apply VC_block | apply VC_ret | apply VC_exit | apply VC_skip | apply VQ_then_ret | apply VQ_block_ret | apply VQ_block_normal | apply VQ_then_exit | apply VQ_block_exit | (apply VQ_block_other; exact rfl) | (apply VC_drawp; exact rfl; kernel_rfl; kernel_rfl) | (apply VL_heff; exact rfl; exact rfl; (repeat (first | with_reducible exact app_nil | with_reducible apply app_cons))) | (apply VQ_heldq; (repeat (first | with_reducible exact pull_nil | (with_reducible apply pull_cons; (repeat (first | with_reducible exact rem_here | with_reducible apply rem_there)))))) | (apply VT_done; (repeat (first | with_reducible exact app_nil | with_reducible apply app_cons))) | (apply VT_n1; (simp only [nthO]; rfl)) | (apply VT_n2; (simp only [nthO]; rfl); (simp only [nthO]; rfl)) | (apply VQ_treeq; (repeat (first | with_reducible exact pull_nil | (with_reducible apply pull_cons; (repeat (first | with_reducible exact rem_here | with_reducible apply rem_there)))))) | apply VQ_tailq | apply VQ_only)
  refine VC_loop1 (fun (k : Nat) => [(13, .int .i64 k), (12, .int .i64 l.length), (0, .slice A l.length cap), (1, .slice A' l.length cap')]) (fun _ => H) (fun k => k ≤ l.length) (fun k => l.length - k) 0 (Nat.zero_le _) ?_ (fun w hw => hw) ?_
  · (repeat (first | exact sub_nil _ | (apply sub_cons; first | exact rfl | exact congrArg (fun z : Int => some (Value.int .i64 z)) (by omega))))
  intro k hk K hK
  by_cases hlt : k < l.length
  · obtain ⟨f, hf⟩ : ∃ f, l[k]? = some f := ⟨_, List.getElem?_eq_getElem hlt⟩
    have hc : ∀ i v, (frc f)[i]? = some v → (frs l)[(k : Int).toNat * 5 + i]? = some v := by
      intro i v hv
      have hi : i < 5 := by have := (List.getElem?_eq_some_iff.1 hv).1; rwa [length_frc] at this
      rw [show (k : Int).toNat = k by omega, frs_get l k i hi, hf]
      exact hv
    repeat' (first
      | (apply VL_index_sl T; exact rfl; exact h1; exact rfl; exact rfl; exact rfl; omega)
      | (apply VL_index_sl T; exact rfl; exact h2; exact rfl; exact rfl; exact rfl; omega)
      | (apply VL_load_agg_sl T (vs := frc f); exact rfl; exact h1; exact rfl; exact rfl; exact rfl; decide; exact hc)
      | (apply VL_load_agg_sl T (vs := frc f); exact rfl; exact h2; exact rfl; exact rfl; exact rfl; decide; exact hc)
      | (apply VL_aneq (xs := frc f) (ys := frc f); exact rfl; exact rfl; exact rfl; kernel_rfl; kernel_rfl; (exact fun h => absurd rfl h); intro _)
      | (apply VL_move; exact rfl; exact rfl)
      | (apply VL_assign; exact rfl; exact rfl)
      | (apply VL_guard_no; exact rfl; exact rfl; exact rfl; exact rfl; exact rfl)
      | (apply VL_guard_yes; exact rfl; exact rfl; exact rfl)
      | (apply VL_nilCheck; exact rfl; exact rfl)
      | (apply VL_fieldAddr T; exact rfl; exact rfl; exact rfl)
      | (apply VL_load T; exact rfl; (repeat (first | with_reducible exact List.mem_cons_self | with_reducible apply List.mem_cons_of_mem)); exact rfl; exact rfl; exact rfl)
      | (apply VL_load_whole T; exact rfl; (repeat (first | with_reducible exact List.mem_cons_self | with_reducible apply List.mem_cons_of_mem)); exact rfl; exact rfl; exact rfl)
      | (apply VL_len T; exact rfl; exact rfl; exact rfl)
      | (apply VL_index_sl T; exact rfl; (repeat (first | with_reducible exact List.mem_cons_self | with_reducible apply List.mem_cons_of_mem)); exact rfl; exact rfl; exact rfl; omega)
      | (apply VL_pick_true; exact rfl; exact rfl; exact rfl)
      | (apply VL_pick_false; exact rfl; exact rfl; exact rfl)
      | (apply VL_extract; exact rfl; exact rfl; exact rfl)
      | (apply VL_slen T; exact rfl; exact rfl; exact rfl)
      | (apply VL_eql; exact rfl; exact rfl; exact rfl; all_goals (intro _; try (exfalso; omega)))
      | (apply VL_neq; exact rfl; exact rfl; exact rfl; all_goals (intro _; try (exfalso; omega)))
      | (apply VL_lss; exact rfl; exact rfl; exact rfl; all_goals (intro _; try (exfalso; omega)))
      | (apply VL_leq; exact rfl; exact rfl; exact rfl; all_goals (intro _; try (exfalso; omega)))
      | (apply VL_gtr; exact rfl; exact rfl; exact rfl; all_goals (intro _; try (exfalso; omega)))
      | (apply VL_geq; exact rfl; exact rfl; exact rfl; all_goals (intro _; try (exfalso; omega)))
      | (apply VL_seql0; exact rfl; exact rfl; all_goals (intro _ _; try (exfalso; omega)))
      | (apply VL_sneq0; exact rfl; exact rfl; all_goals (intro _ _; try (exfalso; omega)))
      | (apply VL_seql; exact rfl; exact rfl; exact rfl; all_goals intro _)
      | (apply VL_sneq; exact rfl; exact rfl; exact rfl; all_goals intro _)
      | (apply VL_min2; exact rfl; exact rfl; exact rfl; all_goals (intro _; try (exfalso; omega)))
      | (apply VL_substr T; exact rfl; exact rfl; exact rfl; exact rfl; exact rfl; omega)
      | (apply VL_substr_lo T; exact rfl; exact rfl; exact rfl; exact rfl; omega)
      | (apply VL_substr_hi T; exact rfl; exact rfl; exact rfl; exact rfl; omega)
      | (apply VL_index_str T; exact rfl; exact rfl; exact rfl; exact rfl; omega; intro _ _)
      | (apply VL_add; exact rfl; exact rfl; exact rfl; omega)
      | (apply VL_sub; exact rfl; exact rfl; exact rfl; omega)
      | (apply VL_mul; exact rfl; exact rfl; exact rfl; first | exact mul_bd (by omega) (by omega) (by omega) (by omega) | exact mul_bd' (by omega) (by omega) (by omega) (by omega) | omega)
      | (apply VL_add_any; exact rfl; exact rfl; exact rfl; intro _ _)
      | (apply VL_sub_any; exact rfl; exact rfl; exact rfl; intro _ _)
      | (apply VL_mul_any; exact rfl; exact rfl; exact rfl; intro _ _)
      | (apply VL_quo; exact rfl; exact rfl; exact rfl; omega)
      | (apply VL_rem; exact rfl; exact rfl; exact rfl; omega)
      | (apply VL_shr_c; exact rfl; exact rfl; (simp only [IntKind.bits]; omega); (simp only [Int.reduceToNat, Int.reducePow]; rfl))
      | (apply VL_shr; exact rfl; exact rfl; exact rfl; (simp only [IntKind.bits]; omega))
      | (apply VL_shl; exact rfl; exact rfl; exact rfl; (simp only [IntKind.bits]; omega))
      | (apply VL_and; exact rfl; exact rfl; exact rfl)
      | (apply VL_or; exact rfl; exact rfl; exact rfl)
      | (apply VL_xor; exact rfl; exact rfl; exact rfl)
      | (apply VL_conv_id T; exact rfl; exact rfl; exact rfl; exact rfl; omega)
      | (apply VL_conv T; exact rfl; exact rfl; exact rfl; exact rfl)
      | (apply VL_not_true; exact rfl; exact rfl)
      | (apply VL_not_false; exact rfl; exact rfl)
      | (apply VL_append T; exact rfl; exact rfl; exact rfl; (repeat (first | with_reducible exact List.mem_cons_self | with_reducible apply List.mem_cons_of_mem)); exact rfl; exact rfl; exact rfl; (intro _ _; (repeat (first | with_reducible exact Upd.here _ | with_reducible apply Upd.there))); omega; intro _ _)
      | (apply VL_store T; exact rfl; exact rfl; exact rfl; (repeat (first | with_reducible exact Upd.here _ | with_reducible apply Upd.there)); (repeat (first | exact setat_here | apply setat_there)); exact rfl)
      | (apply VL_store_agg T; exact rfl; exact rfl; exact rfl; (repeat (first | with_reducible exact Upd.here _ | with_reducible apply Upd.there)); (repeat (first | exact PutAt.nil | (apply PutAt.cons; (repeat (first | exact setat_here | apply setat_there))))); exact rfl; exact rfl)
      | (apply VL_box_agg; exact rfl; exact rfl; intro _)
      | (apply VL_box_one; exact rfl; exact rfl; exact rfl; intro _)
      | apply VL_nil
      | apply VL_nilq
      | (apply VL_nilh; (repeat (first | with_reducible exact app_nil | with_reducible apply app_cons)))
      | apply VQ_then
      | apply VC_seq
      | apply VC_region
      | (apply VC_cond_true; exact rfl)
      | (apply VC_cond_false; exact rfl)
      | apply VC_block
      | apply VC_ret
      | apply VC_exit
      | apply VC_skip
      | apply VQ_then_ret
      | apply VQ_block_ret
      | apply VQ_block_normal
      | apply VQ_then_exit
      | apply VQ_block_exit
      | (apply VQ_block_other; exact rfl)
      | (apply VC_drawp; exact rfl; kernel_rfl; kernel_rfl)
      | (apply VL_heff; exact rfl; exact rfl; (repeat (first | with_reducible exact app_nil | with_reducible apply app_cons)))
      | (apply VQ_heldq; (repeat (first | with_reducible exact pull_nil | (with_reducible apply pull_cons; (repeat (first | with_reducible exact rem_here | with_reducible apply rem_there))))))
      | (apply VT_done; (repeat (first | with_reducible exact app_nil | with_reducible apply app_cons)))
      | (apply VT_n1; (simp only [nthO]; rfl))
      | (apply VT_n2; (simp only [nthO]; rfl); (simp only [nthO]; rfl))
      | (apply VQ_treeq; (repeat (first | with_reducible exact pull_nil | (with_reducible apply pull_cons; (repeat (first | with_reducible exact rem_here | with_reducible apply rem_there))))))
      | apply VQ_tailq
      | apply VQ_only)
    apply hK (k + 1)
    · omega
    · omega
    · (repeat (first | exact sub_nil _ | (apply sub_cons; first | exact rfl | exact congrArg (fun z : Int => some (Value.int .i64 z)) (by omega))))
    · exact fun w hw => hw
  · repeat' (first | (apply VL_move; exact rfl; exact rfl) | (apply VL_assign; exact rfl; exact rfl) | (apply VL_guard_no; exact rfl; exact rfl; exact rfl; exact rfl; exact rfl) | (apply VL_guard_yes; exact rfl; exact rfl; exact rfl) | (apply VL_nilCheck; exact rfl; exact rfl) | (apply VL_fieldAddr T; exact rfl; exact rfl; exact rfl) | (apply VL_load T; exact rfl; (repeat (first | with_reducible exact List.mem_cons_self | with_reducible apply List.mem_cons_of_mem)); exact rfl; exact rfl; exact rfl) | (apply VL_load_whole T; exact rfl; (repeat (first | with_reducible exact List.mem_cons_self | with_reducible apply List.mem_cons_of_mem)); exact rfl; exact rfl; exact rfl) | (apply VL_len T; exact rfl; exact rfl; exact rfl) | (apply VL_index_sl T; exact rfl; (repeat (first | with_reducible exact List.mem_cons_self | with_reducible apply List.mem_cons_of_mem)); exact rfl; exact rfl; exact rfl; omega) | (apply VL_pick_true; exact rfl; exact rfl; exact rfl) | (apply VL_pick_false; exact rfl; exact rfl; exact rfl) | (apply VL_extract; exact rfl; exact rfl; exact rfl) | (apply VL_slen T; exact rfl; exact rfl; exact rfl) | (apply VL_eql; exact rfl; exact rfl; exact rfl; all_goals (intro _; try (exfalso; omega))) | (apply VL_neq; exact rfl; exact rfl; exact rfl; all_goals (intro _; try (exfalso; omega))) | (apply VL_lss; exact rfl; exact rfl; exact rfl; all_goals (intro _; try (exfalso; omega))) | (apply VL_leq; exact rfl; exact rfl; exact rfl; all_goals (intro _; try (exfalso; omega))) | (apply VL_gtr; exact rfl; exact rfl; exact rfl; all_goals (intro _; try (exfalso; omega))) | (apply VL_geq; exact rfl; exact rfl; exact rfl; all_goals (intro _; try (exfalso; omega))) | (apply VL_seql0; exact rfl; exact rfl; all_goals (intro _ _; try (exfalso; omega))) | (apply VL_sneq0; exact rfl; exact rfl; all_goals (intro _ _; try (exfalso; omega))) | (apply VL_seql; exact rfl; exact rfl; exact rfl; all_goals intro _) | (apply VL_sneq; exact rfl; exact rfl; exact rfl; all_goals intro _) | (apply VL_min2; exact rfl; exact rfl; exact rfl; all_goals (intro _; try (exfalso; omega))) | (apply VL_substr T; exact rfl; exact rfl; exact rfl; exact rfl; exact rfl; omega) | (apply VL_substr_lo T; exact rfl; exact rfl; exact rfl; exact rfl; omega) | (apply VL_substr_hi T; exact rfl; exact rfl; exact rfl; exact rfl; omega) | (apply VL_index_str T; exact rfl; exact rfl; exact rfl; exact rfl; omega; intro _ _) | (apply VL_add; exact rfl; exact rfl; exact rfl; omega) | (apply VL_sub; exact rfl; exact rfl; exact rfl; omega) | (apply VL_mul; exact rfl; exact rfl; exact rfl; first | exact mul_bd (by omega) (by omega) (by omega) (by omega) | exact mul_bd' (by omega) (by omega) (by omega) (by omega) | omega) | (apply VL_add_any; exact rfl; exact rfl; exact rfl; intro _ _) | (apply VL_sub_any; exact rfl; exact rfl; exact rfl; intro _ _) | (apply VL_mul_any; exact rfl; exact rfl; exact rfl; intro _ _) | (apply VL_quo; exact rfl; exact rfl; exact rfl; omega) | (apply VL_rem; exact rfl; exact rfl; exact rfl; omega) | (apply VL_shr_c; exact rfl; exact rfl; (simp only [IntKind.bits]; omega); (simp only [Int.reduceToNat, Int.reducePow]; rfl)) | (apply VL_shr; exact rfl; exact rfl; exact rfl; (simp only [IntKind.bits]; omega)) | (apply VL_shl; exact rfl; exact rfl; exact rfl; (simp only [IntKind.bits]; omega)) | (apply VL_and; exact rfl; exact rfl; exact rfl) | (apply VL_or; exact rfl; exact rfl; exact rfl) | (apply VL_xor; exact rfl; exact rfl; exact rfl) | (apply VL_conv_id T; exact rfl; exact rfl; exact rfl; exact rfl; omega) | (apply VL_conv T; exact rfl; exact rfl; exact rfl; exact rfl) | (apply VL_not_true; exact rfl; exact rfl) | (apply VL_not_false; exact rfl; exact rfl) | (apply VL_append T; exact rfl; exact rfl; exact rfl; (repeat (first | with_reducible exact List.mem_cons_self | with_reducible apply List.mem_cons_of_mem)); exact rfl; exact rfl; exact rfl; (intro _ _; (repeat (first | with_reducible exact Upd.here _ | with_reducible apply Upd.there))); omega; intro _ _) | (apply VL_store T; exact rfl; exact rfl; exact rfl; (repeat (first | with_reducible exact Upd.here _ | with_reducible apply Upd.there)); (repeat (first | exact setat_here | apply setat_there)); exact rfl) | (apply VL_store_agg T; exact rfl; exact rfl; exact rfl; (repeat (first | with_reducible exact Upd.here _ | with_reducible apply Upd.there)); (repeat (first | exact PutAt.nil | (apply PutAt.cons; (repeat (first | exact setat_here | apply setat_there))))); exact rfl; exact rfl) | (apply VL_box_agg; exact rfl; exact rfl; intro _) | (apply VL_box_one; exact rfl; exact rfl; exact rfl; intro _) | apply VL_nil | apply VL_nilq | (apply VL_nilh; (repeat (first | with_reducible exact app_nil | with_reducible apply app_cons))) | apply VQ_then | apply VC_seq | apply VC_region | (apply VC_cond_true; exact rfl) | (apply VC_cond_false; exact rfl) | apply VC_block | apply VC_ret | apply VC_exit | apply VC_skip | apply VQ_then_ret | apply VQ_block_ret | apply VQ_block_normal | apply VQ_then_exit | apply VQ_block_exit | (apply VQ_block_other; exact rfl) | (apply VC_drawp; exact rfl; kernel_rfl; kernel_rfl) | (apply VL_heff; exact rfl; exact rfl; (repeat (first | with_reducible exact app_nil | with_reducible apply app_cons))) | (apply VQ_heldq; (repeat (first | with_reducible exact pull_nil | (with_reducible apply pull_cons; (repeat (first | with_reducible exact rem_here | with_reducible apply rem_there)))))) | (apply VT_done; (repeat (first | with_reducible exact app_nil | with_reducible apply app_cons))) | (apply VT_n1; (simp only [nthO]; rfl)) | (apply VT_n2; (simp only [nthO]; rfl); (simp only [nthO]; rfl)) | (apply VQ_treeq; (repeat (first | with_reducible exact pull_nil | (with_reducible apply pull_cons; (repeat (first | with_reducible exact rem_here | with_reducible apply rem_there)))))) | apply VQ_tailq | apply VQ_only)
    apply VQ_ret1; exact rfl; exact rfl
    exact ⟨rfl, rfl⟩

theorem eqInt_spec (l : List Nat) {A A' : Option Addr} {cap cap' : Nat} (hl : l.length ≤ 1000000)
    {B : Nat} {w0 : World} {H : List HP} {w : World} (h1 : sl 3 1 A l.length cap (intsOf l) ∈ H) (h2 : sl 3 1 A' l.length cap' (intsOf l) ∈ H) (hw : St B w0 H w) :
    Calls Try.prog 20 [.slice A l.length cap, .slice A' l.length cap'].toArray w (Post B w0 fun v K => v = .bool true ∧ K = H) := by
  refine Calls_of_VC Try.func20 Try.ntmps20 rfl rfl hw ?_
  repeat' (first | (apply VL_move; exact rfl; exact rfl) | (apply VL_assign; exact rfl; exact rfl) | (apply VL_guard_no; exact rfl; exact rfl; exact rfl; exact rfl; exact rfl) | (apply VL_guard_yes; exact rfl; exact rfl; exact rfl) | (apply VL_nilCheck; exact rfl; exact rfl) | (apply VL_fieldAddr T; exact rfl; exact rfl; exact rfl) | (apply VL_load T; exact rfl; (repeat (first | with_reducible exact List.mem_cons_self | with_reducible apply List.mem_cons_of_mem)); exact rfl; exact rfl; exact rfl) | (apply VL_load_whole T; exact rfl; (repeat (first | with_reducible exact List.mem_cons_self | with_reducible apply List.mem_cons_of_mem)); exact rfl; exact rfl; exact rfl) | (apply VL_len T; exact rfl; exact rfl; exact rfl) | (apply VL_index_sl T; exact rfl; (repeat (first | with_reducible exact List.mem_cons_self | with_reducible apply List.mem_cons_of_mem)); exact rfl; exact rfl; exact rfl; omega) | (apply VL_pick_true; exact rfl; exact rfl; exact rfl) | (apply VL_pick_false; exact rfl; exact rfl; exact rfl) | (apply VL_extract; exact rfl; exact rfl; exact rfl) | (apply VL_slen T; exact rfl; exact rfl; exact rfl) | (apply VL_eql; exact rfl; exact rfl; exact rfl; all_goals (intro _; try (exfalso; omega))) | (apply VL_neq; exact rfl; exact rfl; exact rfl; all_goals (intro _; try (exfalso; omega))) | (apply VL_lss; exact rfl; exact rfl; exact rfl; all_goals (intro _; try (exfalso; omega))) | (apply VL_leq; exact rfl; exact rfl; exact rfl; all_goals (intro _; try (exfalso; omega))) | (apply VL_gtr; exact rfl; exact rfl; exact rfl; all_goals (intro _; try (exfalso; omega))) | (apply VL_geq; exact rfl; exact rfl; exact rfl; all_goals (intro _; try (exfalso; omega))) | (apply VL_seql0; exact rfl; exact rfl; all_goals (intro _ _; try (exfalso; omega))) | (apply VL_sneq0; exact rfl; exact rfl; all_goals (intro _ _; try (exfalso; omega))) | (apply VL_seql; exact rfl; exact rfl; exact rfl; all_goals intro _) | (apply VL_sneq; exact rfl; exact rfl; exact rfl; all_goals intro _) | (apply VL_min2; exact rfl; exact rfl; exact rfl; all_goals (intro _; try (exfalso; omega))) | (apply VL_substr T; exact rfl; exact rfl; exact rfl; exact rfl; exact rfl; omega) | (apply VL_substr_lo T; exact rfl; exact rfl; exact rfl; exact rfl; omega) | (apply VL_substr_hi T; exact rfl; exact rfl; exact rfl; exact rfl; omega) | (apply VL_index_str T; exact rfl; exact rfl; exact rfl; exact rfl; omega; intro _ _) | (apply VL_add; exact rfl; exact rfl; exact rfl; omega) | (apply VL_sub; exact rfl; exact rfl; exact rfl; omega) | (apply VL_mul; exact rfl; exact rfl; exact rfl; first | exact mul_bd (by omega) (by omega) (by omega) (by omega) | exact mul_bd' (by omega) (by omega) (by omega) (by omega) | omega) | (apply VL_add_any; exact rfl; exact rfl; exact rfl; intro _ _) | (apply VL_sub_any; exact rfl; exact rfl; exact rfl; intro _ _) | (apply VL_mul_any; exact rfl; exact rfl; exact rfl; intro _ _) | (apply VL_quo; exact rfl; exact rfl; exact rfl; omega) | (apply VL_rem; exact rfl; exact rfl; exact rfl; omega) | (apply VL_shr_c; exact rfl; exact rfl; (simp only [IntKind.bits]; omega); (simp only [Int.reduceToNat, Int.reducePow]; rfl)) | (apply VL_shr; exact rfl; exact rfl; exact rfl; (simp only [IntKind.bits]; omega)) | (apply VL_shl; exact rfl; exact rfl; exact rfl; (simp only [IntKind.bits]; omega)) | (apply VL_and; exact rfl; exact rfl; exact rfl) | (apply VL_or; exact rfl; exact rfl; exact rfl) | (apply VL_xor; exact rfl; exact rfl; exact rfl) | (apply VL_conv_id T; exact rfl; exact rfl; exact rfl; exact rfl; omega) | (apply VL_conv T; exact rfl; exact rfl; exact rfl; exact rfl) | (apply VL_not_true; exact rfl; exact rfl) | (apply VL_not_false; exact rfl; exact rfl) | (apply VL_append T; exact rfl; exact rfl; exact rfl; (repeat (first | with_reducible exact List.mem_cons_self | with_reducible apply List.mem_cons_of_mem)); exact rfl; exact rfl; exact rfl; (intro _ _; (repeat (first | with_reducible exact Upd.here _ | with_reducible apply Upd.there))); omega; intro _ _) | (apply VL_store T; exact rfl; exact rfl; exact rfl; (repeat (first | with_reducible exact Upd.here _ | with_reducible apply Upd.there)); (repeat (first | exact setat_here | apply setat_there)); exact rfl) | (apply VL_store_agg T; exact rfl; exact rfl; exact rfl; (repeat (first | with_reducible exact Upd.here _ | with_reducible apply Upd.there)); (repeat (first | exact PutAt.nil | (apply PutAt.cons; (repeat (first | exact setat_here | apply setat_there))))); exact rfl; exact rfl) | (apply VL_box_agg; exact rfl; exact rfl; intro _) | (apply VL_box_one; exact rfl; exact rfl; exact rfl; intro _) | apply VL_nil | apply VL_nilq | (apply VL_nilh; (repeat (first | with_reducible exact app_nil | with_reducible apply app_cons))) | apply VQ_then | apply VC_seq | apply VC_region | (apply VC_cond_true; exact rfl) | (apply VC_cond_false; exact rfl) | apply VC_block | apply VC_ret | apply VC_exit | apply VC_skip | apply VQ_then_ret | apply VQ_block_ret | apply VQ_block_normal | apply VQ_then_exit | apply VQ_block_exit | (apply VQ_block_other; exact rfl) | (apply VC_drawp; exact rfl; kernel_rfl; kernel_rfl) | (apply VL_heff; exact rfl; exact rfl; (repeat (first | with_reducible exact app_nil | with_reducible apply app_cons))) | (apply VQ_heldq; (repeat (first | with_reducible exact pull_nil | (with_reducible apply pull_cons; (repeat (first | with_reducible exact rem_here | with_reducible apply rem_there)))))) | (apply VT_done; (repeat (first | with_reducible exact app_nil | with_reducible apply app_cons))) | (apply VT_n1; (simp only [nthO]; rfl)) | (apply VT_n2; (simp only [nthO]; rfl); (simp only [nthO]; rfl)) | (apply VQ_treeq; (repeat (first | with_reducible exact pull_nil | (with_reducible apply pull_cons; (repeat (first | with_reducible exact rem_here | with_reducible apply rem_there)))))) | apply VQ_tailq | apply VQ_only)
  refine VC_loop1 (fun (k : Nat) => [(13, .int .i64 k), (12, .int .i64 l.length), (0, .slice A l.length cap), (1, .slice A' l.length cap')]) (fun _ => H) (fun k => k ≤ l.length) (fun k => l.length - k) 0 (Nat.zero_le _) ?_ (fun w hw => hw) ?_
  · (repeat (first | exact sub_nil _ | (apply sub_cons; first | exact rfl | exact congrArg (fun z : Int => some (Value.int .i64 z)) (by omega))))
  intro k hk K hK
  by_cases hlt : k < l.length
  · have hc : (intsOf l)[(k : Int).toNat * 1]? = some (.int .i64 (l[k] : Nat)) := by
      rw [show (k : Int).toNat * 1 = k by omega]; simp [intsOf, hlt]
    repeat' (first
      | (apply VL_index_sl T; exact rfl; exact h1; exact rfl; exact rfl; exact rfl; omega)
      | (apply VL_index_sl T; exact rfl; exact h2; exact rfl; exact rfl; exact rfl; omega)
      | (apply VL_load_sl T; exact rfl; exact h1; exact rfl; exact rfl; exact hc)
      | (apply VL_load_sl T; exact rfl; exact h2; exact rfl; exact rfl; exact hc)
      | (apply VL_move; exact rfl; exact rfl)
      | (apply VL_assign; exact rfl; exact rfl)
      | (apply VL_guard_no; exact rfl; exact rfl; exact rfl; exact rfl; exact rfl)
      | (apply VL_guard_yes; exact rfl; exact rfl; exact rfl)
      | (apply VL_nilCheck; exact rfl; exact rfl)
      | (apply VL_fieldAddr T; exact rfl; exact rfl; exact rfl)
      | (apply VL_load T; exact rfl; (repeat (first | with_reducible exact List.mem_cons_self | with_reducible apply List.mem_cons_of_mem)); exact rfl; exact rfl; exact rfl)
      | (apply VL_load_whole T; exact rfl; (repeat (first | with_reducible exact List.mem_cons_self | with_reducible apply List.mem_cons_of_mem)); exact rfl; exact rfl; exact rfl)
      | (apply VL_len T; exact rfl; exact rfl; exact rfl)
      | (apply VL_index_sl T; exact rfl; (repeat (first | with_reducible exact List.mem_cons_self | with_reducible apply List.mem_cons_of_mem)); exact rfl; exact rfl; exact rfl; omega)
      | (apply VL_pick_true; exact rfl; exact rfl; exact rfl)
      | (apply VL_pick_false; exact rfl; exact rfl; exact rfl)
      | (apply VL_extract; exact rfl; exact rfl; exact rfl)
      | (apply VL_slen T; exact rfl; exact rfl; exact rfl)
      | (apply VL_eql; exact rfl; exact rfl; exact rfl; all_goals (intro _; try (exfalso; omega)))
      | (apply VL_neq; exact rfl; exact rfl; exact rfl; all_goals (intro _; try (exfalso; omega)))
      | (apply VL_lss; exact rfl; exact rfl; exact rfl; all_goals (intro _; try (exfalso; omega)))
      | (apply VL_leq; exact rfl; exact rfl; exact rfl; all_goals (intro _; try (exfalso; omega)))
      | (apply VL_gtr; exact rfl; exact rfl; exact rfl; all_goals (intro _; try (exfalso; omega)))
      | (apply VL_geq; exact rfl; exact rfl; exact rfl; all_goals (intro _; try (exfalso; omega)))
      | (apply VL_seql0; exact rfl; exact rfl; all_goals (intro _ _; try (exfalso; omega)))
      | (apply VL_sneq0; exact rfl; exact rfl; all_goals (intro _ _; try (exfalso; omega)))
      | (apply VL_seql; exact rfl; exact rfl; exact rfl; all_goals intro _)
      | (apply VL_sneq; exact rfl; exact rfl; exact rfl; all_goals intro _)
      | (apply VL_min2; exact rfl; exact rfl; exact rfl; all_goals (intro _; try (exfalso; omega)))
      | (apply VL_substr T; exact rfl; exact rfl; exact rfl; exact rfl; exact rfl; omega)
      | (apply VL_substr_lo T; exact rfl; exact rfl; exact rfl; exact rfl; omega)
      | (apply VL_substr_hi T; exact rfl; exact rfl; exact rfl; exact rfl; omega)
      | (apply VL_index_str T; exact rfl; exact rfl; exact rfl; exact rfl; omega; intro _ _)
      | (apply VL_add; exact rfl; exact rfl; exact rfl; omega)
      | (apply VL_sub; exact rfl; exact rfl; exact rfl; omega)
      | (apply VL_mul; exact rfl; exact rfl; exact rfl; first | exact mul_bd (by omega) (by omega) (by omega) (by omega) | exact mul_bd' (by omega) (by omega) (by omega) (by omega) | omega)
      | (apply VL_add_any; exact rfl; exact rfl; exact rfl; intro _ _)
      | (apply VL_sub_any; exact rfl; exact rfl; exact rfl; intro _ _)
      | (apply VL_mul_any; exact rfl; exact rfl; exact rfl; intro _ _)
      | (apply VL_quo; exact rfl; exact rfl; exact rfl; omega)
      | (apply VL_rem; exact rfl; exact rfl; exact rfl; omega)
      | (apply VL_shr_c; exact rfl; exact rfl; (simp only [IntKind.bits]; omega); (simp only [Int.reduceToNat, Int.reducePow]; rfl))
      | (apply VL_shr; exact rfl; exact rfl; exact rfl; (simp only [IntKind.bits]; omega))
      | (apply VL_shl; exact rfl; exact rfl; exact rfl; (simp only [IntKind.bits]; omega))
      | (apply VL_and; exact rfl; exact rfl; exact rfl)
      | (apply VL_or; exact rfl; exact rfl; exact rfl)
      | (apply VL_xor; exact rfl; exact rfl; exact rfl)
      | (apply VL_conv_id T; exact rfl; exact rfl; exact rfl; exact rfl; omega)
      | (apply VL_conv T; exact rfl; exact rfl; exact rfl; exact rfl)
      | (apply VL_not_true; exact rfl; exact rfl)
      | (apply VL_not_false; exact rfl; exact rfl)
      | (apply VL_append T; exact rfl; exact rfl; exact rfl; (repeat (first | with_reducible exact List.mem_cons_self | with_reducible apply List.mem_cons_of_mem)); exact rfl; exact rfl; exact rfl; (intro _ _; (repeat (first | with_reducible exact Upd.here _ | with_reducible apply Upd.there))); omega; intro _ _)
      | (apply VL_store T; exact rfl; exact rfl; exact rfl; (repeat (first | with_reducible exact Upd.here _ | with_reducible apply Upd.there)); (repeat (first | exact setat_here | apply setat_there)); exact rfl)
      | (apply VL_store_agg T; exact rfl; exact rfl; exact rfl; (repeat (first | with_reducible exact Upd.here _ | with_reducible apply Upd.there)); (repeat (first | exact PutAt.nil | (apply PutAt.cons; (repeat (first | exact setat_here | apply setat_there))))); exact rfl; exact rfl)
      | (apply VL_box_agg; exact rfl; exact rfl; intro _)
      | (apply VL_box_one; exact rfl; exact rfl; exact rfl; intro _)
      | apply VL_nil
      | apply VL_nilq
      | (apply VL_nilh; (repeat (first | with_reducible exact app_nil | with_reducible apply app_cons)))
      | apply VQ_then
      | apply VC_seq
      | apply VC_region
      | (apply VC_cond_true; exact rfl)
      | (apply VC_cond_false; exact rfl)
      | apply VC_block
      | apply VC_ret
      | apply VC_exit
      | apply VC_skip
      | apply VQ_then_ret
      | apply VQ_block_ret
      | apply VQ_block_normal
      | apply VQ_then_exit
      | apply VQ_block_exit
      | (apply VQ_block_other; exact rfl)
      | (apply VC_drawp; exact rfl; kernel_rfl; kernel_rfl)
      | (apply VL_heff; exact rfl; exact rfl; (repeat (first | with_reducible exact app_nil | with_reducible apply app_cons)))
      | (apply VQ_heldq; (repeat (first | with_reducible exact pull_nil | (with_reducible apply pull_cons; (repeat (first | with_reducible exact rem_here | with_reducible apply rem_there))))))
      | (apply VT_done; (repeat (first | with_reducible exact app_nil | with_reducible apply app_cons)))
      | (apply VT_n1; (simp only [nthO]; rfl))
      | (apply VT_n2; (simp only [nthO]; rfl); (simp only [nthO]; rfl))
      | (apply VQ_treeq; (repeat (first | with_reducible exact pull_nil | (with_reducible apply pull_cons; (repeat (first | with_reducible exact rem_here | with_reducible apply rem_there))))))
      | apply VQ_tailq
      | apply VQ_only)
    apply hK (k + 1)
    · omega
    · omega
    · (repeat (first | exact sub_nil _ | (apply sub_cons; first | exact rfl | exact congrArg (fun z : Int => some (Value.int .i64 z)) (by omega))))
    · exact fun w hw => hw
  · repeat' (first | (apply VL_move; exact rfl; exact rfl) | (apply VL_assign; exact rfl; exact rfl) | (apply VL_guard_no; exact rfl; exact rfl; exact rfl; exact rfl; exact rfl) | (apply VL_guard_yes; exact rfl; exact rfl; exact rfl) | (apply VL_nilCheck; exact rfl; exact rfl) | (apply VL_fieldAddr T; exact rfl; exact rfl; exact rfl) | (apply VL_load T; exact rfl; (repeat (first | with_reducible exact List.mem_cons_self | with_reducible apply List.mem_cons_of_mem)); exact rfl; exact rfl; exact rfl) | (apply VL_load_whole T; exact rfl; (repeat (first | with_reducible exact List.mem_cons_self | with_reducible apply List.mem_cons_of_mem)); exact rfl; exact rfl; exact rfl) | (apply VL_len T; exact rfl; exact rfl; exact rfl) | (apply VL_index_sl T; exact rfl; (repeat (first | with_reducible exact List.mem_cons_self | with_reducible apply List.mem_cons_of_mem)); exact rfl; exact rfl; exact rfl; omega) | (apply VL_pick_true; exact rfl; exact rfl; exact rfl) | (apply VL_pick_false; exact rfl; exact rfl; exact rfl) | (apply VL_extract; exact rfl; exact rfl; exact rfl) | (apply VL_slen T; exact rfl; exact rfl; exact rfl) | (apply VL_eql; exact rfl; exact rfl; exact rfl; all_goals (intro _; try (exfalso; omega))) | (apply VL_neq; exact rfl; exact rfl; exact rfl; all_goals (intro _; try (exfalso; omega))) | (apply VL_lss; exact rfl; exact rfl; exact rfl; all_goals (intro _; try (exfalso; omega))) | (apply VL_leq; exact rfl; exact rfl; exact rfl; all_goals (intro _; try (exfalso; omega))) | (apply VL_gtr; exact rfl; exact rfl; exact rfl; all_goals (intro _; try (exfalso; omega))) | (apply VL_geq; exact rfl; exact rfl; exact rfl; all_goals (intro _; try (exfalso; omega))) | (apply VL_seql0; exact rfl; exact rfl; all_goals (intro _ _; try (exfalso; omega))) | (apply VL_sneq0; exact rfl; exact rfl; all_goals (intro _ _; try (exfalso; omega))) | (apply VL_seql; exact rfl; exact rfl; exact rfl; all_goals intro _) | (apply VL_sneq; exact rfl; exact rfl; exact rfl; all_goals intro _) | (apply VL_min2; exact rfl; exact rfl; exact rfl; all_goals (intro _; try (exfalso; omega))) | (apply VL_substr T; exact rfl; exact rfl; exact rfl; exact rfl; exact rfl; omega) | (apply VL_substr_lo T; exact rfl; exact rfl; exact rfl; exact rfl; omega) | (apply VL_substr_hi T; exact rfl; exact rfl; exact rfl; exact rfl; omega) | (apply VL_index_str T; exact rfl; exact rfl; exact rfl; exact rfl; omega; intro _ _) | (apply VL_add; exact rfl; exact rfl; exact rfl; omega) | (apply VL_sub; exact rfl; exact rfl; exact rfl; omega) | (apply VL_mul; exact rfl; exact rfl; exact rfl; first | exact mul_bd (by omega) (by omega) (by omega) (by omega) | exact mul_bd' (by omega) (by omega) (by omega) (by omega) | omega) | (apply VL_add_any; exact rfl; exact rfl; exact rfl; intro _ _) | (apply VL_sub_any; exact rfl; exact rfl; exact rfl; intro _ _) | (apply VL_mul_any; exact rfl; exact rfl; exact rfl; intro _ _) | (apply VL_quo; exact rfl; exact rfl; exact rfl; omega) | (apply VL_rem; exact rfl; exact rfl; exact rfl; omega) | (apply VL_shr_c; exact rfl; exact rfl; (simp only [IntKind.bits]; omega); (simp only [Int.reduceToNat, Int.reducePow]; rfl)) | (apply VL_shr; exact rfl; exact rfl; exact rfl; (simp only [IntKind.bits]; omega)) | (apply VL_shl; exact rfl; exact rfl; exact rfl; (simp only [IntKind.bits]; omega)) | (apply VL_and; exact rfl; exact rfl; exact rfl) | (apply VL_or; exact rfl; exact rfl; exact rfl) | (apply VL_xor; exact rfl; exact rfl; exact rfl) | (apply VL_conv_id T; exact rfl; exact rfl; exact rfl; exact rfl; omega) | (apply VL_conv T; exact rfl; exact rfl; exact rfl; exact rfl) | (apply VL_not_true; exact rfl; exact rfl) | (apply VL_not_false; exact rfl; exact rfl) | (apply VL_append T; exact rfl; exact rfl; exact rfl; (repeat (first | with_reducible exact List.mem_cons_self | with_reducible apply List.mem_cons_of_mem)); exact rfl; exact rfl; exact rfl; (intro _ _; (repeat (first | with_reducible exact Upd.here _ | with_reducible apply Upd.there))); omega; intro _ _) | (apply VL_store T; exact rfl; exact rfl; exact rfl; (repeat (first | with_reducible exact Upd.here _ | with_reducible apply Upd.there)); (repeat (first | exact setat_here | apply setat_there)); exact rfl) | (apply VL_store_agg T; exact rfl; exact rfl; exact rfl; (repeat (first | with_reducible exact Upd.here _ | with_reducible apply Upd.there)); (repeat (first | exact PutAt.nil | (apply PutAt.cons; (repeat (first | exact setat_here | apply setat_there))))); exact rfl; exact rfl) | (apply VL_box_agg; exact rfl; exact rfl; intro _) | (apply VL_box_one; exact rfl; exact rfl; exact rfl; intro _) | apply VL_nil | apply VL_nilq | (apply VL_nilh; (repeat (first | with_reducible exact app_nil | with_reducible apply app_cons))) | apply VQ_then | apply VC_seq | apply VC_region | (apply VC_cond_true; exact rfl) | (apply VC_cond_false; exact rfl) | apply VC_block | apply VC_ret | apply VC_exit | apply VC_skip | apply VQ_then_ret | apply VQ_block_ret | apply VQ_block_normal | apply VQ_then_exit | apply VQ_block_exit | (apply VQ_block_other; exact rfl) | (apply VC_drawp; exact rfl; kernel_rfl; kernel_rfl) | (apply VL_heff; exact rfl; exact rfl; (repeat (first | with_reducible exact app_nil | with_reducible apply app_cons))) | (apply VQ_heldq; (repeat (first | with_reducible exact pull_nil | (with_reducible apply pull_cons; (repeat (first | with_reducible exact rem_here | with_reducible apply rem_there)))))) | (apply VT_done; (repeat (first | with_reducible exact app_nil | with_reducible apply app_cons))) | (apply VT_n1; (simp only [nthO]; rfl)) | (apply VT_n2; (simp only [nthO]; rfl); (simp only [nthO]; rfl)) | (apply VQ_treeq; (repeat (first | with_reducible exact pull_nil | (with_reducible apply pull_cons; (repeat (first | with_reducible exact rem_here | with_reducible apply rem_there)))))) | apply VQ_tailq | apply VQ_only)
    apply VQ_ret1; exact rfl; exact rfl
    exact ⟨rfl, rfl⟩
end Go.Proofs.Ytfobgjhjigkigaa
