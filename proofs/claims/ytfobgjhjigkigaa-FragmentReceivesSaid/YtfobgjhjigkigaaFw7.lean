/- Walks: slices.Equal at fragments and at integers (equal contents). -/
import Derived.Test.YtfobgjhjigkigaaFw6
import Derived.Test.YtfobgjhjigkigaaE4

namespace Go.Proofs.Ytfobgjhjigkigaa
open Go.RowKit Go.Eng

/-- A fragment, and its cells. -/
abbrev Fr := Int × Int × Int × Int × ByteArray
def frc (f : Fr) : List Value := frag f.1 f.2.1 f.2.2.1 f.2.2.2.1 f.2.2.2.2
def frs (l : List Fr) : List Value := l.flatMap frc
theorem length_frc (f : Fr) : (frc f).length = 5 := rfl
theorem length_frs (l : List Fr) : (frs l).length = l.length * 5 := by
  induction l with
  | nil => rfl
  | cons f l ih => simp only [frs, List.flatMap_cons, List.length_append, length_frc, List.length_cons] at *; omega
theorem frs_get (l : List Fr) (i j : Nat) (hj : j < 5) : (frs l)[i * 5 + j]? = (l[i]?).bind fun f => (frc f)[j]? := by
  induction l generalizing i with
  | nil => simp [frs]
  | cons f l ih =>
    cases i with
    | zero =>
      simp only [frs, List.flatMap_cons]
      rw [List.getElem?_append_left (by rw [length_frc]; omega)]
      simp
    | succ i =>
      simp only [frs, List.flatMap_cons]
      rw [List.getElem?_append_right (by rw [length_frc]; omega), length_frc, show (i + 1) * 5 + j - 5 = i * 5 + j by omega]
      have := ih i
      simp only [frs] at this
      simpa using this

def frOf (tag : Int) (data : ByteArray) (most cnt i : Nat) : Fr := (tag, i, cnt, data.size, piece data most i)
theorem pieces_frs (tag : Int) (data : ByteArray) (most cnt k : Nat) : pieces tag data most cnt k = frs ((List.range k).map (frOf tag data most cnt)) := by
  induction k with
  | zero => rfl
  | succ k ih => rw [pieces_succ, ih, List.range_succ]; simp [frs, frc, frOf]

theorem eqFrag_spec (l : List Fr) {A A' : Option Addr} {cap cap' : Nat} (hl : l.length ≤ 1000000)
    {B : Nat} {w0 : World} {H : List HP} {w : World} (h1 : sl 23 5 A l.length cap (frs l) ∈ H) (h2 : sl 23 5 A' l.length cap' (frs l) ∈ H) (hw : St B w0 H w) :
    Calls Try.prog 19 [.slice A l.length cap, .slice A' l.length cap'].toArray w (Post B w0 fun v K => v = .bool true ∧ K = H) := by
  refine Calls_of_VC Try.func19 Try.ntmps19 rfl rfl hw ?_
  repeat' (first | (apply VL_move; exact rfl; exact rfl) | (apply VL_assign; exact rfl; exact rfl) | (apply VL_len T; exact rfl; exact rfl; exact rfl) | (apply VL_neq; exact rfl; exact rfl; exact rfl; all_goals (intro _; try (exfalso; omega))) | apply VL_nil | apply VQ_then | apply VC_seq | apply VC_region | (apply VC_cond_false; exact rfl) | apply VC_block | apply VC_skip)
  refine VC_loop1 (fun (k : Nat) => [(13, .int .i64 k), (12, .int .i64 l.length), (0, .slice A l.length cap), (1, .slice A' l.length cap')]) (fun _ => H) (fun k => k ≤ l.length) (fun k => l.length - k) 0 (Nat.zero_le _) ?_ (fun w hw => hw) ?_
  · (repeat (first | exact sub_nil _ | (apply sub_cons; first | exact rfl | exact congrArg (fun z : Int => some (Value.int .i64 z)) (by omega))))
  intro k hk K hK
  by_cases hlt : k < l.length
  · obtain ⟨f, hf⟩ : ∃ f, l[k]? = some f := ⟨_, List.getElem?_eq_getElem hlt⟩
    have hc : ∀ i v, (frc f)[i]? = some v → (frs l)[(k : Int).toNat * 5 + i]? = some v := by
      intro i v hv
      have hi : i < 5 := by have := (List.getElem?_eq_some_iff.1 hv).1; rwa [length_frc] at this
      rw [show (k : Int).toNat = k by omega, frs_get l k i hi, hf]
      exact hv
    repeat' (first | (apply VL_index_sl T; exact rfl; exact h1; exact rfl; exact rfl; exact rfl; omega) | (apply VL_index_sl T; exact rfl; exact h2; exact rfl; exact rfl; exact rfl; omega) | (apply VL_load_agg_sl T (vs := frc f); exact rfl; exact h1; exact rfl; exact rfl; exact rfl; decide; exact hc) | (apply VL_load_agg_sl T (vs := frc f); exact rfl; exact h2; exact rfl; exact rfl; exact rfl; decide; exact hc) | (apply VL_aneq (xs := frc f) (ys := frc f); exact rfl; exact rfl; exact rfl; kernel_rfl; kernel_rfl; (exact fun h => absurd rfl h); intro _) | (apply VL_move; exact rfl; exact rfl) | (apply VL_assign; exact rfl; exact rfl) | (apply VL_lss; exact rfl; exact rfl; exact rfl; all_goals (intro _; try (exfalso; omega))) | (apply VL_add; exact rfl; exact rfl; exact rfl; omega) | apply VL_nil | apply VL_nilq | apply VQ_then | apply VC_seq | apply VC_region | (apply VC_cond_true; exact rfl) | (apply VC_cond_false; exact rfl) | apply VC_block | apply VC_skip | apply VQ_block_normal | (apply VC_drawp; exact rfl; kernel_rfl; kernel_rfl))
    apply hK (k + 1)
    · omega
    · omega
    · (repeat (first | exact sub_nil _ | (apply sub_cons; first | exact rfl | exact congrArg (fun z : Int => some (Value.int .i64 z)) (by omega))))
    · exact fun w hw => hw
  · repeat' (first | (apply VL_assign; exact rfl; exact rfl) | (apply VL_lss; exact rfl; exact rfl; exact rfl; all_goals (intro _; try (exfalso; omega))) | apply VL_nil | apply VQ_then | apply VC_seq | apply VC_region | (apply VC_cond_false; exact rfl) | apply VC_ret | apply VC_exit | apply VQ_then_exit | apply VQ_block_exit)
    apply VQ_ret1; exact rfl; exact rfl
    exact ⟨rfl, rfl⟩

theorem eqInt_spec (l : List Nat) {A A' : Option Addr} {cap cap' : Nat} (hl : l.length ≤ 1000000)
    {B : Nat} {w0 : World} {H : List HP} {w : World} (h1 : sl 3 1 A l.length cap (intsOf l) ∈ H) (h2 : sl 3 1 A' l.length cap' (intsOf l) ∈ H) (hw : St B w0 H w) :
    Calls Try.prog 20 [.slice A l.length cap, .slice A' l.length cap'].toArray w (Post B w0 fun v K => v = .bool true ∧ K = H) := by
  refine Calls_of_VC Try.func20 Try.ntmps20 rfl rfl hw ?_
  repeat' (first | (apply VL_move; exact rfl; exact rfl) | (apply VL_assign; exact rfl; exact rfl) | (apply VL_len T; exact rfl; exact rfl; exact rfl) | (apply VL_neq; exact rfl; exact rfl; exact rfl; all_goals (intro _; try (exfalso; omega))) | apply VL_nil | apply VQ_then | apply VC_seq | apply VC_region | (apply VC_cond_false; exact rfl) | apply VC_block | apply VC_skip)
  refine VC_loop1 (fun (k : Nat) => [(13, .int .i64 k), (12, .int .i64 l.length), (0, .slice A l.length cap), (1, .slice A' l.length cap')]) (fun _ => H) (fun k => k ≤ l.length) (fun k => l.length - k) 0 (Nat.zero_le _) ?_ (fun w hw => hw) ?_
  · (repeat (first | exact sub_nil _ | (apply sub_cons; first | exact rfl | exact congrArg (fun z : Int => some (Value.int .i64 z)) (by omega))))
  intro k hk K hK
  by_cases hlt : k < l.length
  · have hc : (intsOf l)[(k : Int).toNat * 1]? = some (.int .i64 (l[k] : Nat)) := by
      rw [show (k : Int).toNat * 1 = k by omega]; simp [intsOf, hlt]
    repeat' (first | (apply VL_index_sl T; exact rfl; exact h1; exact rfl; exact rfl; exact rfl; omega) | (apply VL_index_sl T; exact rfl; exact h2; exact rfl; exact rfl; exact rfl; omega) | (apply VL_load_sl T; exact rfl; exact h1; exact rfl; exact rfl; exact hc) | (apply VL_load_sl T; exact rfl; exact h2; exact rfl; exact rfl; exact hc) | (apply VL_move; exact rfl; exact rfl) | (apply VL_assign; exact rfl; exact rfl) | (apply VL_neq; exact rfl; exact rfl; exact rfl; all_goals (intro _; try (exfalso; omega))) | (apply VL_lss; exact rfl; exact rfl; exact rfl; all_goals (intro _; try (exfalso; omega))) | (apply VL_add; exact rfl; exact rfl; exact rfl; omega) | apply VL_nil | apply VL_nilq | apply VQ_then | apply VC_seq | apply VC_region | (apply VC_cond_true; exact rfl) | (apply VC_cond_false; exact rfl) | apply VC_block | apply VC_skip | apply VQ_block_normal | (apply VC_drawp; exact rfl; kernel_rfl; kernel_rfl))
    apply hK (k + 1)
    · omega
    · omega
    · (repeat (first | exact sub_nil _ | (apply sub_cons; first | exact rfl | exact congrArg (fun z : Int => some (Value.int .i64 z)) (by omega))))
    · exact fun w hw => hw
  · repeat' (first | (apply VL_assign; exact rfl; exact rfl) | (apply VL_lss; exact rfl; exact rfl; exact rfl; all_goals (intro _; try (exfalso; omega))) | apply VL_nil | apply VQ_then | apply VC_seq | apply VC_region | (apply VC_cond_false; exact rfl) | apply VC_ret | apply VC_exit | apply VQ_then_exit | apply VQ_block_exit)
    apply VQ_ret1; exact rfl; exact rfl
    exact ⟨rfl, rfl⟩
end Go.Proofs.Ytfobgjhjigkigaa
