/- Walks: Split of both texts. -/
import Derived.Test.YtfobgjhjigkigaaFw1
import Derived.Test.YtfobgjhjigkigaaE3
namespace Go.Proofs.Ytfobgjhjigkigaa
open Go.RowKit Go.Eng
set_option format.width 300

/-- The cells of a fragment. -/
def frag (tag idx cnt size : Int) (s : ByteArray) : List Value := [.int .i64 tag, .int .i64 idx, .int .i64 cnt, .int .i64 size, .string s]

theorem bld_frag (a b c e : Int) (s : ByteArray) (w : World) : (Instr.build 23 [(0, .int .i64 a), (1, .int .i64 b), (2, .int .i64 c), (3, .int .i64 e), (4, .string s)].toArray).run Try.prog w = .ok (.agg #[.int .i64 a, .int .i64 b, .int .i64 c, .int .i64 e, .string s]) w := by kernel_rfl
theorem bls_frag (a b c e : Int) (s : ByteArray) (w : World) : (Instr.buildSlice 26 1 [(0, .agg #[.int .i64 a, .int .i64 b, .int .i64 c, .int .i64 e, .string s])].toArray).run Try.prog w = .ok (.slice (some ⟨w.heap.size, 0, none⟩) 1 1) (w.alloc (.cells #[.int .i64 a, .int .i64 b, .int .i64 c, .int .i64 e, .string s] 23 (0, 0))) := by kernel_rfl
theorem bls_frag0 (w : World) : (Instr.buildSlice 26 0 [].toArray).run Try.prog w = .ok (.slice (some ⟨w.heap.size, 0, none⟩) 0 0) (w.alloc (.cells #[] 23 (0, 0))) := by kernel_rfl

/-- The i-th part of a datagram. -/
def piece (data : ByteArray) (most i : Nat) : ByteArray := data.extract (i * most) (min ((i + 1) * most) data.size)
/-- The first k fragments of a datagram, cell by cell. -/
def pieces (tag : Int) (data : ByteArray) (most cnt : Nat) (k : Nat) : List Value := (List.range k).flatMap fun i : Nat => frag tag (i : Int) cnt data.size (piece data most i)

theorem pieces_succ (tag : Int) (data : ByteArray) (most cnt k : Nat) : pieces tag data most cnt (k + 1) = pieces tag data most cnt k ++ frag tag k cnt data.size (piece data most k) := by
  simp [pieces, List.range_succ]

theorem piece_eq {data : ByteArray} {most k : Nat} {i j : Int} (hi : i = ((k * most : Nat) : Int)) (hj : (j = data.size ∧ data.size ≤ (k + 1) * most) ∨ (j = (((k + 1) * most : Nat) : Int) ∧ (k + 1) * most ≤ data.size)) : data.extract i.toNat j.toNat = piece data most k := by
  subst hi
  unfold piece
  rcases hj with ⟨rfl, h⟩ | ⟨rfl, h⟩
  · rw [Nat.min_eq_right h]; rfl
  · rw [Nat.min_eq_left h]; rfl

def splitErr (tag : Int) (size : Nat) (most : Int) : Int :=
  if tag < 0 then 2 else if 255 < tag then 2 else if most < 1 then 2 else if 120 < most then 2 else if size = 0 then 14 else if 4095 < size then 8 else if 32 < (size + most - 1) / most then 8 else 0
def splitCnt (tag : Int) (size : Nat) (most : Int) : Nat := if splitErr tag size most = 0 then ((size + most - 1) / most).toNat else 0

theorem split_err_leaf {tag most e : Int} {data : ByteArray} {H : List HP} (he : e = splitErr tag data.size most) (h0 : e ≠ 0) :
    ∃ A cap, Value.tuple #[.slice none 0 0, .int .i64 e] = .tuple #[.slice A (splitCnt tag data.size most) cap, .int .i64 (splitErr tag data.size most)] ∧
      sl 23 5 none 0 0 [] :: H = sl 23 5 A (splitCnt tag data.size most) cap (pieces tag data most.toNat (splitCnt tag data.size most) (splitCnt tag data.size most)) :: H := by
  have hc : splitCnt tag data.size most = 0 := by unfold splitCnt; rw [if_neg (by rw [← he]; exact h0)]
  rw [← he, hc]
  exact ⟨none, 0, rfl, rfl⟩

set_option maxRecDepth 10000 in
theorem split_spec (tag most : Int) (data : ByteArray) (hs : data.size ≤ 9000000000000000000) {B : Nat} {w0 : World} {H : List HP} {w : World} (hw : St B w0 H w) :
    Calls Try.prog 11 [.int .i64 tag, .string data, .int .i64 most].toArray w (Post B w0 fun v K => ∃ A cap, v = .tuple #[.slice A (splitCnt tag data.size most) cap, .int .i64 (splitErr tag data.size most)] ∧ K = sl 23 5 A (splitCnt tag data.size most) cap (pieces tag data most.toNat (splitCnt tag data.size most) (splitCnt tag data.size most)) :: H) := by
  refine Calls_of_VC Try.func11 Try.ntmps11 rfl rfl hw ?_
  repeat' (first | (apply VL_move; exact rfl; exact rfl) | (apply VL_assign; exact rfl; exact rfl) | (apply VL_guard_no; exact rfl; exact rfl; exact rfl; exact rfl; exact rfl) | (apply VL_guard_yes; exact rfl; exact rfl; exact rfl) | (apply VL_pick_true; exact rfl; exact rfl; exact rfl) | (apply VL_pick_false; exact rfl; exact rfl; exact rfl) | (apply VL_slen T; exact rfl; exact rfl; exact rfl) | (apply VL_lss; exact rfl; exact rfl; exact rfl; all_goals (intro _; try (exfalso; omega))) | (apply VL_gtr; exact rfl; exact rfl; exact rfl; all_goals (intro _; try (exfalso; omega))) | (apply VL_seql0; exact rfl; exact rfl; all_goals (intro _ _; try (exfalso; omega))) | (apply VL_add; exact rfl; exact rfl; exact rfl; omega) | (apply VL_sub; exact rfl; exact rfl; exact rfl; omega) | (apply VL_quo; exact rfl; exact rfl; exact rfl; omega) | apply VL_nil | apply VQ_then | apply VC_seq | apply VC_region | (apply VC_cond_true; exact rfl) | (apply VC_cond_false; exact rfl) | apply VC_block | apply VC_ret | apply VC_skip | apply VQ_then_ret | apply VQ_block_ret | apply VQ_block_normal)
  all_goals (try (
    apply VQ_nilSlice 23 5
    apply VQ_ret2; exact rfl; exact rfl; exact rfl
    refine split_err_leaf ?_ (by decide)
    unfold splitErr; (repeat (first | refine eq_ite_neg (by omega) ?_ | refine eq_ite_pos (by omega) ?_)); rfl))
  obtain ⟨cnt, hcnt⟩ : ∃ c : Nat, (c : Int) = (data.size + most - 1) / most := ⟨((data.size + most - 1) / most).toNat, by have := Int.ediv_nonneg (a := data.size + most - 1) (b := most) (by omega) (by omega); omega⟩
  obtain ⟨mo, rfl⟩ : ∃ c : Nat, most = c := ⟨most.toNat, by omega⟩
  rw [← hcnt]
  have he : splitErr tag data.size mo = 0 := by symm; unfold splitErr; (repeat (first | refine eq_ite_neg (by omega) ?_ | refine eq_ite_pos (by omega) ?_)); rfl
  have hc : splitCnt tag data.size mo = cnt := by unfold splitCnt; rw [if_pos he, ← hcnt]; rfl
  have hle : cnt * mo ≤ data.size + mo - 1 := by
    have : ((cnt * mo : Nat) : Int) ≤ data.size + mo - 1 := by rw [Int.natCast_mul, hcnt]; exact Int.ediv_mul_le _ (by omega)
    omega
  have hc32 : cnt ≤ 32 := by omega
  rw [he, hc]
  clear he hc hcnt
  refine VC_loop3 (fun (k : Nat) (A : Option Addr) (cap : Nat) => [(44, .int .i64 k), (9, .slice A k cap), (8, .int .i64 cnt), (43, .int .i64 cnt), (0, .int .i64 tag), (1, .string data), (2, .int .i64 mo), (7, .int .i64 0)]) (fun k A cap => sl 23 5 A k cap (pieces tag data mo cnt k) :: H)
    (fun k _ _ => k ≤ cnt) (fun k _ _ => cnt - k) 0 none 0 (Nat.zero_le _) ?_ (fun w hw => hw.nilSlice _ _) ?_
  · (repeat (first | exact sub_nil _ | (apply sub_cons; first | exact rfl | exact congrArg (fun z : Int => some (Value.int .i64 z)) (by omega))))
  intro k A cap hk K hK
  by_cases hlt : k < cnt
  · have f0 : (k + 1) * mo ≤ cnt * mo := Nat.mul_le_mul_right _ hlt
    have f2 : ((k : Int) + 1) * mo = k * mo + mo := by rw [Int.add_mul, Int.one_mul]
    have f3 : ((k : Int) + 1) * mo ≤ data.size + mo - 1 := by
      have : (((k + 1) * mo : Nat) : Int) ≤ data.size + mo - 1 := by omega
      rwa [Int.natCast_mul] at this
    have f4 : 0 ≤ (k : Int) * mo := Int.mul_nonneg (by omega) (by omega)
    have f5 : ((k + 1 : Nat) : Int) * (mo : Int) = ((k : Int) + 1) * mo := by rw [Int.natCast_add]; rfl
    repeat' (first | (apply VL_build; (repeat (first | exact parts_nil | (apply parts_cons; exact rfl))); exact bld_frag _ _ _ _ _; exact rfl) | (apply VL_buildSlice; (repeat (first | exact parts_nil | (apply parts_cons; exact rfl))); exact bls_frag _ _ _ _ _; exact rfl; intro _) | (apply VL_move; exact rfl; exact rfl) | (apply VL_assign; exact rfl; exact rfl) | (apply VL_slen T; exact rfl; exact rfl; exact rfl) | (apply VL_lss; exact rfl; exact rfl; exact rfl; all_goals (intro _; try (exfalso; omega))) | (apply VL_min2; exact rfl; exact rfl; exact rfl; all_goals (intro _; try (exfalso; omega))) | (apply VL_substr T; exact rfl; exact rfl; exact rfl; exact rfl; exact rfl; omega) | (apply VL_add; exact rfl; exact rfl; exact rfl; omega) | (apply VL_mul; exact rfl; exact rfl; exact rfl; first | exact mul_bd (by omega) (by omega) (by omega) (by omega) | exact mul_bd' (by omega) (by omega) (by omega) (by omega) | omega) | (apply VL_append T; exact rfl; exact rfl; exact rfl; (focus repeat (first | with_reducible exact List.mem_cons_self | with_reducible apply List.mem_cons_of_mem | assumption)); exact rfl; exact rfl; exact rfl; (intro _ _; (repeat (first | with_reducible exact Upd.here _ | with_reducible apply Upd.there))); omega; intro _ _) | apply VL_nil | apply VQ_then | apply VC_seq | apply VC_region | (apply VC_cond_true; exact rfl) | apply VC_block | apply VC_skip | apply VQ_block_normal)
    all_goals (
      apply hK (k + 1)
      · omega
      · omega
      · (repeat (first | exact sub_nil _ | (apply sub_cons; first | exact rfl | exact congrArg (fun z : Int => some (Value.int .i64 z)) (by omega))))
      · intro w hw
        have h2 := hw.tail
        rw [piece_eq (by rw [Int.natCast_mul]) (by omega)] at h2
        rw [pieces_succ]
        exact h2)
  · repeat' (first | (apply VL_move; exact rfl; exact rfl) | (apply VL_assign; exact rfl; exact rfl) | (apply VL_lss; exact rfl; exact rfl; exact rfl; all_goals (intro _; try (exfalso; omega))) | apply VL_nil | apply VQ_then | apply VC_seq | apply VC_region | (apply VC_cond_false; exact rfl) | apply VC_ret | apply VC_exit | apply VQ_then_exit | apply VQ_block_exit)
    apply VQ_ret2; exact rfl; exact rfl; exact rfl
    obtain rfl : k = cnt := by omega
    exact ⟨A, cap, rfl, rfl⟩

set_option maxRecDepth 10000 in
theorem rsplit_spec (tag most : Int) (data : ByteArray) (hs : data.size ≤ 9000000000000000000) {B : Nat} {w0 : World} {H : List HP} {w : World} (hw : St B w0 H w) :
    Calls Try.prog 12 [.int .i64 tag, .string data, .int .i64 most].toArray w (Post B w0 fun v K => ∃ A cap, v = .tuple #[.slice A (splitCnt tag data.size most) cap, .int .i64 (splitErr tag data.size most)] ∧ K = sl 23 5 A (splitCnt tag data.size most) cap (pieces tag data most.toNat (splitCnt tag data.size most) (splitCnt tag data.size most)) :: H) := by
  refine Calls_of_VC Try.func12 Try.ntmps12 rfl rfl hw ?_
  repeat' (first | (apply VL_buildSlice_sl T; (repeat (first | exact parts_nil | (apply parts_cons; exact rfl))); exact bls_frag0; exact rfl; exact rfl; exact rfl; exact rfl; intro _) | (apply VL_move; exact rfl; exact rfl) | (apply VL_assign; exact rfl; exact rfl) | (apply VL_guard_no; exact rfl; exact rfl; exact rfl; exact rfl; exact rfl) | (apply VL_guard_yes; exact rfl; exact rfl; exact rfl) | (apply VL_pick_true; exact rfl; exact rfl; exact rfl) | (apply VL_pick_false; exact rfl; exact rfl; exact rfl) | (apply VL_slen T; exact rfl; exact rfl; exact rfl) | (apply VL_lss; exact rfl; exact rfl; exact rfl; all_goals (intro _; try (exfalso; omega))) | (apply VL_gtr; exact rfl; exact rfl; exact rfl; all_goals (intro _; try (exfalso; omega))) | (apply VL_seql0; exact rfl; exact rfl; all_goals (intro _ _; try (exfalso; omega))) | (apply VL_add; exact rfl; exact rfl; exact rfl; omega) | (apply VL_sub; exact rfl; exact rfl; exact rfl; omega) | (apply VL_quo; exact rfl; exact rfl; exact rfl; omega) | apply VL_nil | apply VQ_then | apply VC_seq | apply VC_region | (apply VC_cond_true; exact rfl) | (apply VC_cond_false; exact rfl) | apply VC_block | apply VC_ret | apply VC_skip | apply VQ_then_ret)
  all_goals (try (
    apply VQ_nilSlice 23 5
    apply VQ_ret2; exact rfl; exact rfl; exact rfl
    refine split_err_leaf ?_ (by decide)
    unfold splitErr; (repeat (first | refine eq_ite_neg (by omega) ?_ | refine eq_ite_pos (by omega) ?_)); rfl))
  rename_i g
  obtain ⟨cnt, hcnt⟩ : ∃ c : Nat, (c : Int) = (data.size + most - 1) / most := ⟨((data.size + most - 1) / most).toNat, by have := Int.ediv_nonneg (a := data.size + most - 1) (b := most) (by omega) (by omega); omega⟩
  obtain ⟨mo, rfl⟩ : ∃ c : Nat, most = c := ⟨most.toNat, by omega⟩
  rw [← hcnt]
  have he : splitErr tag data.size mo = 0 := by symm; unfold splitErr; (repeat (first | refine eq_ite_neg (by omega) ?_ | refine eq_ite_pos (by omega) ?_)); rfl
  have hc : splitCnt tag data.size mo = cnt := by unfold splitCnt; rw [if_pos he, ← hcnt]; rfl
  have hle : cnt * mo ≤ data.size + mo - 1 := by
    have : ((cnt * mo : Nat) : Int) ≤ data.size + mo - 1 := by rw [Int.natCast_mul, hcnt]; exact Int.ediv_mul_le _ (by omega)
    omega
  have hc32 : cnt ≤ 32 := by omega
  rw [he, hc]
  clear he hc hcnt
  refine VC_loop3 (fun (k : Nat) (A : Option Addr) (cap : Nat) => [(10, .int .i64 k), (9, .slice A k cap), (8, .int .i64 cnt), (0, .int .i64 tag), (1, .string data), (2, .int .i64 mo), (7, .int .i64 0)]) (fun k A cap => sl 23 5 A k cap (pieces tag data mo cnt k) :: H)
    (fun k _ _ => k ≤ cnt) (fun k _ _ => cnt - k) 0 (some ⟨g, 0, none⟩) 0 (Nat.zero_le _) ?_ (fun w hw => hw) ?_
  · (repeat (first | exact sub_nil _ | (apply sub_cons; first | exact rfl | exact congrArg (fun z : Int => some (Value.int .i64 z)) (by omega))))
  intro k A cap hk K hK
  by_cases hlt : k < cnt
  · have f0 : (k + 1) * mo ≤ cnt * mo := Nat.mul_le_mul_right _ hlt
    have f2 : ((k : Int) + 1) * mo = k * mo + mo := by rw [Int.add_mul, Int.one_mul]
    have f3 : ((k : Int) + 1) * mo ≤ data.size + mo - 1 := by
      have : (((k + 1) * mo : Nat) : Int) ≤ data.size + mo - 1 := by omega
      rwa [Int.natCast_mul] at this
    have f4 : 0 ≤ (k : Int) * mo := Int.mul_nonneg (by omega) (by omega)
    have f5 : ((k + 1 : Nat) : Int) * (mo : Int) = ((k : Int) + 1) * mo := by rw [Int.natCast_add]; rfl
    repeat' (first | (apply VL_build; (repeat (first | exact parts_nil | (apply parts_cons; exact rfl))); exact bld_frag _ _ _ _ _; exact rfl) | (apply VL_buildSlice; (repeat (first | exact parts_nil | (apply parts_cons; exact rfl))); exact bls_frag _ _ _ _ _; exact rfl; intro _) | (apply VL_move; exact rfl; exact rfl) | (apply VL_assign; exact rfl; exact rfl) | (apply VL_slen T; exact rfl; exact rfl; exact rfl) | (apply VL_lss; exact rfl; exact rfl; exact rfl; all_goals (intro _; try (exfalso; omega))) | (apply VL_min2; exact rfl; exact rfl; exact rfl; all_goals (intro _; try (exfalso; omega))) | (apply VL_substr T; exact rfl; exact rfl; exact rfl; exact rfl; exact rfl; omega) | (apply VL_add; exact rfl; exact rfl; exact rfl; omega) | (apply VL_mul; exact rfl; exact rfl; exact rfl; first | exact mul_bd (by omega) (by omega) (by omega) (by omega) | exact mul_bd' (by omega) (by omega) (by omega) (by omega) | omega) | (apply VL_append T; exact rfl; exact rfl; exact rfl; (focus repeat (first | with_reducible exact List.mem_cons_self | with_reducible apply List.mem_cons_of_mem | assumption)); exact rfl; exact rfl; exact rfl; (intro _ _; (repeat (first | with_reducible exact Upd.here _ | with_reducible apply Upd.there))); omega; intro _ _) | apply VL_nil | apply VQ_then | apply VC_seq | apply VC_region | (apply VC_cond_true; exact rfl) | apply VC_block | apply VC_skip | apply VQ_block_normal)
    all_goals (
      apply hK (k + 1)
      · omega
      · omega
      · (repeat (first | exact sub_nil _ | (apply sub_cons; first | exact rfl | exact congrArg (fun z : Int => some (Value.int .i64 z)) (by omega))))
      · intro w hw
        have h2 := hw.tail
        rw [piece_eq (by rw [Int.natCast_mul]) (by omega)] at h2
        rw [pieces_succ]
        exact h2)
  · repeat' (first | (apply VL_move; exact rfl; exact rfl) | (apply VL_assign; exact rfl; exact rfl) | (apply VL_lss; exact rfl; exact rfl; exact rfl; all_goals (intro _; try (exfalso; omega))) | apply VL_nil | apply VQ_then | apply VC_seq | apply VC_region | (apply VC_cond_false; exact rfl) | apply VC_ret | apply VC_exit | apply VQ_then_exit | apply VQ_block_exit)
    apply VQ_ret2; exact rfl; exact rfl; exact rfl
    obtain rfl : k = cnt := by omega
    exact ⟨A, cap, rfl, rfl⟩

end Go.Proofs.Ytfobgjhjigkigaa
