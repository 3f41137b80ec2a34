/- Plain: the bits of a bitmap as a list; strings one behind the other. -/
import Derived.Test.YtfobgjhjigkigaaFr3
import Derived.Test.YtfobgjhjigkigaaNm3
namespace Go.Proofs.Ytfobgjhjigkigaa
open Go.RowKit Go.Eng Go.Nw

theorem bitsL_len (bm c : Nat) : (bitsL bm c).length = c := by simp [bitsL]
theorem bitsL_get {bm c k : Nat} (h : k < c) : (bitsL bm c)[k]? = some (decide (bm / 2 ^ k % 2 = 1)) := by
  rw [bitsL, List.getElem?_map, List.getElem?_range h]; rfl
theorem testB (bm k : Nat) : decide (bm / 2 ^ k % 2 = 1) = bm.testBit k := by
  rw [Nat.testBit_eq_decide_div_mod_eq]
theorem bits_set {bm c i : Nat} (_h : i < c) : (bitsL bm c).set i true = bitsL (bm ||| 2 ^ i) c := by
  apply List.ext_getElem?
  intro k
  rw [List.getElem?_set, bitsL_len]
  by_cases hk : k < c
  · rw [bitsL_get hk, bitsL_get hk, testB, testB, Nat.testBit_or]
    by_cases hi : i = k
    · subst hi
      rw [if_pos rfl, if_pos hk, Nat.testBit_two_pow_self, Bool.or_true]
    · rw [if_neg hi, Nat.testBit_two_pow_of_ne hi, Bool.or_false]
  · rw [List.getElem?_eq_none (by rw [bitsL_len]; omega), List.getElem?_eq_none (by rw [bitsL_len]; omega)]
    by_cases hi : i = k
    · rw [if_pos hi, if_neg (by omega)]
    · rw [if_neg hi]
theorem bits_all {bm c : Nat} (h : bm < 2 ^ c) : (bitsL bm c).all id = decide (bm = 2 ^ c - 1) := by
  rw [Bool.eq_iff_iff, decide_eq_true_eq, List.all_eq_true]
  constructor
  · intro hx
    apply Nat.eq_of_testBit_eq
    intro j
    rw [Nat.testBit_two_pow_sub_one]
    by_cases hj : j < c
    · have := hx _ (List.mem_of_getElem? (bitsL_get (bm := bm) hj))
      rw [testB] at this
      simp only [id] at this
      rw [this, decide_eq_true hj]
    · rw [decide_eq_false hj]
      exact Nat.testBit_lt_two_pow (Nat.lt_of_lt_of_le h (Nat.pow_le_pow_right (by omega) (by omega)))
  · rintro rfl b hb
    obtain ⟨j, hj⟩ := List.getElem?_of_mem hb
    have hjc : j < c := by have := (List.getElem?_eq_some_iff.1 hj).1; rwa [bitsL_len] at this
    rw [bitsL_get hjc, testB, Nat.testBit_two_pow_sub_one, decide_eq_true hjc] at hj
    exact (Option.some.inj hj).symm
theorem bit_step (bm k : Nat) : bm % 2 ^ (k + 1) = bm % 2 ^ k + (if bm / 2 ^ k % 2 = 1 then 2 ^ k else 0) := by
  rw [Nat.pow_succ, Nat.mod_mul]
  rcases Nat.mod_two_eq_zero_or_one (bm / 2 ^ k) with h | h <;> rw [h] <;> simp

theorem joinB_nil : joinB [] = ⟨#[]⟩ := rfl
theorem inter_nil : ∀ l : List (List UInt8), Lib.join l [] = l.flatten
  | [] => rfl
  | [x] => by simp [Lib.join, List.intercalate]
  | x :: y :: l => by
    have ih := inter_nil (y :: l)
    simp only [Lib.join, List.intercalate, List.intersperse_cons_cons, List.flatten_cons, List.nil_append] at ih ⊢
    rw [ih]
theorem joinB_snoc (l : List ByteArray) (s : ByteArray) : joinB (l ++ [s]) = joinB l ++ s := by
  unfold joinB
  rw [inter_nil, inter_nil, List.map_append, List.flatten_append]
  apply ByteArray.ext
  rw [ByteArray.data_append]
  simp
theorem joinB_size : ∀ l : List ByteArray, (∀ s ∈ l, s.size ≤ 5000) → (joinB l).size ≤ l.length * 5000 := by
  intro l h
  have h1 := lens_le l h
  have h2 : (joinB l).size = Lib.lens (l.map (·.data.toList)) := by
    unfold joinB
    rw [inter_nil, Lib.lens, ← List.length_flatten]
    exact List.size_toArray
  omega
end Go.Proofs.Ytfobgjhjigkigaa
