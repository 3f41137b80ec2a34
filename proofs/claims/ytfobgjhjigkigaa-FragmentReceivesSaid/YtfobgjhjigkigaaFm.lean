/- Plain arithmetic of fragments (no program in sight). -/
import Derived.RowKit
namespace Go.Proofs.Ytfobgjhjigkigaa
namespace Fm

/-- The part length of a fragment, 0 if it is not valid; n is the number of its bytes. As package fragment has it. -/
def part (tag idx cnt size n : Int) : Int :=
  if tag < 0 then 0 else if 255 < tag then 0 else if size < 1 then 0 else if 4095 < size then 0 else
  if cnt < 1 then 0 else if 32 < cnt then 0 else if idx < 0 then 0 else if cnt ≤ idx then 0 else if n < 1 then 0 else
  if cnt = 1 then (if n = size then (if 120 < n then 0 else n) else 0) else
  if idx = cnt - 1 then
    (if size ≤ n then 0 else if (size - n) % (cnt - 1) = 0 then
      (if (size - n) / (cnt - 1) < n then 0 else if 120 < (size - n) / (cnt - 1) then 0 else if size ≤ (cnt - 1) * ((size - n) / (cnt - 1)) then 0 else if cnt * ((size - n) / (cnt - 1)) < size then 0 else (size - n) / (cnt - 1))
     else 0)
  else if 120 < n then 0 else if size ≤ (cnt - 1) * n then 0 else if cnt * n < size then 0 else n

/-- The same, as the reference has it. -/
def length (tag idx cnt size n : Int) : Int :=
  if tag < 0 then 0 else if 255 < tag then 0 else if cnt < 1 then 0 else if 32 < cnt then 0 else if idx < 0 then 0 else if cnt ≤ idx then 0 else if size < 1 then 0 else if 4095 < size then 0 else
  if cnt = 1 then (if n = size then (if 120 < n then 0 else n) else 0) else
  if idx = cnt - 1 then
    (if size ≤ n then 0 else if (size - n) % (cnt - 1) = 0 then
      (if (size - n) / (cnt - 1) < 1 then 0 else if 120 < (size - n) / (cnt - 1) then 0 else if size - (size - n) / (cnt - 1) * (cnt - 1) < 1 then 0 else if (size - n) / (cnt - 1) < size - (size - n) / (cnt - 1) * (cnt - 1) then 0 else if n = size - (size - n) / (cnt - 1) * (cnt - 1) then (size - n) / (cnt - 1) else 0)
     else 0)
  else if n < 1 then 0 else if 120 < n then 0 else if size - n * (cnt - 1) < 1 then 0 else if n < size - n * (cnt - 1) then 0 else n

/-- What both say in one sentence. -/
theorem part_length (tag idx cnt size n : Int) (hn : 0 ≤ n) : part tag idx cnt size n = length tag idx cnt size n := by
  unfold part length
  by_cases h1 : tag < 0; · simp only [if_pos h1]
  by_cases h2 : 255 < tag; · simp only [if_neg h1, if_pos h2]
  by_cases h3 : cnt < 1; · simp only [if_neg h1, if_neg h2, if_pos h3, ite_self]
  by_cases h4 : 32 < cnt; · simp only [if_neg h1, if_neg h2, if_neg h3, if_pos h4, ite_self]
  by_cases h5 : idx < 0; · simp only [if_neg h1, if_neg h2, if_neg h3, if_neg h4, if_pos h5, ite_self]
  by_cases h6 : cnt ≤ idx; · simp only [if_neg h1, if_neg h2, if_neg h3, if_neg h4, if_neg h5, if_pos h6, ite_self]
  by_cases h7 : size < 1; · simp only [if_neg h1, if_neg h2, if_neg h3, if_neg h4, if_neg h5, if_neg h6, if_pos h7]
  by_cases h8 : 4095 < size; · simp only [if_neg h1, if_neg h2, if_neg h3, if_neg h4, if_neg h5, if_neg h6, if_neg h7, if_pos h8]
  simp only [if_neg h1, if_neg h2, if_neg h3, if_neg h4, if_neg h5, if_neg h6, if_neg h7, if_neg h8]
  by_cases h9 : cnt = 1
  · simp only [if_pos h9]
    by_cases h10 : n = size
    · simp only [if_pos h10]
      rw [if_neg (by omega)]
    · simp only [if_neg h10, ite_self]
  · simp only [if_neg h9]
    by_cases h10 : idx = cnt - 1
    · simp only [if_pos h10]
      by_cases h11 : size ≤ n
      · simp only [if_pos h11, ite_self]
      · simp only [if_neg h11]
        by_cases h12 : (size - n) % (cnt - 1) = 0
        · simp only [if_pos h12]
          have e : (cnt - 1) * ((size - n) / (cnt - 1)) = size - n := Int.mul_ediv_cancel_of_emod_eq_zero h12
          have e2 : (size - n) / (cnt - 1) * (cnt - 1) = size - n := by rw [Int.mul_comm]; exact e
          have e3 : cnt * ((size - n) / (cnt - 1)) = size - n + (size - n) / (cnt - 1) := by
            have : cnt * ((size - n) / (cnt - 1)) = (cnt - 1) * ((size - n) / (cnt - 1)) + (size - n) / (cnt - 1) := by
              rw [Int.sub_mul]; omega
            omega
          rw [e, e2, e3]
          generalize (size - n) / (cnt - 1) = p at *
          by_cases h13 : n < 1
          · simp only [if_pos h13]
            by_cases h14 : p < 1; · simp only [if_pos h14]
            simp only [if_neg h14]
            by_cases h15 : 120 < p; · simp only [if_pos h15]
            simp only [if_neg h15]
            rw [if_pos (by omega)]
          · simp only [if_neg h13]
            by_cases h14 : p < n
            · simp only [if_pos h14]
              by_cases h15 : p < 1; · simp only [if_pos h15]
              simp only [if_neg h15]
              by_cases h16 : 120 < p; · simp only [if_pos h16]
              simp only [if_neg h16]
              rw [if_neg (by omega), if_pos (by omega)]
            · simp only [if_neg h14]
              rw [if_neg (show ¬ p < 1 by omega)]
              by_cases h16 : 120 < p; · simp only [if_pos h16]
              simp only [if_neg h16]
              rw [if_neg (by omega), if_neg (by omega), if_neg (by omega), if_neg (by omega), if_pos (by omega)]
        · simp only [if_neg h12, ite_self]
    · simp only [if_neg h10]
      have e : n * (cnt - 1) = (cnt - 1) * n := Int.mul_comm _ _
      have e3 : cnt * n = (cnt - 1) * n + n := by rw [Int.sub_mul]; omega
      rw [e, e3]
      generalize (cnt - 1) * n = q at *
      by_cases h13 : n < 1; · simp only [if_pos h13]
      simp only [if_neg h13]
      by_cases h14 : 120 < n; · simp only [if_pos h14]
      simp only [if_neg h14]
      by_cases h15 : size ≤ q
      · rw [if_pos h15, if_pos (by omega)]
      · rw [if_neg h15, if_neg (show ¬ size - q < 1 by omega)]
        by_cases h16 : q + n < size
        · rw [if_pos h16, if_pos (by omega)]
        · rw [if_neg h16, if_neg (by omega)]

theorem part_ok {tag idx cnt size n : Int} (h : part tag idx cnt size n ≠ 0) : (0 ≤ tag ∧ tag ≤ 255) ∧ (1 ≤ size ∧ size ≤ 4095) ∧ (1 ≤ cnt ∧ cnt ≤ 32) ∧ (0 ≤ idx ∧ idx < cnt) ∧ 1 ≤ n := by
  unfold part at h
  by_cases h1 : tag < 0; · rw [if_pos h1] at h; exact absurd rfl h
  rw [if_neg h1] at h
  by_cases h2 : 255 < tag; · rw [if_pos h2] at h; exact absurd rfl h
  rw [if_neg h2] at h
  by_cases h3 : size < 1; · rw [if_pos h3] at h; exact absurd rfl h
  rw [if_neg h3] at h
  by_cases h4 : 4095 < size; · rw [if_pos h4] at h; exact absurd rfl h
  rw [if_neg h4] at h
  by_cases h5 : cnt < 1; · rw [if_pos h5] at h; exact absurd rfl h
  rw [if_neg h5] at h
  by_cases h6 : 32 < cnt; · rw [if_pos h6] at h; exact absurd rfl h
  rw [if_neg h6] at h
  by_cases h7 : idx < 0; · rw [if_pos h7] at h; exact absurd rfl h
  rw [if_neg h7] at h
  by_cases h8 : cnt ≤ idx; · rw [if_pos h8] at h; exact absurd rfl h
  rw [if_neg h8] at h
  by_cases h9 : n < 1; · rw [if_pos h9] at h; exact absurd rfl h
  omega
end Fm
end Go.Proofs.Ytfobgjhjigkigaa
