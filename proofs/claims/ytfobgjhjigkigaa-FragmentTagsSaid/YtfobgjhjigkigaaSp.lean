/- Plain facts of Split's errors and counts. -/
import Derived.Test.YtfobgjhjigkigaaFw6
namespace Go.Proofs.Ytfobgjhjigkigaa
theorem splitErr_cnt {tag most : Int} {size : Nat} (h : splitErr tag size most = 0) : (0 ≤ tag ∧ tag ≤ 255) ∧ (1 ≤ most ∧ most ≤ 120) ∧ size ≠ 0 ∧ size ≤ 4095 ∧ (size + most - 1) / most ≤ 32 := by
  unfold splitErr at h
  by_cases h1 : tag < 0; · rw [if_pos h1] at h; cases h
  rw [if_neg h1] at h
  by_cases h2 : 255 < tag; · rw [if_pos h2] at h; cases h
  rw [if_neg h2] at h
  by_cases h3 : most < 1; · rw [if_pos h3] at h; cases h
  rw [if_neg h3] at h
  by_cases h4 : 120 < most; · rw [if_pos h4] at h; cases h
  rw [if_neg h4] at h
  by_cases h5 : size = 0; · rw [if_pos h5] at h; cases h
  rw [if_neg h5] at h
  by_cases h6 : 4095 < size; · rw [if_pos h6] at h; cases h
  rw [if_neg h6] at h
  by_cases h7 : 32 < (size + most - 1) / most; · rw [if_pos h7] at h; cases h
  omega
theorem splitCnt_le (tag : Int) (size : Nat) (most : Int) : splitCnt tag size most ≤ 32 := by
  unfold splitCnt
  by_cases h : splitErr tag size most = 0
  · rw [if_pos h]; have := (splitErr_cnt h).2.2.2.2; omega
  · rw [if_neg h]; omega
theorem missErr_ok {cnt bm : Int} (h : missErr cnt bm = 0) : (1 ≤ cnt ∧ cnt ≤ 32) ∧ 0 ≤ bm := by
  unfold missErr at h
  by_cases h1 : cnt < 1; · rw [if_pos h1] at h; cases h
  rw [if_neg h1] at h
  by_cases h2 : 32 < cnt; · rw [if_pos h2] at h; cases h
  rw [if_neg h2] at h
  by_cases h3 : bm < 0; · rw [if_pos h3] at h; cases h
  omega
theorem missOf_le (cnt bm : Int) : (missOf cnt bm).length ≤ 32 := by
  unfold missOf
  by_cases h : missErr cnt bm = 0
  · rw [if_pos h]; have h1 := missErr_ok h; have h2 := missL_len bm.toNat cnt.toNat; omega
  · rw [if_neg h]; simp

end Go.Proofs.Ytfobgjhjigkigaa
