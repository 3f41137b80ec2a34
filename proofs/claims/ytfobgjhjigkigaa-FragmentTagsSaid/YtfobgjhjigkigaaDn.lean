/- Plain law: the fragments of a datagram are valid, are restored from their bytes, and are the datagram. -/
import Derived.Test.YtfobgjhjigkigaaDm
import Derived.Test.YtfobgjhjigkigaaSp
namespace Go.Proofs.Ytfobgjhjigkigaa
open Go.Eng

theorem Fm.part_piece {tag k cnt size m n : Int} (ht : 0 ≤ tag ∧ tag ≤ 255) (hs : 1 ≤ size ∧ size ≤ 4095) (hm : 1 ≤ m ∧ m ≤ 120) (hc : 1 ≤ cnt ∧ cnt ≤ 32) (h1 : (cnt - 1) * m < size) (h2 : size ≤ cnt * m) (hk : 0 ≤ k ∧ k < cnt)
    (hn : (k = cnt - 1 ∧ n = size - (cnt - 1) * m) ∨ (k < cnt - 1 ∧ n = m)) : Fm.part tag k cnt size n ≠ 0 := by
  have e0 : cnt * m = (cnt - 1) * m + m := by rw [Int.sub_mul]; omega
  have hn1 : 1 ≤ n := by rcases hn with ⟨_, h⟩ | ⟨_, h⟩ <;> omega
  unfold Fm.part
  rw [if_neg (by omega), if_neg (by omega), if_neg (by omega), if_neg (by omega), if_neg (by omega), if_neg (by omega), if_neg (by omega), if_neg (by omega), if_neg (by omega)]
  by_cases hc1 : cnt = 1
  · subst hc1
    rw [if_pos rfl, if_pos (by rcases hn with ⟨_, h⟩ | ⟨_, h⟩ <;> omega), if_neg (by rcases hn with ⟨_, h⟩ | ⟨_, h⟩ <;> omega)]
    omega
  rw [if_neg hc1]
  rcases hn with ⟨hk1, rfl⟩ | ⟨hk1, rfl⟩
  · have e1 : size - (size - (cnt - 1) * m) = (cnt - 1) * m := by omega
    have hpos : 0 < (cnt - 1) * m := Int.mul_pos (by omega) (by omega)
    rw [if_pos hk1, if_neg (by omega), e1, if_pos (Int.mul_emod_right _ _), Int.mul_ediv_cancel_left m (by omega), if_neg (by omega), if_neg (by omega), if_neg (by omega), if_neg (by omega)]
    omega
  · rw [if_neg (by omega), if_neg (by omega), if_neg (by omega), if_neg (by omega)]
    omega
theorem cnt_bounds {size : Nat} {m : Int} (hs : 1 ≤ size) (hm : 1 ≤ m) : ((size + m - 1) / m - 1) * m < size ∧ (size : Int) ≤ (size + m - 1) / m * m ∧ 1 ≤ (size + m - 1) / m := by
  obtain ⟨c, hc⟩ : ∃ c, (size + m - 1) / m = c := ⟨_, rfl⟩
  have h1 : m * ((size + m - 1) / m) + (size + m - 1) % m = size + m - 1 := Int.mul_ediv_add_emod _ _
  have h2 := Int.emod_nonneg (size + m - 1 : Int) (show m ≠ 0 by omega)
  have h3 := Int.emod_lt_of_pos (size + m - 1 : Int) (show 0 < m by omega)
  have h6 : 1 ≤ (size + m - 1) / m := (Int.le_ediv_iff_mul_le (by omega)).2 (by omega)
  rw [hc] at h1 h6 ⊢
  have h4 : (c - 1) * m = m * c - m := by rw [Int.sub_mul, Int.mul_comm]; omega
  have h5 : c * m = m * c := Int.mul_comm _ _
  exact ⟨by omega, by omega, h6⟩
theorem lt_bits (h : Nat → Nat) (rd : Nat → Nat) (h0 : rd 0 = 0) (hs : ∀ k, rd (k + 1) = 2 * rd k + h k) (n w : Nat) (hn : n < 2 ^ w) (hb : ∀ j, j < w → h j = n / 2 ^ (w - 1 - j) % 2) : ∀ k, k ≤ w → rd k = n / 2 ^ (w - k)
  | 0, _ => by rw [h0, Nat.sub_zero, Nat.div_eq_of_lt hn]
  | k + 1, hk => by
    rw [hs, lt_bits h rd h0 hs n w hn hb k (by omega), hb k (by omega), show w - k = (w - (k + 1)) + 1 by omega, Nat.pow_succ, ← Nat.div_div_eq_div_mul, show w - 1 - k = w - (k + 1) by omega]
    omega
theorem rd_of_bits {s : ByteArray} {i w n : Nat} (hn : n < 2 ^ w) (hb : ∀ j, j < w → Bm.bitAt s (i + j) = n / 2 ^ (w - 1 - j) % 2) : Bm.rdN s i w = n := by
  have h := lt_bits (fun j => Bm.bitAt s (i + j)) (Bm.rdN s i) rfl (fun k => rfl) n w hn hb w (Nat.le_refl _)
  rw [h, Nat.sub_self, Nat.pow_zero, Nat.div_one]

theorem bit_byteAt {bs : List Nat} (hb : Bm.Bits bs) (j r : Nat) (hr : r < 8) : Bm.byteAt bs j / 2 ^ (7 - r) % 2 = bs.getD (8 * j + r) 0 := by
  have h0 := Bm.getD_le hb (8 * j); have h1 := Bm.getD_le hb (8 * j + 1); have h2 := Bm.getD_le hb (8 * j + 2); have h3 := Bm.getD_le hb (8 * j + 3)
  have h4 := Bm.getD_le hb (8 * j + 4); have h5 := Bm.getD_le hb (8 * j + 5); have h6 := Bm.getD_le hb (8 * j + 6); have h7 := Bm.getD_le hb (8 * j + 7)
  unfold Bm.byteAt
  match r, hr with
  | 0, _ => show _ / 2 ^ 7 % 2 = bs.getD (8 * j) 0; omega
  | 1, _ => show _ / 2 ^ 6 % 2 = _; omega
  | 2, _ => show _ / 2 ^ 5 % 2 = _; omega
  | 3, _ => show _ / 2 ^ 4 % 2 = _; omega
  | 4, _ => show _ / 2 ^ 3 % 2 = _; omega
  | 5, _ => show _ / 2 ^ 2 % 2 = _; omega
  | 6, _ => show _ / 2 ^ 1 % 2 = _; omega
  | 7, _ => show _ / 2 ^ 0 % 2 = _; omega
theorem bitAt_pack {bs : List Nat} (hb : Bm.Bits bs) {i : Nat} (hi : i / 8 < (bs.length + 7) / 8) : Bm.bitAt (strOf (Bm.pack bs)) i = bs.getD i 0 := by
  have h1 := Bm.byteAt_lt hb (i / 8)
  have e : (strOf (Bm.pack bs)).data.toList.getD (i / 8) 0 = UInt8.ofNat (Bm.byteAt bs (i / 8)) := by
    have e1 : (strOf (Bm.pack bs)).data.toList = (Bm.pack bs).map UInt8.ofNat := by simp [strOf]
    rw [e1, List.getD, List.getElem?_map, Bm.getElem?_pack, if_pos hi]
    rfl
  unfold Bm.bitAt
  rw [e, UInt8.toNat_ofNat_of_lt' (by simpa using h1), bit_byteAt hb _ _ (by omega), show 8 * (i / 8) + i % 8 = i by omega]

theorem getD_seg (X Y : List Nat) (w n j i : Nat) (hi : i = X.length + j) (hj : j < w) : ((X ++ Bm.bitsOf w n) ++ Y).getD i 0 = n / 2 ^ (w - 1 - j) % 2 := by
  subst hi
  rw [List.getD, List.getElem?_append_left (by simp [Bm.length_bitsOf]; omega), List.getElem?_append_right (by omega), Nat.add_sub_cancel_left]
  simp [Bm.bitsOf, hj]

section
variable {tag idx cnt size : Int}
theorem head_len : (headBits tag idx cnt size).length = 30 := by simp [headBits, Bm.length_bitsOf]
theorem head_is : Bm.Bits (headBits tag idx cnt size) := hdBits _ _ (hdBits _ _ (hdBits _ _ (hdBits _ _ noBits)))
theorem head_size : (strOf (Bm.pack (headBits tag idx cnt size))).size = 4 := by rw [size_strOf, Bm.length_pack, head_len]
theorem head_bit {i : Nat} (hi : i < 32) : Bm.bitAt (strOf (Bm.pack (headBits tag idx cnt size))) i = (headBits tag idx cnt size).getD i 0 := bitAt_pack head_is (by rw [head_len]; omega)

theorem hd_append {a b : ByteArray} (h : a.size = 4) : hd4 (a ++ b) = a := by
  unfold hd4
  rw [ByteArray.extract_append_eq_left h.symm]
theorem tl_append {a b : ByteArray} (h : a.size = 4) : tl4 (a ++ b) = b := by
  unfold tl4
  rw [ByteArray.extract_append_eq_right h.symm (by simp)]

theorem dec_enc {s : ByteArray} (hp : Fm.part tag idx cnt size s.size ≠ 0) : decErr (encOf tag idx cnt size s) = 0 ∧ decFr (encOf tag idx cnt size s) = (tag, idx, cnt, size, s) ∧ (encOf tag idx cnt size s).size = s.size + 4 := by
  have hok := Fm.part_ok hp
  have he : encOf tag idx cnt size s = strOf (Bm.pack (headBits tag idx cnt size)) ++ s := by unfold encOf; rw [if_neg hp]
  have hh : hd4 (encOf tag idx cnt size s) = strOf (Bm.pack (headBits tag idx cnt size)) := by rw [he]; exact hd_append head_size
  have ht : tl4 (encOf tag idx cnt size s) = s := by rw [he]; exact tl_append head_size
  have hz : (encOf tag idx cnt size s).size = s.size + 4 := by rw [he, ByteArray.size_append, head_size]; omega
  have d1 : dTag (encOf tag idx cnt size s) = tag.toNat := by
    unfold dTag; rw [hh]
    refine rd_of_bits (by omega) fun j hj => ?_
    rw [head_bit (by omega)]
    unfold headBits
    rw [List.append_assoc, List.append_assoc]
    exact getD_seg _ _ _ _ _ _ (by simp) hj
  have d2 : dIdx (encOf tag idx cnt size s) = idx.toNat := by
    unfold dIdx; rw [hh]
    refine rd_of_bits (by omega) fun j hj => ?_
    rw [head_bit (by omega)]
    unfold headBits
    rw [List.append_assoc]
    exact getD_seg _ _ _ _ _ _ (by simp [Bm.length_bitsOf]) hj
  have d3 : dCnt (encOf tag idx cnt size s) = (cnt - 1).toNat := by
    unfold dCnt; rw [hh]
    refine rd_of_bits (by omega) fun j hj => ?_
    rw [head_bit (by omega)]
    unfold headBits
    exact getD_seg _ _ _ _ _ _ (by simp [Bm.length_bitsOf]) hj
  have d4 : dSize (encOf tag idx cnt size s) = size.toNat := by
    unfold dSize; rw [hh]
    refine rd_of_bits (by omega) fun j hj => ?_
    rw [head_bit (by omega)]
    unfold headBits
    rw [← List.append_nil (_ ++ Bm.bitsOf 12 size.toNat)]
    exact getD_seg _ _ _ _ _ _ (by simp [Bm.length_bitsOf]) hj
  have d5 : dPad (encOf tag idx cnt size s) = 0 := by
    unfold dPad; rw [hh, head_size]
    refine (rdN_zero _ _ _).2 fun k hk => ?_
    rw [head_bit (by omega)]
    exact Bm.getD_out (by rw [head_len]; omega)
  have d6 : dPart (encOf tag idx cnt size s) ≠ 0 := by
    unfold dPart
    rw [d1, d2, d3, d4, ht, show ((tag.toNat : Nat) : Int) = tag by omega, show ((idx.toNat : Nat) : Int) = idx by omega, show (((cnt - 1).toNat : Nat) : Int) + 1 = cnt by omega, show ((size.toNat : Nat) : Int) = size by omega]
    exact hp
  obtain ⟨e1, e2⟩ := dec_ok (by omega) d5 d6
  refine ⟨e1, ?_, hz⟩
  rw [e2, d1, d2, d3, d4, ht, show ((tag.toNat : Nat) : Int) = tag by omega, show ((idx.toNat : Nat) : Int) = idx by omega, show (((cnt - 1).toNat : Nat) : Int) + 1 = cnt by omega, show ((size.toNat : Nat) : Int) = size by omega]
end

theorem size_piece (data : ByteArray) (m k : Nat) : (piece data m k).size = min ((k + 1) * m) data.size - k * m := by
  unfold piece; simp
theorem take_piece (data : ByteArray) (m k : Nat) (h : k * m ≤ data.size) : data.extract 0 (k * m) ++ piece data m k = data.extract 0 (min ((k + 1) * m) data.size) := by
  have hle : k * m ≤ (k + 1) * m := Nat.mul_le_mul_right _ (by omega)
  unfold piece
  rw [ByteArray.extract_append_extract, Nat.min_eq_left (Nat.zero_le _), Nat.max_eq_right (by omega)]

/-- What is true of the k-th fragment of a datagram that was split. -/
theorem frag_ok {tag most : Int} {data : ByteArray} (h : splitErr tag data.size most = 0) {k : Nat} (hk : k < splitCnt tag data.size most) :
    Fm.part tag k (splitCnt tag data.size most) data.size (piece data most.toNat k).size ≠ 0 ∧ ((piece data most.toNat k).size : Int) ≤ most ∧ k * most.toNat ≤ data.size := by
  obtain ⟨ht, hm, hs, hs2, hc⟩ := splitErr_cnt h
  obtain ⟨h1, h2, h3⟩ := cnt_bounds (size := data.size) (m := most) (by omega) (by omega)
  have hcnt : (splitCnt tag data.size most : Int) = (data.size + most - 1) / most := by unfold splitCnt; rw [if_pos h]; omega
  rw [← hcnt] at h1 h2 h3 hc
  obtain ⟨c, hc'⟩ : ∃ c : Nat, splitCnt tag data.size most = c := ⟨_, rfl⟩
  rw [hc'] at h1 h2 h3 hc hk ⊢
  obtain ⟨m, rfl⟩ : ∃ m : Nat, most = m := ⟨most.toNat, by omega⟩
  rw [Int.toNat_natCast, size_piece]
  have e1 : ((k : Int) + 1) * m ≤ (c : Int) * m := Int.mul_le_mul_of_nonneg_right (by omega) (by omega)
  have e2 : (k + 1) * m = k * m + m := by rw [Nat.add_mul]; omega
  have e3 : (c : Int) * m = ((c : Int) - 1) * m + m := by rw [Int.sub_mul]; omega
  have e4 : (k : Int) * m ≤ ((c : Int) - 1) * m := Int.mul_le_mul_of_nonneg_right (by omega) (by omega)
  have e5 : ((k * m : Nat) : Int) = (k : Int) * m := Int.natCast_mul _ _
  refine ⟨Fm.part_piece ht (by omega) hm (by omega) h1 h2 (by omega) ?_, by omega, by omega⟩
  by_cases hl : k + 1 = c
  · left
    have e6 : (k : Int) * m = ((c : Int) - 1) * m := by rw [show (k : Int) = c - 1 by omega]
    refine ⟨by omega, ?_⟩
    omega
  · right
    have e6 : ((k : Int) + 1) * m ≤ ((c : Int) - 1) * m := Int.mul_le_mul_of_nonneg_right (by omega) (by omega)
    have e7 : ((k : Int) + 1) * m = (k : Int) * m + m := by rw [Int.add_mul]; omega
    refine ⟨by omega, ?_⟩
    omega
theorem last_all {tag most : Int} {data : ByteArray} (h : splitErr tag data.size most = 0) : data.size ≤ splitCnt tag data.size most * most.toNat := by
  obtain ⟨ht, hm, hs, hs2, hc⟩ := splitErr_cnt h
  obtain ⟨h1, h2, h3⟩ := cnt_bounds (size := data.size) (m := most) (by omega) (by omega)
  have hcnt : (splitCnt tag data.size most : Int) = (data.size + most - 1) / most := by unfold splitCnt; rw [if_pos h]; omega
  rw [← hcnt] at h2
  obtain ⟨m, rfl⟩ : ∃ m : Nat, most = m := ⟨most.toNat, by omega⟩
  rw [Int.toNat_natCast]
  have e5 : ((splitCnt tag data.size m * m : Nat) : Int) = (splitCnt tag data.size m : Int) * m := Int.natCast_mul _ _
  omega
end Go.Proofs.Ytfobgjhjigkigaa
