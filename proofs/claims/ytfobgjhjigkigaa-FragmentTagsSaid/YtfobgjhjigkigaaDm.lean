/- Plain law: the bytes of what was decoded are the bytes that were read. -/
import Derived.Test.YtfobgjhjigkigaaFw15
import Derived.Test.YtfobgjhjigkigaaFw6
namespace Go.Proofs.Ytfobgjhjigkigaa
open Go.Eng

theorem bits_rd (s : ByteArray) (i : Nat) : ∀ k, Bm.bitsOf k (Bm.rdN s i k) = (List.range k).map fun j => Bm.bitAt s (i + j)
  | 0 => rfl
  | k + 1 => by
    have hb := Bm.bitAt_le s (i + k)
    rw [List.range_succ, List.map_append, ← bits_rd s i k]
    unfold Bm.bitsOf
    rw [List.range_succ, List.map_append]
    congr 1
    · apply List.map_congr_left
      intro j hj
      have hj' := List.mem_range.1 hj
      rw [Bm.rdN, show k + 1 - 1 - j = (k - 1 - j) + 1 by omega, Nat.pow_succ, Nat.mul_comm (2 ^ _) 2, ← Nat.div_div_eq_div_mul]
      congr 2
      omega
    · simp [Bm.rdN]
      omega

theorem map_range_cut (f : Nat → Nat) (a b : Nat) : (List.range a).map f ++ (List.range b).map (fun j => f (a + j)) = (List.range (a + b)).map f := by
  induction b with
  | zero => simp
  | succ b ih => rw [List.range_succ, List.map_append, ← List.append_assoc, ih, ← Nat.add_assoc, List.range_succ, List.map_append]; rfl

theorem head_bits (data : ByteArray) : headBits (dTag data) (dIdx data) ((dCnt data : Int) + 1) (dSize data) = (List.range 30).map (Bm.bitAt (hd4 data)) := by
  unfold headBits
  rw [show ((dCnt data : Int) + 1 - 1).toNat = dCnt data by omega, Int.toNat_natCast, Int.toNat_natCast, Int.toNat_natCast]
  unfold dTag dIdx dCnt dSize
  rw [bits_rd, bits_rd, bits_rd, bits_rd, List.nil_append]
  have e0 : (List.range 8).map (fun j => Bm.bitAt (hd4 data) (0 + j)) = (List.range 8).map (Bm.bitAt (hd4 data)) := by simp
  rw [e0, map_range_cut, map_range_cut, map_range_cut]

theorem getD_map30 (f : Nat → Nat) (k : Nat) : ((List.range 30).map f).getD k 0 = if k < 30 then f k else 0 := by
  by_cases h : k < 30
  · rw [if_pos h]; simp [List.getD, h]
  · rw [if_neg h]; simp [List.getD, h]

theorem byte_sum (b : UInt8) : b.toNat / 2 ^ 7 % 2 * 128 + b.toNat / 2 ^ 6 % 2 * 64 + b.toNat / 2 ^ 5 % 2 * 32 + b.toNat / 2 ^ 4 % 2 * 16 + b.toNat / 2 ^ 3 % 2 * 8 + b.toNat / 2 ^ 2 % 2 * 4 + b.toNat / 2 ^ 1 % 2 * 2 + b.toNat / 2 ^ 0 % 2 = b.toNat := by
  have h := Bm.byte_lt b
  omega

theorem pack_head {h : ByteArray} (hs : h.size = 4) (h30 : Bm.bitAt h 30 = 0) (h31 : Bm.bitAt h 31 = 0) : strOf (Bm.pack ((List.range 30).map (Bm.bitAt h))) = h := by
  obtain ⟨⟨l⟩⟩ := h
  match l, hs with
  | [b0, b1, b2, b3], _ =>
    have hl : ((List.range 30).map (Bm.bitAt ⟨⟨[b0, b1, b2, b3]⟩⟩)).length = 30 := by simp
    unfold Bm.pack
    rw [hl, show List.range ((30 + 7) / 8) = [0, 1, 2, 3] from rfl]
    simp only [List.map_cons, List.map_nil]
    have g30 := getD_map30 (Bm.bitAt ⟨⟨[b0, b1, b2, b3]⟩⟩)
    have e0 : Bm.byteAt ((List.range 30).map (Bm.bitAt ⟨⟨[b0, b1, b2, b3]⟩⟩)) 0 = b0.toNat := by
      unfold Bm.byteAt; rw [g30, g30, g30, g30, g30, g30, g30, g30]; exact byte_sum b0
    have e1 : Bm.byteAt ((List.range 30).map (Bm.bitAt ⟨⟨[b0, b1, b2, b3]⟩⟩)) 1 = b1.toNat := by
      unfold Bm.byteAt; rw [g30, g30, g30, g30, g30, g30, g30, g30]; exact byte_sum b1
    have e2 : Bm.byteAt ((List.range 30).map (Bm.bitAt ⟨⟨[b0, b1, b2, b3]⟩⟩)) 2 = b2.toNat := by
      unfold Bm.byteAt; rw [g30, g30, g30, g30, g30, g30, g30, g30]; exact byte_sum b2
    have e3 : Bm.byteAt ((List.range 30).map (Bm.bitAt ⟨⟨[b0, b1, b2, b3]⟩⟩)) 3 = b3.toNat := by
      have k30 : b3.toNat / 2 ^ 1 % 2 = 0 := h30
      have k31 : b3.toNat / 2 ^ 0 % 2 = 0 := h31
      have hb := byte_sum b3
      rw [k30, k31] at hb
      unfold Bm.byteAt; rw [g30, g30, g30, g30, g30, g30, g30, g30]; exact hb
    rw [e0, e1, e2, e3]
    simp [strOf]

theorem hd_tl {data : ByteArray} (_h : 4 ≤ data.size) : hd4 data ++ tl4 data = data := by
  unfold hd4 tl4
  have h1 := ByteArray.extract_append_extract (a := data) (i := 0) (j := 4) (k := data.size)
  rw [h1]
  simp

theorem enc_dec {data : ByteArray} (h : decErr data = 0) : encOf (dTag data) (dIdx data) ((dCnt data : Int) + 1) (dSize data) (tl4 data) = data := by
  unfold decErr at h
  by_cases h1 : data.size < 4
  · rw [if_pos h1] at h; cases h
  rw [if_neg h1] at h
  by_cases h2 : dPad data = 0
  · rw [if_pos h2] at h
    by_cases h3 : dPart data = 0
    · rw [if_pos h3] at h; cases h
    have hz := size_hd4 (data := data) (by omega)
    have hp : Bm.rdN (hd4 data) (0 + 8 + 5 + 5 + 12) (8 * (hd4 data).size - (0 + 8 + 5 + 5 + 12)) = 0 := h2
    have hb := (rdN_zero _ _ _).1 hp
    unfold encOf
    rw [if_neg (show ¬ Fm.part (dTag data) (dIdx data) ((dCnt data : Int) + 1) (dSize data) (tl4 data).size = 0 from h3), head_bits, pack_head hz (hb 0 (by omega)) (hb 1 (by omega)), hd_tl (by omega)]
  · rw [if_neg h2] at h; cases h
end Go.Proofs.Ytfobgjhjigkigaa
