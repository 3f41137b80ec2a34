/- Bits read out of a string, plain. -/
import Derived.Test.YtfobgjhjigkigaaBm
namespace Go.Proofs.Ytfobgjhjigkigaa.Bm
open Go

def bitAt (s : ByteArray) (i : Nat) : Nat := (s.data.toList.getD (i / 8) 0).toNat / 2 ^ (7 - i % 8) % 2
def rdN (s : ByteArray) (i : Nat) : Nat → Nat
  | 0 => 0
  | k + 1 => 2 * rdN s i k + bitAt s (i + k)
theorem bitAt_le (s : ByteArray) (i : Nat) : bitAt s i ≤ 1 := by unfold bitAt; omega
theorem rdN_lt (s : ByteArray) (i : Nat) : ∀ k, rdN s i k < 2 ^ k
  | 0 => by simp [rdN]
  | k + 1 => by have h := rdN_lt s i k; have hb := bitAt_le s (i + k); rw [rdN, Nat.pow_succ]; omega
theorem getD_some {s : ByteArray} {i : Nat} {b : UInt8} (h : s[i]? = some b) : s.data.toList.getD i 0 = b := by
  have h3 : i < s.size := by
    rcases Nat.lt_or_ge i s.size with h' | h'
    · exact h'
    · rw [getElem?_neg s i (by omega)] at h; cases h
  rw [getElem?_pos s i h3] at h
  have h6 : i < s.data.size := h3
  rw [List.getD, List.getElem?_eq_getElem (by simpa using h6)]
  exact Option.some.inj h
theorem or_even (n b : Nat) (hb : b ≤ 1) : (n * 2 ||| b) = 2 * n + b := by
  have h := Nat.two_pow_add_eq_or_of_lt (i := 1) (b := b) (by omega) n
  rw [Nat.mul_comm n 2]; simpa using h.symm
theorem pow_le (j n : Nat) (h : j ≤ n) : 2 ^ j ≤ 2 ^ n := Nat.pow_le_pow_right (by omega) h
theorem u8_bit (a : Nat) (ha : a < 256) : bits .and .u8 (a : Int) 1 = ((a % 2 : Nat) : Int) := by
  rw [show (1 : Int) = ((1 : Nat) : Int) from rfl, u8_and_nat _ _ ha (by omega), nat_mask1]
theorem i64_or (a b : Nat) (ha : a < 9223372036854775808) (hb : b < 9223372036854775808) : bits .or .i64 (a : Int) (b : Int) = ((a ||| b : Nat) : Int) := by
  have hx : a ||| b < 2 ^ 63 := Nat.or_lt_two_pow (by omega) (by omega)
  have e : ∀ c : Nat, c < 9223372036854775808 → (BitVec.ofInt 64 (c : Int)).toNat = c := fun c hc => by rw [BitVec.ofInt_natCast, BitVec.toNat_ofNat]; exact Nat.mod_eq_of_lt (by omega)
  show IntKind.i64.wrap ((BitVec.ofInt 64 (a : Int) ||| BitVec.ofInt 64 (b : Int)).toNat : Int) = _
  rw [BitVec.toNat_or, e a ha, e b hb, IntKind.wrap_i64]
  omega
theorem byte_lt (b : UInt8) : b.toNat < 256 := b.toNat_lt
theorem bit_of_byte {s : ByteArray} {j : Nat} {b : UInt8} (hb : s[((j : Int) / 8).toNat]? = some b) : b.toNat / 2 ^ (7 - (j : Int) % 8).toNat % 2 = bitAt s j := by
  unfold bitAt
  rw [show ((j : Int) / 8).toNat = j / 8 by omega] at hb
  rw [getD_some hb, show (7 - (j : Int) % 8).toNat = 7 - j % 8 by omega]
theorem rd_u64 {s : ByteArray} {b : UInt8} (n j : Nat) (hn : n < 9223372036854775808) (hb : s[((j : Int) / 8).toNat]? = some b) :
    bits .or .u64 (IntKind.u64.wrap ((n : Int) * 2 ^ Int.toNat 1)) (IntKind.u64.wrap (bits .and .u8 ((b.toNat : Int) / 2 ^ (7 - (j : Int) % 8).toNat) 1)) = ((2 * n + bitAt s j : Nat) : Int) := by
  have h1 := byte_lt b
  have e1 : ((b.toNat : Int) / 2 ^ (7 - (j : Int) % 8).toNat) = ((b.toNat / 2 ^ (7 - (j : Int) % 8).toNat : Nat) : Int) := by simp
  have h2 : b.toNat / 2 ^ (7 - (j : Int) % 8).toNat < 256 := Nat.lt_of_le_of_lt (Nat.div_le_self _ _) h1
  have h3 := bitAt_le s j
  rw [e1, u8_bit _ h2, bit_of_byte hb]
  have e2 : IntKind.u64.wrap ((bitAt s j : Nat) : Int) = ((bitAt s j : Nat) : Int) := by rw [IntKind.wrap_u64]; omega
  have e3 : IntKind.u64.wrap ((n : Int) * 2 ^ Int.toNat 1) = ((n * 2 : Nat) : Int) := by
    rw [IntKind.wrap_u64]; simp only [Int.toNat_one, Int.pow_one]; omega
  rw [e2, e3, u64_or_nat _ _ (by omega) (by omega), or_even _ _ h3]
theorem rd_i64 {s : ByteArray} {b : UInt8} (n j : Nat) (hn : n < 4611686018427387904) (hb : s[((j : Int) / 8).toNat]? = some b) :
    bits .or .i64 (IntKind.i64.wrap ((n : Int) * 2 ^ Int.toNat 1)) (bits .and .i64 (IntKind.i64.wrap (b.toNat : Int) / 2 ^ (7 - (j : Int) % 8).toNat) 1) = ((2 * n + bitAt s j : Nat) : Int) := by
  have h1 := byte_lt b
  have e0 : IntKind.i64.wrap (b.toNat : Int) = (b.toNat : Int) := by rw [IntKind.wrap_i64]; omega
  have e1 : ((b.toNat : Int) / 2 ^ (7 - (j : Int) % 8).toNat) = ((b.toNat / 2 ^ (7 - (j : Int) % 8).toNat : Nat) : Int) := by simp
  have h2 : b.toNat / 2 ^ (7 - (j : Int) % 8).toNat < 256 := Nat.lt_of_le_of_lt (Nat.div_le_self _ _) h1
  have h3 := bitAt_le s j
  rw [e0, e1, i64_bit _ (by omega), bit_of_byte hb]
  have e3 : IntKind.i64.wrap ((n : Int) * 2 ^ Int.toNat 1) = ((n * 2 : Nat) : Int) := by
    rw [IntKind.wrap_i64]; simp only [Int.toNat_one, Int.pow_one]; omega
  rw [e3, i64_or _ _ (by omega) (by omega), or_even _ _ h3]
theorem bit_i {s : ByteArray} {b : UInt8} (j : Nat) (hb : s[((j : Int) / 8).toNat]? = some b) :
    bits .and .i64 (IntKind.i64.wrap (b.toNat : Int) / 2 ^ (7 - (j : Int) % 8).toNat) 1 = ((bitAt s j : Nat) : Int) := by
  have h1 := byte_lt b
  have e0 : IntKind.i64.wrap (b.toNat : Int) = (b.toNat : Int) := by rw [IntKind.wrap_i64]; omega
  have e1 : ((b.toNat : Int) / 2 ^ (7 - (j : Int) % 8).toNat) = ((b.toNat / 2 ^ (7 - (j : Int) % 8).toNat : Nat) : Int) := by simp
  have h2 : b.toNat / 2 ^ (7 - (j : Int) % 8).toNat < 256 := Nat.lt_of_le_of_lt (Nat.div_le_self _ _) h1
  rw [e0, e1, i64_bit _ (by omega), bit_of_byte hb]
end Go.Proofs.Ytfobgjhjigkigaa.Bm
