/- Plain arithmetic of bit strings (no program in sight). -/
import Derived.Laws.BitsAllLaws
import Derived.IntWalk
namespace Go.Proofs.Ytfobgjhjigkigaa
namespace Bm

/-- The j-th byte of a list of bits (0 or 1), the highest bit first. -/
def byteAt (bs : List Nat) (j : Nat) : Nat :=
  bs.getD (8 * j) 0 * 128 + bs.getD (8 * j + 1) 0 * 64 + bs.getD (8 * j + 2) 0 * 32 + bs.getD (8 * j + 3) 0 * 16 + bs.getD (8 * j + 4) 0 * 8 + bs.getD (8 * j + 5) 0 * 4 + bs.getD (8 * j + 6) 0 * 2 + bs.getD (8 * j + 7) 0
def pack (bs : List Nat) : List Nat := (List.range ((bs.length + 7) / 8)).map (byteAt bs)
def Bits (bs : List Nat) : Prop := ∀ b ∈ bs, b ≤ 1

theorem getD_old {bs : List Nat} {b i : Nat} (h : i < bs.length) : (bs ++ [b]).getD i 0 = bs.getD i 0 := by
  simp [List.getD, List.getElem?_append_left h]
theorem getD_new {bs : List Nat} {b i : Nat} (h : i = bs.length) : (bs ++ [b]).getD i 0 = b := by
  subst h; simp [List.getD]
theorem getD_out {bs : List Nat} {i : Nat} (h : bs.length ≤ i) : bs.getD i 0 = 0 := by
  simp [List.getD, List.getElem?_eq_none h]
theorem getD_le {bs : List Nat} (hb : Bits bs) (i : Nat) : bs.getD i 0 ≤ 1 := by
  rcases Nat.lt_or_ge i bs.length with h | h
  · have : bs.getD i 0 = bs[i] := by simp [List.getD, h]
    rw [this]; exact hb _ (List.getElem_mem h)
  · rw [getD_out h]; omega
theorem byteAt_lt {bs : List Nat} (hb : Bits bs) (j : Nat) : byteAt bs j < 256 := by
  have h0 := getD_le hb (8 * j); have h1 := getD_le hb (8 * j + 1); have h2 := getD_le hb (8 * j + 2); have h3 := getD_le hb (8 * j + 3)
  have h4 := getD_le hb (8 * j + 4); have h5 := getD_le hb (8 * j + 5); have h6 := getD_le hb (8 * j + 6); have h7 := getD_le hb (8 * j + 7)
  unfold byteAt; omega
theorem byteAt_old {bs : List Nat} {b j : Nat} (h : 8 * j + 7 < bs.length) : byteAt (bs ++ [b]) j = byteAt bs j := by
  unfold byteAt
  rw [getD_old (by omega), getD_old (by omega), getD_old (by omega), getD_old (by omega), getD_old (by omega), getD_old (by omega), getD_old (by omega), getD_old (by omega)]
theorem getD_out1 {bs : List Nat} {b i : Nat} (h : bs.length < i) : (bs ++ [b]).getD i 0 = 0 := getD_out (by simp; omega)

/-- The byte to which a bit is added. -/
theorem byteAt_new {bs : List Nat} (_hb : Bits bs) {b : Nat} (h1 : b ≤ 1) :
    byteAt (bs ++ [b]) (bs.length / 8) = byteAt bs (bs.length / 8) ||| (b * 2 ^ (7 - bs.length % 8)) := by
  obtain ⟨q, r, hr, hL⟩ : ∃ q r, r < 8 ∧ bs.length = 8 * q + r := ⟨bs.length / 8, bs.length % 8, by omega, by omega⟩
  have e1 : bs.length / 8 = q := by omega
  have e2 : bs.length % 8 = r := by omega
  rw [e1, e2]
  have key : byteAt (bs ++ [b]) q = byteAt bs q + b * 2 ^ (7 - r) ∧ byteAt bs q % 2 ^ (8 - r) = 0 := by
    unfold byteAt
    have o : ∀ i, i < r → (bs ++ [b]).getD (8 * q + i) 0 = bs.getD (8 * q + i) 0 := fun i hi => getD_old (by omega)
    have nw : (bs ++ [b]).getD (8 * q + r) 0 = b := getD_new (by omega)
    have z : ∀ i, r < i → (bs ++ [b]).getD (8 * q + i) 0 = 0 := fun i hi => getD_out1 (by omega)
    have z' : ∀ i, r ≤ i → bs.getD (8 * q + i) 0 = 0 := fun i hi => getD_out (by omega)
    rcases (by omega : r = 0 ∨ r = 1 ∨ r = 2 ∨ r = 3 ∨ r = 4 ∨ r = 5 ∨ r = 6 ∨ r = 7) with rfl | rfl | rfl | rfl | rfl | rfl | rfl | rfl
    · have nw' : (bs ++ [b]).getD (8 * q) 0 = b := nw
      have y' : bs.getD (8 * q) 0 = 0 := z' 0 (by omega)
      rw [nw', y', z 1 (by omega), z 2 (by omega), z 3 (by omega), z 4 (by omega), z 5 (by omega), z 6 (by omega), z 7 (by omega), z' 1 (by omega), z' 2 (by omega), z' 3 (by omega), z' 4 (by omega), z' 5 (by omega), z' 6 (by omega), z' 7 (by omega)]
      omega
    all_goals have o0 : (bs ++ [b]).getD (8 * q) 0 = bs.getD (8 * q) 0 := o 0 (by omega)
    · rw [o0, nw, z 2 (by omega), z 3 (by omega), z 4 (by omega), z 5 (by omega), z 6 (by omega), z 7 (by omega), z' 1 (by omega), z' 2 (by omega), z' 3 (by omega), z' 4 (by omega), z' 5 (by omega), z' 6 (by omega), z' 7 (by omega)]
      omega
    · rw [o0, o 1 (by omega), nw, z 3 (by omega), z 4 (by omega), z 5 (by omega), z 6 (by omega), z 7 (by omega), z' 2 (by omega), z' 3 (by omega), z' 4 (by omega), z' 5 (by omega), z' 6 (by omega), z' 7 (by omega)]
      omega
    · rw [o0, o 1 (by omega), o 2 (by omega), nw, z 4 (by omega), z 5 (by omega), z 6 (by omega), z 7 (by omega), z' 3 (by omega), z' 4 (by omega), z' 5 (by omega), z' 6 (by omega), z' 7 (by omega)]
      omega
    · rw [o0, o 1 (by omega), o 2 (by omega), o 3 (by omega), nw, z 5 (by omega), z 6 (by omega), z 7 (by omega), z' 4 (by omega), z' 5 (by omega), z' 6 (by omega), z' 7 (by omega)]
      omega
    · rw [o0, o 1 (by omega), o 2 (by omega), o 3 (by omega), o 4 (by omega), nw, z 6 (by omega), z 7 (by omega), z' 5 (by omega), z' 6 (by omega), z' 7 (by omega)]
      omega
    · rw [o0, o 1 (by omega), o 2 (by omega), o 3 (by omega), o 4 (by omega), o 5 (by omega), nw, z 7 (by omega), z' 6 (by omega), z' 7 (by omega)]
      omega
    · rw [o0, o 1 (by omega), o 2 (by omega), o 3 (by omega), o 4 (by omega), o 5 (by omega), o 6 (by omega), nw, z' 7 (by omega)]
      omega
  rw [key.1]
  have hlt : b * 2 ^ (7 - r) < 2 ^ (8 - r) := by
    have : 2 ^ (8 - r) = 2 * 2 ^ (7 - r) := by rw [show 8 - r = (7 - r) + 1 by omega, Nat.pow_succ, Nat.mul_comm]
    have h2 : b * 2 ^ (7 - r) ≤ 1 * 2 ^ (7 - r) := Nat.mul_le_mul_right _ h1
    have h3 : 0 < 2 ^ (7 - r) := Nat.pow_pos (by omega)
    omega
  rw [nat_join _ _ _ key.2 hlt]

theorem length_pack (bs : List Nat) : (pack bs).length = (bs.length + 7) / 8 := by simp [pack]
theorem getElem?_pack (bs : List Nat) (j : Nat) : (pack bs)[j]? = if j < (bs.length + 7) / 8 then some (byteAt bs j) else none := by
  unfold pack
  by_cases h : j < (bs.length + 7) / 8
  · rw [if_pos h]; simp [h]
  · rw [if_neg h]; simp [h]

/-- The byte arrays' step: a zero byte is appended at each eighth bit, then the bit is set. -/
theorem pack_snoc {bs : List Nat} (hb : Bits bs) {b : Nat} (h1 : b ≤ 1) :
    ((if bs.length % 8 = 0 then pack bs ++ [0] else pack bs).set (bs.length / 8) (((if bs.length % 8 = 0 then pack bs ++ [0] else pack bs).getD (bs.length / 8) 0) ||| (b * 2 ^ (7 - bs.length % 8)))) = pack (bs ++ [b]) := by
  have hbn := byteAt_new hb h1
  apply List.ext_getElem?
  intro j
  rw [List.getElem?_set]
  have hl := length_pack bs
  by_cases h8 : bs.length % 8 = 0
  · simp only [if_pos h8]
    have hz : byteAt bs (bs.length / 8) = 0 := by
      unfold byteAt
      rw [getD_out (by omega), getD_out (by omega), getD_out (by omega), getD_out (by omega), getD_out (by omega), getD_out (by omega), getD_out (by omega), getD_out (by omega)]
    have hg : (pack bs ++ [0]).getD (bs.length / 8) 0 = byteAt bs (bs.length / 8) := by
      rw [hz, List.getD, List.getElem?_append_right (by omega), show bs.length / 8 - (pack bs).length = 0 by omega]; rfl
    rw [hg, getElem?_pack]
    by_cases hj : bs.length / 8 = j
    · subst hj
      rw [if_pos rfl, if_pos (by simp; omega), if_pos (by simp; omega), hbn]
    · rw [if_neg hj]
      by_cases hlt : j < bs.length / 8
      · rw [List.getElem?_append_left (by omega), getElem?_pack, if_pos (by omega), if_pos (by simp; omega), byteAt_old (by omega)]
      · rw [if_neg (by simp; omega), List.getElem?_eq_none (by simp; omega)]
  · simp only [if_neg h8]
    have hg : (pack bs).getD (bs.length / 8) 0 = byteAt bs (bs.length / 8) := by
      rw [List.getD, getElem?_pack, if_pos (by omega)]; rfl
    rw [hg, getElem?_pack, getElem?_pack]
    by_cases hj : bs.length / 8 = j
    · subst hj
      rw [if_pos rfl, if_pos (by omega), if_pos (by simp; omega), hbn]
    · rw [if_neg hj]
      by_cases hlt : j < bs.length / 8
      · rw [if_pos (by omega), if_pos (by simp; omega), byteAt_old (by omega)]
      · rw [if_neg (by omega), if_neg (by simp; omega)]

/-- The bits of a number, the highest one first. -/
def bitsOf (width n : Nat) : List Nat := (List.range width).map fun i => n / 2 ^ (width - 1 - i) % 2
theorem length_bitsOf (width n : Nat) : (bitsOf width n).length = width := by simp [bitsOf]
theorem bits_bitsOf (width n : Nat) : Bits (bitsOf width n) := by
  intro b hb
  simp only [bitsOf, List.mem_map] at hb
  obtain ⟨i, _, rfl⟩ := hb
  omega
theorem bits_append {a b : List Nat} (ha : Bits a) (hb : Bits b) : Bits (a ++ b) := fun x hx => (List.mem_append.1 hx).elim (ha x) (hb x)
theorem bits_take {a : List Nat} (ha : Bits a) (k : Nat) : Bits (a.take k) := fun x hx => ha x (List.mem_of_mem_take hx)
theorem take_bitsOf {width n k : Nat} (h : k < width) : (bitsOf width n).take (k + 1) = (bitsOf width n).take k ++ [n / 2 ^ (width - 1 - k) % 2] := by
  rw [List.take_succ_eq_append_getElem (by rw [length_bitsOf]; exact h)]
  simp [bitsOf]

/-- The bit that is set into a byte, as Go computes it. -/
theorem bit_val (v j L old : Nat) (hv : v < 18446744073709551616) (hold : old < 256) (i : Int) (hi : i = j) :
    bits .or .u8 (old : Int) (IntKind.u8.wrap (IntKind.u8.wrap (bits .and .u64 ((v : Int) / 2 ^ i.toNat) 1) * 2 ^ (7 - (L : Int) % 8).toNat)) = ((old ||| (v / 2 ^ j % 2 * 2 ^ (7 - L % 8)) : Nat) : Int) := by
  subst hi
  have e1 : ((v : Int) / 2 ^ (j : Int).toNat) = ((v / 2 ^ j : Nat) : Int) := by simp
  have h1 : v / 2 ^ j < 18446744073709551616 := Nat.lt_of_le_of_lt (Nat.div_le_self _ _) hv
  rw [e1, show (1 : Int) = ((1 : Nat) : Int) from rfl, u64_and_nat _ _ h1 (by omega), nat_mask1]
  have e2 : (7 - (L : Int) % 8).toNat = 7 - L % 8 := by omega
  rw [e2]
  have hb : v / 2 ^ j % 2 ≤ 1 := by omega
  have e3 : IntKind.u8.wrap ((v / 2 ^ j % 2 : Nat) : Int) = ((v / 2 ^ j % 2 : Nat) : Int) := by rw [IntKind.wrap_u8']; omega
  rw [e3]
  have h3 : v / 2 ^ j % 2 * 2 ^ (7 - L % 8) < 256 := by
    have hp : 2 ^ (7 - L % 8) ≤ 2 ^ 7 := Nat.pow_le_pow_right (by omega) (by omega)
    have h4 : v / 2 ^ j % 2 * 2 ^ (7 - L % 8) ≤ 1 * 2 ^ (7 - L % 8) := Nat.mul_le_mul_right _ hb
    omega
  have e4 : ((v / 2 ^ j % 2 : Nat) : Int) * 2 ^ (7 - L % 8) = ((v / 2 ^ j % 2 * 2 ^ (7 - L % 8) : Nat) : Int) := by rw [Int.natCast_mul, Int.natCast_pow]; rfl
  rw [e4]
  have e5 : IntKind.u8.wrap ((v / 2 ^ j % 2 * 2 ^ (7 - L % 8) : Nat) : Int) = ((v / 2 ^ j % 2 * 2 ^ (7 - L % 8) : Nat) : Int) := by rw [IntKind.wrap_u8']; omega
  rw [e5, u8_or_nat _ _ hold h3]

/-- The number of bits of a number. -/
def blen (n : Nat) : Nat := if n = 0 then 0 else Nat.log2 n + 1
theorem blen_le (n w : Nat) (h : n < 2 ^ w) : blen n ≤ w := by
  unfold blen
  by_cases h0 : n = 0
  · rw [if_pos h0]; omega
  · rw [if_neg h0]
    have := (Nat.log2_lt h0).2 h
    omega
theorem blen_shift (n k : Nat) (h : 2 ^ k ≤ n) : blen n = blen (n / 2 ^ k) + k := by
  have hp : 0 < 2 ^ k := Nat.pow_pos (by omega)
  have h1 : n / 2 ^ k ≠ 0 := by
    have := Nat.div_pos h hp
    omega
  have h0 : n ≠ 0 := by omega
  unfold blen
  rw [if_neg h0, if_neg h1]
  have e : Nat.log2 n = Nat.log2 (n / 2 ^ k) + k := by
    apply (Nat.log2_eq_iff h0).2
    have hh := (Nat.log2_eq_iff h1 (k := Nat.log2 (n / 2 ^ k))).1 rfl
    obtain ⟨a, b⟩ := hh
    refine ⟨?_, ?_⟩
    · rw [Nat.pow_add]; exact (Nat.le_div_iff_mul_le hp).1 a
    · rw [show Nat.log2 (n / 2 ^ k) + k + 1 = (Nat.log2 (n / 2 ^ k) + 1) + k by omega, Nat.pow_add]; exact (Nat.div_lt_iff_lt_mul hp).1 b
  omega

theorem len_leaf {x s D : Nat} {Y r S : Int} (hD : 2 ^ s = D) (hY : Y = ((x / D : Nat) : Int)) (hlt : x / D < 256) (hge : s = 0 ∨ D ≤ x) (hS : S = s)
    (hr : r = S + IntKind.i64.wrap ((blen (IntKind.u8.wrap Y).toNat : Nat) : Int) ∨ S + IntKind.i64.wrap ((blen (IntKind.u8.wrap Y).toNat : Nat) : Int) < -9223372036854775808 ∨ 9223372036854775807 < S + IntKind.i64.wrap ((blen (IntKind.u8.wrap Y).toNat : Nat) : Int)) (hs : s ≤ 64) : r = ((blen x : Nat) : Int) := by
  have e1 : (IntKind.u8.wrap Y).toNat = x / D := by
    rw [IntKind.wrap_u8', hY]
    generalize x / D = y at *
    omega
  rw [e1] at hr
  have h8 := blen_le (x / D) 8 (by omega)
  have e2 : IntKind.i64.wrap ((blen (x / D) : Nat) : Int) = ((blen (x / D) : Nat) : Int) := by rw [IntKind.wrap_i64]; omega
  rw [e2] at hr
  have e3 : blen x = blen (x / D) + s := by
    rcases hge with h | h
    · subst h; simp at hD; subst hD; simp
    · rw [← hD] at h ⊢; exact blen_shift x s h
  omega

theorem i64_bit (a : Nat) (ha : a < 9223372036854775808) : bits .and .i64 (a : Int) 1 = ((a % 2 : Nat) : Int) := by
  have hx : a &&& 1 < 2 ^ 63 := Nat.and_lt_two_pow _ (by omega)
  have e1 : (BitVec.ofInt 64 (a : Int)).toNat = a := by rw [BitVec.ofInt_natCast, BitVec.toNat_ofNat]; exact Nat.mod_eq_of_lt (by omega)
  show IntKind.i64.wrap ((BitVec.ofInt 64 (a : Int) &&& BitVec.ofInt 64 (1 : Int)).toNat : Int) = _
  rw [BitVec.toNat_and, e1, show (BitVec.ofInt 64 (1 : Int)).toNat = 1 from rfl, IntKind.wrap_i64, nat_mask1]
  omega
theorem bit_i64 (v j : Nat) (hv : v < 9223372036854775808) (i : Int) (hi : i = j) : IntKind.u8.wrap (bits .and .i64 ((v : Int) / 2 ^ i.toNat) 1) = ((v / 2 ^ j % 2 : Nat) : Int) := by
  subst hi
  have e1 : ((v : Int) / 2 ^ (j : Int).toNat) = ((v / 2 ^ j : Nat) : Int) := by simp
  rw [e1, i64_bit _ (Nat.lt_of_le_of_lt (Nat.div_le_self _ _) hv), IntKind.wrap_u8']
  omega

/-- The first bytes of a list of bits, whether there are that many bits or not. -/
def packN (N : Nat) (bs : List Nat) : List Nat := (List.range N).map (byteAt bs)
theorem length_packN (N : Nat) (bs : List Nat) : (packN N bs).length = N := by simp [packN]
theorem packN_nil (N : Nat) : packN N [] = List.replicate N 0 := by
  unfold packN
  rw [List.eq_replicate_iff]
  refine ⟨by simp, fun b hb => ?_⟩
  obtain ⟨j, _, rfl⟩ := List.mem_map.1 hb
  simp [byteAt]
theorem pack_eq (bs : List Nat) : packN ((bs.length + 7) / 8) bs = pack bs := rfl
theorem packN_getD {N : Nat} (bs : List Nat) {j : Nat} (h : j < N) : (packN N bs).getD j 0 = byteAt bs j := by
  simp [packN, List.getD, h]
theorem packN_snoc {N : Nat} {bs : List Nat} (hb : Bits bs) {b : Nat} (h1 : b ≤ 1) :
    (packN N bs).set (bs.length / 8) (byteAt bs (bs.length / 8) ||| (b * 2 ^ (7 - bs.length % 8))) = packN N (bs ++ [b]) := by
  have hbn := byteAt_new hb h1
  apply List.ext_getElem?
  intro j
  rw [List.getElem?_set]
  by_cases hj : bs.length / 8 = j
  · subst hj
    rw [if_pos rfl]
    by_cases hN : bs.length / 8 < N
    · rw [if_pos (by rw [length_packN]; exact hN)]; simp [packN, hN, hbn]
    · rw [if_neg (by rw [length_packN]; exact hN), List.getElem?_eq_none (by rw [length_packN]; omega)]
  · rw [if_neg hj]
    by_cases hN : j < N
    · simp only [packN, List.getElem?_map, List.getElem?_range hN, Option.map_some]
      congr 1
      by_cases hlt : j < bs.length / 8
      · rw [byteAt_old (by omega)]
      · unfold byteAt
        rw [getD_out (by omega), getD_out (by omega), getD_out (by omega), getD_out (by omega), getD_out (by omega), getD_out (by omega), getD_out (by omega), getD_out (by omega),
          getD_out1 (by omega), getD_out1 (by omega), getD_out1 (by omega), getD_out1 (by omega), getD_out1 (by omega), getD_out1 (by omega), getD_out1 (by omega), getD_out1 (by omega)]
    · rw [List.getElem?_eq_none (by rw [length_packN]; omega), List.getElem?_eq_none (by rw [length_packN]; omega)]
theorem bit_old (b i old : Nat) (hb : b ≤ 1) (hold : old < 256) :
    bits .or .u8 (old : Int) (IntKind.u8.wrap ((b : Int) * 2 ^ (7 - (i : Int) % 8).toNat)) = ((old ||| (b * 2 ^ (7 - i % 8)) : Nat) : Int) := by
  have e2 : (7 - (i : Int) % 8).toNat = 7 - i % 8 := by omega
  rw [e2]
  have h3 : b * 2 ^ (7 - i % 8) < 256 := by
    have hp : 2 ^ (7 - i % 8) ≤ 2 ^ 7 := Nat.pow_le_pow_right (by omega) (by omega)
    have h4 : b * 2 ^ (7 - i % 8) ≤ 1 * 2 ^ (7 - i % 8) := Nat.mul_le_mul_right _ hb
    omega
  have e4 : (b : Int) * 2 ^ (7 - i % 8) = ((b * 2 ^ (7 - i % 8) : Nat) : Int) := by rw [Int.natCast_mul, Int.natCast_pow]; rfl
  rw [e4]
  have e5 : IntKind.u8.wrap ((b * 2 ^ (7 - i % 8) : Nat) : Int) = ((b * 2 ^ (7 - i % 8) : Nat) : Int) := by rw [IntKind.wrap_u8']; omega
  rw [e5, u8_or_nat _ _ hold h3]
end Bm
end Go.Proofs.Ytfobgjhjigkigaa
