/- Plain law: a bitmap and the numbers of its bits. -/
import Derived.Test.YtfobgjhjigkigaaDn
namespace Go.Proofs.Ytfobgjhjigkigaa
open Go.Eng

/-- The bits of bm below c are the numbers ks. -/
structure BitsAre (bm c : Nat) (ks : List Nat) : Prop where
  nd : ks.Nodup
  lt : ∀ j ∈ ks, j < c
  iff : ∀ j, bm / 2 ^ j % 2 = 1 ↔ j ∈ ks

theorem mem_missL (bm : Nat) : ∀ (c j : Nat), j ∈ missL bm c ↔ j < c ∧ bm / 2 ^ j % 2 = 0
  | 0, j => by simp [missL]
  | c + 1, j => by
    rw [missL]
    by_cases h : bm / 2 ^ c % 2 = 0
    · rw [if_pos h, List.mem_append, mem_missL bm c j, List.mem_singleton]
      constructor
      · rintro (⟨h1, h2⟩ | rfl)
        · exact ⟨by omega, h2⟩
        · exact ⟨by omega, h⟩
      · rintro ⟨h1, h2⟩
        by_cases hj : j = c
        · exact .inr hj
        · exact .inl ⟨by omega, h2⟩
    · rw [if_neg h, mem_missL bm c j]
      constructor
      · rintro ⟨h1, h2⟩; exact ⟨by omega, h2⟩
      · rintro ⟨h1, h2⟩
        have hj : j ≠ c := fun e => h (e ▸ h2)
        exact ⟨by omega, h2⟩
theorem filter_lt_succ (c : Nat) : ∀ {ks : List Nat}, ks.Nodup → (ks.filter (· < c + 1)).length = (ks.filter (· < c)).length + (if c ∈ ks then 1 else 0)
  | [], _ => by simp
  | k :: ks, h => by
    obtain ⟨h1, h2⟩ := List.nodup_cons.1 h
    have ih := filter_lt_succ c h2
    by_cases hk : k = c
    · subst hk
      rw [if_neg h1] at ih
      simp [List.filter_cons] at ih ⊢
      exact ih
    · by_cases hlt : k < c
      · rw [List.filter_cons_of_pos (by simp; omega), List.filter_cons_of_pos (by simp; omega), List.length_cons, List.length_cons, ih]
        by_cases hc : c ∈ ks
        · rw [if_pos hc, if_pos (by simp [hc])]
        · rw [if_neg hc, if_neg (by simp [hc]; omega)]
      · rw [List.filter_cons_of_neg (by simp; omega), List.filter_cons_of_neg (by simp; omega), ih]
        by_cases hc : c ∈ ks
        · rw [if_pos hc, if_pos (by simp [hc])]
        · rw [if_neg hc, if_neg (by simp [hc]; omega)]
theorem missL_count {bm : Nat} {ks : List Nat} (hnd : ks.Nodup) (hi : ∀ j, bm / 2 ^ j % 2 = 1 ↔ j ∈ ks) : ∀ c, (missL bm c).length + (ks.filter (· < c)).length = c
  | 0 => by simp [missL]
  | c + 1 => by
    have ih := missL_count hnd hi c
    rw [missL, filter_lt_succ c hnd]
    by_cases h : bm / 2 ^ c % 2 = 0
    · rw [if_pos h, if_neg (fun hm => by have := (hi c).2 hm; omega), List.length_append, List.length_singleton]; omega
    · rw [if_neg h, if_pos ((hi c).1 (by omega))]; omega
theorem BitsAre.miss {bm c : Nat} {ks : List Nat} (h : BitsAre bm c ks) : (missL bm c).length + ks.length = c := by
  have h1 := missL_count h.nd h.iff c
  rw [List.filter_eq_self.2 (fun j hj => by simpa using h.lt j hj)] at h1
  exact h1
theorem BitsAre.le {bm c : Nat} {ks : List Nat} (h : BitsAre bm c ks) : ks.length ≤ c := by have := h.miss; omega
theorem or_bit (bm k j : Nat) : (bm ||| 2 ^ k) / 2 ^ j % 2 = 1 ↔ bm / 2 ^ j % 2 = 1 ∨ j = k := by
  have h1 := Nat.testBit_or bm (2 ^ k) j
  rw [Nat.testBit_eq_decide_div_mod_eq, Nat.testBit_eq_decide_div_mod_eq, Nat.testBit_two_pow] at h1
  constructor
  · intro h
    rw [decide_eq_true h] at h1
    simp at h1
    rcases h1 with h2 | h2
    · exact .inl h2
    · exact .inr h2.symm
  · intro h
    have : (decide (bm / 2 ^ j % 2 = 1) || decide (k = j)) = true := by
      rcases h with h | h
      · simp [h]
      · simp [h]
    rw [this] at h1
    exact of_decide_eq_true h1
theorem BitsAre.old {bm c k : Nat} {ks : List Nat} (h : BitsAre bm c ks) (hk : k ∈ ks) : BitsAre (bm ||| 2 ^ k) c ks :=
  ⟨h.nd, h.lt, fun j => by rw [or_bit, h.iff]; exact ⟨fun h => h.elim id (fun e => e ▸ hk), .inl⟩⟩
theorem BitsAre.new {bm c k : Nat} {ks : List Nat} (h : BitsAre bm c ks) (hk : k ∉ ks) (hc : k < c) : BitsAre (bm ||| 2 ^ k) c (ks ++ [k]) := by
  refine ⟨?_, fun j hj => ?_, fun j => ?_⟩
  · rw [List.nodup_append]; exact ⟨h.nd, by simp, fun a ha b hb => by simp at hb; subst hb; exact fun e => hk (e ▸ ha)⟩
  · rcases List.mem_append.1 hj with h1 | h1
    · exact h.lt j h1
    · simp at h1; omega
  · rw [or_bit, h.iff, List.mem_append, List.mem_singleton]
theorem BitsAre.all {bm c : Nat} {ks : List Nat} (h : BitsAre bm c ks) : bm = 2 ^ c - 1 ↔ ks.length = c := by
  have hm := h.miss
  constructor
  · rintro rfl
    have h0 : missL (2 ^ c - 1) c = [] := by
      rw [List.eq_nil_iff_forall_not_mem]
      intro j hj
      obtain ⟨h1, h2⟩ := (mem_missL _ c j).1 hj
      have h3 := Nat.testBit_two_pow_sub_one c j
      rw [Nat.testBit_eq_decide_div_mod_eq, decide_eq_true h1] at h3
      have := of_decide_eq_true h3
      omega
    rw [h0] at hm
    simpa using hm
  · intro hl
    have h0 : missL bm c = [] := List.eq_nil_of_length_eq_zero (by omega)
    apply Nat.eq_of_testBit_eq
    intro j
    rw [Nat.testBit_two_pow_sub_one, Nat.testBit_eq_decide_div_mod_eq]
    by_cases hj : j < c
    · have h1 : j ∉ missL bm c := by rw [h0]; simp
      have h2 : ¬ bm / 2 ^ j % 2 = 0 := fun e => h1 ((mem_missL bm c j).2 ⟨hj, e⟩)
      rw [decide_eq_true hj, decide_eq_true (by omega)]
    · rw [decide_eq_false hj, decide_eq_false (fun e => hj (h.lt j ((h.iff j).1 e)))]
theorem bits_none (c : Nat) : BitsAre 0 c [] := ⟨by simp, by simp, fun j => by simp⟩

theorem Fm.part_is {tag k cnt size m n : Int} (ht : 0 ≤ tag ∧ tag ≤ 255) (hs : 1 ≤ size ∧ size ≤ 4095) (hm : 1 ≤ m ∧ m ≤ 120) (hc : 1 ≤ cnt ∧ cnt ≤ 32) (h1 : (cnt - 1) * m < size) (h2 : size ≤ cnt * m) (hk : 0 ≤ k ∧ k < cnt)
    (hn : (k = cnt - 1 ∧ n = size - (cnt - 1) * m) ∨ (k < cnt - 1 ∧ n = m)) : Fm.part tag k cnt size n = if cnt = 1 then size else m := by
  have e0 : cnt * m = (cnt - 1) * m + m := by rw [Int.sub_mul]; omega
  have hn1 : 1 ≤ n := by rcases hn with ⟨_, h⟩ | ⟨_, h⟩ <;> omega
  unfold Fm.part
  rw [if_neg (by omega), if_neg (by omega), if_neg (by omega), if_neg (by omega), if_neg (by omega), if_neg (by omega), if_neg (by omega), if_neg (by omega), if_neg (by omega)]
  by_cases hc1 : cnt = 1
  · subst hc1
    rw [if_pos rfl, if_pos rfl, if_pos (by rcases hn with ⟨_, h⟩ | ⟨_, h⟩ <;> omega), if_neg (by rcases hn with ⟨_, h⟩ | ⟨_, h⟩ <;> omega)]
    rcases hn with ⟨_, h⟩ | ⟨_, h⟩ <;> omega
  rw [if_neg hc1, if_neg hc1]
  rcases hn with ⟨hk1, rfl⟩ | ⟨hk1, rfl⟩
  · have e1 : size - (size - (cnt - 1) * m) = (cnt - 1) * m := by omega
    have hpos : 0 < (cnt - 1) * m := Int.mul_pos (by omega) (by omega)
    rw [if_pos hk1, if_neg (by omega), e1, if_pos (Int.mul_emod_right _ _), Int.mul_ediv_cancel_left m (by omega), if_neg (by omega), if_neg (by omega), if_neg (by omega), if_neg (by omega)]
  · rw [if_neg (by omega), if_neg (by omega), if_neg (by omega), if_neg (by omega)]

theorem BitsAre.lt_pow {bm c : Nat} {ks : List Nat} (h : BitsAre bm c ks) : bm < 2 ^ c := by
  apply Nat.lt_pow_two_of_testBit
  intro j hj
  rw [Nat.testBit_eq_decide_div_mod_eq]
  exact decide_eq_false fun e => by have := h.lt j ((h.iff j).1 e); omega
theorem miss_of_bits {bm c : Nat} {ks : List Nat} (h : BitsAre bm c ks) (h1 : 1 ≤ c) (h2 : c ≤ 32) : missErr c bm = 0 ∧ missOf c bm = missL bm c := by
  have hlt := h.lt_pow
  have e : missErr c bm = 0 := by
    unfold missErr
    rw [if_neg (by omega), if_neg (by omega), if_neg (by omega), if_pos]
    rw [Int.toNat_natCast]
    have : ((bm : Int) / 2 ^ c) = ((bm / 2 ^ c : Nat) : Int) := by simp
    rw [this, Nat.div_eq_of_lt hlt]; rfl
  exact ⟨e, by unfold missOf; rw [if_pos e, Int.toNat_natCast, Int.toNat_natCast]⟩

/-- The part length of every fragment of a datagram. -/
def ptOf (tag : Int) (size : Nat) (most : Int) : Int := if splitCnt tag size most = 1 then size else most
theorem frag_part {tag most : Int} {data : ByteArray} (h : splitErr tag data.size most = 0) {k : Nat} (hk : k < splitCnt tag data.size most) :
    Fm.part tag k (splitCnt tag data.size most) data.size (piece data most.toNat k).size = ptOf tag data.size most := by
  obtain ⟨ht, hm, hs, hs2, hc⟩ := splitErr_cnt h
  obtain ⟨h1, h2, h3⟩ := cnt_bounds (size := data.size) (m := most) (by omega) (by omega)
  have hcnt : (splitCnt tag data.size most : Int) = (data.size + most - 1) / most := by unfold splitCnt; rw [if_pos h]; omega
  rw [← hcnt] at h1 h2 h3 hc
  unfold ptOf
  obtain ⟨c, hc'⟩ : ∃ c : Nat, splitCnt tag data.size most = c := ⟨_, rfl⟩
  rw [hc'] at h1 h2 h3 hc hk ⊢
  obtain ⟨m, rfl⟩ : ∃ m : Nat, most = m := ⟨most.toNat, by omega⟩
  rw [Int.toNat_natCast, size_piece]
  have e1 : ((k : Int) + 1) * m ≤ (c : Int) * m := Int.mul_le_mul_of_nonneg_right (by omega) (by omega)
  have e2 : (k + 1) * m = k * m + m := by rw [Nat.add_mul]; omega
  have e3 : (c : Int) * m = ((c : Int) - 1) * m + m := by rw [Int.sub_mul]; omega
  have e4 : (k : Int) * m ≤ ((c : Int) - 1) * m := Int.mul_le_mul_of_nonneg_right (by omega) (by omega)
  have e5 : ((k * m : Nat) : Int) = (k : Int) * m := Int.natCast_mul _ _
  have hif : (if c = 1 then (data.size : Int) else (m : Int)) = if (c : Int) = 1 then (data.size : Int) else (m : Int) := by
    by_cases h1 : c = 1
    · rw [if_pos h1, if_pos (by omega)]
    · rw [if_neg h1, if_neg (by omega)]
  rw [hif]
  refine Fm.part_is ht (by omega) hm (by omega) h1 h2 (by omega) ?_
  by_cases hl : k + 1 = c
  · left
    have e6 : (k : Int) * m = ((c : Int) - 1) * m := by rw [show (k : Int) = c - 1 by omega]
    refine ⟨by omega, ?_⟩
    omega
  · right
    have e6 : ((k : Int) + 1) * m ≤ ((c : Int) - 1) * m := Int.mul_le_mul_of_nonneg_right (by omega) (by omega)
    have e7 : ((k : Int) + 1) * m = (k : Int) * m + m := by rw [Int.add_mul]; omega
    refine ⟨by omega, ?_⟩
    omega

theorem join_pieces (data : ByteArray) (m : Nat) : ∀ c, (∀ k, k < c → k * m ≤ data.size) → ((List.range c).map fun k => (piece data m k).data.toList).flatten = (data.extract 0 (min (c * m) data.size)).data.toList
  | 0, _ => by simp
  | c + 1, h => by
    have hc := h c (by omega)
    rw [List.range_succ, List.map_append, List.flatten_append, join_pieces data m c (fun k hk => h k (by omega)), ← take_piece data m c hc, Nat.min_eq_left hc]
    simp
end Go.Proofs.Ytfobgjhjigkigaa
