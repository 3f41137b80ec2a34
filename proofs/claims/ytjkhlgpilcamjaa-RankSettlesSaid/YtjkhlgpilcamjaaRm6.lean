/- Ranks of chapter 22, plain: the line's begin, the number of advertisements, and the whole play. -/
import Derived.Test.YtjkhlgpilcamjaaRm5
namespace Go.Rm

theorem step_said {n : Nat} {s : List Rk × List Ad} (h : Inv n s) {x : Ev} (hx : evE n x = 0) : (stepR s x).2.length = s.2.length + (if x.kind = 1 ∧ (stAt s.1 x.node).rank ≠ 65535 then 1 else 0) := by
  unfold evE at hx
  by_cases hk : x.kind < 1 ∨ 5 < x.kind
  · rw [if_pos hk] at hx; omega
  rw [if_neg hk] at hx
  by_cases hb : ¬ (0 ≤ x.node ∧ x.node ≤ (n : Int) - 1) ∨ (x.kind = 2 ∧ (x.which < 0 ∨ ¬ (1 ≤ x.cost ∧ x.cost ≤ 1023)))
  · rw [if_pos hb] at hx; omega
  have hn : 0 ≤ x.node ∧ x.node < n := by omega
  obtain ⟨hc, _⟩ := h.ok x.node hn.1 hn.2
  by_cases hp : x.kind = 1 ∧ (stAt s.1 x.node).rank ≠ 65535
  · rw [if_pos hp]
    unfold stepR
    rw [if_pos hp.1, advert_val hc hp.2]
    simp
  rw [if_neg hp]
  unfold stepR
  by_cases h1 : x.kind = 1
  · have hr : (stAt s.1 x.node).rank = 65535 := Classical.not_not.1 fun e => hp ⟨h1, e⟩
    rw [if_pos h1, if_neg (fun e => by rw [advert_none hc hr] at e; exact absurd e (by decide))]
    rfl
  · rw [if_neg h1]
    by_cases h2 : x.kind = 2
    · rw [if_pos h2]
      by_cases h3 : s.2.length = 0
      · rw [if_pos h3]; rfl
      · rw [if_neg h3]; rfl
    rw [if_neg h2]
    by_cases h5 : x.kind = 5
    · rw [if_pos h5]
      by_cases h6 : (renewR (stAt s.1 x.node)).2 = 0
      · rw [if_pos h6]; rfl
      · rw [if_neg h6]; rfl
    · rw [if_neg h5]; rfl

theorem evE_renew {n : Nat} (hn : 1 ≤ n) : evE n ⟨5, 0, 0, 0⟩ = 0 := by
  unfold evE
  rw [if_neg (by simp only; omega), if_neg (by simp only; omega)]
theorem evE_adv0 {n : Nat} (hn : 1 ≤ n) : evE n ⟨1, 0, 0, 0⟩ = 0 := by
  unfold evE
  rw [if_neg (by simp only; omega), if_neg (by simp only; omega)]
theorem line_start {n : Nat} {k : Int} {s : List Rk × List Ad} (h : Inv n s) (ht : Top n k s) (hn : 1 ≤ n ∧ n ≤ 32) (hk : k ≤ 1000) {W : Nat → Int} (hW : W 0 = 0) :
    Line n ((stAt s.1 0).epoch + 1) W 1 (stepR (stepR s ⟨5, 0, 0, 0⟩) ⟨1, 0, 0, 0⟩) := by
  obtain ⟨st, sd⟩ := s
  obtain ⟨hc, hnode⟩ := h.ok 0 (Int.le_refl 0) (by omega)
  have hlen := h.len
  have hroot := ht.root
  have htop := ht.top
  simp only at hc hnode hlen hroot htop ⊢
  have hok := check_iff.1 hc
  have h1 := hok.rng
  have h2 := hok.right
  have hr : renewR (stAt st 0) = (beginR (stAt st 0) ((stAt st 0).epoch + 1), 0) := by
    unfold renewR
    rw [if_neg (Classical.not_not.2 hc), if_neg (by omega), if_neg (by omega)]
  have hb : beginR (stAt st 0) ((stAt st 0).epoch + 1) = { stAt st 0 with epoch := (stAt st 0).epoch + 1, least := 65535 } := by
    unfold beginR
    rw [if_pos (by omega)]
  obtain ⟨b1, b2, _⟩ := begin_ok hc (ep := (stAt st 0).epoch + 1) (by omega) (.inl (by omega))
  have i1 := step_inv h (evE_renew hn.1)
  have i2 := step_inv i1 (evE_adv0 hn.1)
  have s1 : stepR (st, sd) ⟨5, 0, 0, 0⟩ = (st.set (0 : Int).toNat (beginR (stAt st 0) ((stAt st 0).epoch + 1)), sd) := by
    unfold stepR
    simp only
    rw [if_neg (by decide), if_neg (by decide), if_pos trivial, hr, if_pos rfl]
  rw [s1] at i1 i2 ⊢
  have hst : stAt (st.set (0 : Int).toNat (beginR (stAt st 0) ((stAt st 0).epoch + 1))) 0 = beginR (stAt st 0) ((stAt st 0).epoch + 1) := by
    rw [stAt_set (by omega) (Int.le_refl 0), if_pos rfl]
  rw [hb] at hst b1 b2 i1 i2 ⊢
  have s2 := step_adv (st := st.set (0 : Int).toNat { stAt st 0 with epoch := (stAt st 0).epoch + 1, least := 65535 }) (sd := sd) (i := 0) (by rw [hst]; exact b1) (by rw [hst]; simp only; omega)
  rw [hst] at s2
  rw [s2] at i2 ⊢
  refine ⟨i2, by omega, ⟨sd, ?_⟩, fun j hj => ?_, fun j hj hjn => ?_⟩
  · simp only
    rw [show W (1 - 1) = 0 from hW, show (stAt st 0).rank = 0 by omega]
    rfl
  · have hj0 : j = 0 := by omega
    subst hj0
    simp only
    rw [show ((0 : Nat) : Int) = 0 from rfl, stAt_set (by simp; omega) (Int.le_refl 0), if_pos rfl, hW]
    exact ⟨by simp only; omega, by simp only; omega⟩
  · simp only
    rw [stAt_set (by simp; omega) (by omega), stAt_set (by omega) (by omega), if_neg (by omega), if_neg (by omega)]
    have := htop j (by omega) (by omega)
    omega

/-- The play of a list is its run. -/
theorem play_run {n : Nat} (hn : 1 ≤ n ∧ n ≤ 32) {l : List Ev} (hl : l.length ≤ 4096) (h : (runR n (startL n, []) l).2 = 0) : playE n l = ((runR n (startL n, []) l).1.1, 0) := by
  unfold playE
  rw [if_neg (by omega), if_neg (by omega), Int.toNat_natCast, if_neg (Classical.not_not.2 h)]
theorem play_ok {n : Nat} (hn : 1 ≤ n ∧ n ≤ 32) {l : List Ev} (h : (playE n l).2 = 0) : (runR n (startL n, []) l).2 = 0 ∧ l.length ≤ 4096 := by
  unfold playE at h
  rw [if_neg (by omega)] at h
  by_cases h3 : 4096 < l.length
  · rw [if_pos h3] at h; exact absurd h (by decide)
  rw [if_neg h3, Int.toNat_natCast] at h
  by_cases h4 : (runR n (startL n, []) l).2 ≠ 0
  · rw [if_pos h4] at h; exact absurd h h4
  · exact ⟨Classical.not_not.1 h4, by omega⟩
theorem run_snoc {n : Int} {l : List Ev} {s : List Rk × List Ad} {x : Ev} (h : (runR n s l).2 = 0) (hx : evE n x = 0) : runR n s (l ++ [x]) = (stepR (runR n s l).1 x, 0) := by
  rw [run_append n l [x] s h, runR, if_neg (Classical.not_not.2 hx), runR]
/-- A part of a run without an error has none. -/
theorem run_take {n : Int} : ∀ {l : List Ev} {s : List Rk × List Ad} (_ : (runR n s l).2 = 0) (i : Nat), (runR n s (l.take i)).2 = 0
  | [], s, h, i => by rw [List.take_nil]; exact h
  | _ :: _, _, _, 0 => rfl
  | x :: l, s, h, i + 1 => by
    rw [List.take_succ_cons]
    have e1 : ∀ l', runR n s (x :: l') = if evE n x ≠ 0 then (s, evE n x) else runR n (stepR s x) l' := fun l' => by rw [runR]
    rw [e1] at h ⊢
    by_cases hx : evE n x ≠ 0
    · rw [if_pos hx] at h; exact absurd h hx
    · rw [if_neg hx] at h ⊢
      exact run_take h i
theorem run_ev {n : Int} : ∀ {l : List Ev} {s : List Rk × List Ad} (_ : (runR n s l).2 = 0) {x : Ev}, x ∈ l → evE n x = 0
  | y :: l, s, h, x, hx => by
    have e1 : ∀ l', runR n s (y :: l') = if evE n y ≠ 0 then (s, evE n y) else runR n (stepR s y) l' := fun l' => by rw [runR]
    rw [e1] at h
    by_cases hy : evE n y ≠ 0
    · rw [if_pos hy] at h; exact absurd h hy
    · rw [if_neg hy] at h
      rcases List.mem_cons.1 hx with e | e
      · rw [e]; exact Classical.not_not.1 hy
      · exact run_ev h e
end Go.Rm
