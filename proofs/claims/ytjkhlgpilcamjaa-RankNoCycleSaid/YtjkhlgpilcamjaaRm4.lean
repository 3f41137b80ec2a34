/- Ranks of chapter 22, plain: there is no cycle. -/
import Derived.Test.YtjkhlgpilcamjaaRm3
namespace Go.Rm

def keyR (r : Rk) : Int := r.epoch * 65536 - r.least
theorem par_key {n : Nat} {st : List Rk} {sd : List Ad} (h : Inv n (st, sd)) {i : Int} (h0 : 0 ≤ i) (h1 : i < n) (hp : (stAt st i).parent ≠ -1) : (0 ≤ (stAt st i).parent ∧ (stAt st i).parent < n) ∧ keyR (stAt st i) < keyR (stAt st (stAt st i).parent) := by
  obtain ⟨p1, p2⟩ := h.par i h0 h1 hp
  obtain ⟨c1, _⟩ := h.ok i h0 h1
  simp only at p1 p2 c1
  obtain ⟨c3, _⟩ := h.ok _ p1.1 p1.2
  simp only at c3
  have r1 := (check_iff.1 c1).rng
  have r2 := (check_iff.1 c3).rng
  have r3 := (check_iff.1 c1).right
  refine ⟨p1, ?_⟩
  unfold keyR
  omega

/-- How many nodes have a greater key. -/
def above (n : Nat) (st : List Rk) (k : Int) : Nat := ((List.range n).filter fun j : Nat => decide (k < keyR (stAt st (j : Int)))).length
theorem filter_less {α : Type} {p q : α → Bool} : ∀ {l : List α} {a : α}, (∀ b ∈ l, p b = true → q b = true) → a ∈ l → p a = false → q a = true → (l.filter p).length < (l.filter q).length
  | [], _, _, h, _, _ => by cases h
  | b :: l, a, hpq, ha, h1, h2 => by
    have hle : ∀ (l : List α), (∀ b ∈ l, p b = true → q b = true) → (l.filter p).length ≤ (l.filter q).length := by
      intro l
      induction l with
      | nil => intro _; simp
      | cons c l ih =>
        intro h
        have := ih (fun b hb => h b (List.mem_cons_of_mem _ hb))
        have hc := h c List.mem_cons_self
        simp only [List.filter_cons]
        cases hp : p c <;> cases hq : q c <;> simp_all <;> omega
    have hl := hle l (fun b hb => hpq b (List.mem_cons_of_mem _ hb))
    have hb := hpq b List.mem_cons_self
    rcases List.mem_cons.1 ha with e | e
    · subst e
      simp only [List.filter_cons, h1, h2]
      simp; omega
    · have ih := filter_less (fun b hb => hpq b (List.mem_cons_of_mem _ hb)) e h1 h2
      simp only [List.filter_cons]
      cases hp : p b <;> cases hq : q b <;> simp_all <;> omega
theorem above_lt {n : Nat} (st : List Rk) {i : Int} (h0 : 0 ≤ i) (h1 : i < n) : above n st (keyR (stAt st i)) < n := by
  have h := filter_less (l := List.range n) (a := i.toNat) (p := fun j : Nat => decide (keyR (stAt st i) < keyR (stAt st (j : Int)))) (q := fun _ => true) (fun _ _ _ => rfl) (List.mem_range.2 (by omega)) (by rw [show ((i.toNat : Nat) : Int) = i by omega]; simp) rfl
  have e : ((List.range n).filter fun _ : Nat => true).length = n := by rw [List.filter_eq_self.2 (fun _ _ => rfl), List.length_range]
  rw [e] at h
  exact h
theorem above_par {n : Nat} (st : List Rk) {k : Int} {p : Int} (h0 : 0 ≤ p) (h1 : p < n) (hk : k < keyR (stAt st p)) : above n st (keyR (stAt st p)) < above n st k := by
  refine filter_less (a := p.toNat) (fun b _ hb => ?_) (List.mem_range.2 (by omega)) ?_ ?_
  · have := of_decide_eq_true hb
    exact decide_eq_true (by omega)
  · rw [show ((p.toNat : Nat) : Int) = p by omega]; simp
  · rw [show ((p.toNat : Nat) : Int) = p by omega]; exact decide_eq_true hk

theorem play_none {n : Int} {l : List Ev} (h : (playE n l).2 ≠ 0) : (playE n l).1 = [] := by
  unfold playE at *
  by_cases h1 : ¬ (1 ≤ n ∧ n ≤ 32)
  · rw [if_pos h1]
  rw [if_neg h1] at h ⊢
  by_cases h2 : 4096 < l.length
  · rw [if_pos h2]
  rw [if_neg h2] at h ⊢
  by_cases h3 : (runR n (startL n.toNat, []) l).2 ≠ 0
  · rw [if_pos h3]
  · rw [if_neg h3] at h; exact absurd rfl h
end Go.Rm
