/- Ranks of chapter 22, plain: the events that settle a line, and what they lead to. -/
import Derived.Test.YtjkhlgpilcamjaaRm6
namespace Go.Rm

/-- The events behind k rounds, and the ranks that are wanted. -/
def allS (L0 : List Ev) (S0 : Int) (c : Nat → Int) : Nat → List Ev
  | 0 => L0
  | k + 1 => allS L0 S0 c k ++ [⟨2, ((k + 1 : Nat) : Int), S0 + k - 1, c (k + 1)⟩, ⟨1, ((k + 1 : Nat) : Int), 0, 0⟩]
def wantS (c : Nat → Int) : Nat → Int
  | 0 => 0
  | k + 1 => wantS c k + c (k + 1)
theorem allS_len (L0 : List Ev) (S0 : Int) (c : Nat → Int) : ∀ k, (allS L0 S0 c k).length = L0.length + 2 * k
  | 0 => rfl
  | k + 1 => by rw [allS, List.length_append, allS_len L0 S0 c k]; simp; omega
theorem wantS_le {c : Nat → Int} (hc : ∀ k, 1 ≤ c k ∧ c k ≤ 256) : ∀ k, 0 ≤ wantS c k ∧ wantS c k ≤ 256 * k
  | 0 => by simp [wantS]
  | k + 1 => by have := wantS_le hc k; have := hc (k + 1); rw [wantS]; omega

/-- What was said behind a part of the events. -/
def saidS (n : Nat) (l : List Ev) (i : Nat) : Nat := (runR n (startL n, []) (l.take i)).1.2.length

theorem run_two {n : Int} {l : List Ev} {s : List Rk × List Ad} {x y : Ev} (h : (runR n s l).2 = 0) (hx : evE n x = 0) (hy : evE n y = 0) : runR n s (l ++ [x, y]) = (stepR (stepR (runR n s l).1 x) y, 0) := by
  rw [show l ++ [x, y] = (l ++ [x]) ++ [y] by simp]
  have h1 := run_snoc h hx
  rw [run_snoc (by rw [h1]) hy, h1]

theorem settle_start {n : Nat} (hn : 1 ≤ n ∧ n ≤ 32) {l : List Ev} (hl : l.length ≤ 900) (h : (playE n l).2 = 0) {c : Nat → Int} :
    ∃ e, (runR n (startL n, []) (l ++ [⟨5, 0, 0, 0⟩, ⟨1, 0, 0, 0⟩])).2 = 0 ∧ Line n e (wantS c) 1 (runR n (startL n, []) (l ++ [⟨5, 0, 0, 0⟩, ⟨1, 0, 0, 0⟩])).1 := by
  obtain ⟨h1, _⟩ := play_ok hn h
  have hi := run_inv (start_inv hn.2) h1
  have ht := run_top (start_inv hn.2) (start_top hn) h1
  have e2 := run_two h1 (evE_renew hn.1) (evE_adv0 hn.1)
  rw [e2]
  exact ⟨_, rfl, line_start hi ht hn (by omega) rfl⟩

theorem settle_run {n : Nat} (hn : 1 ≤ n ∧ n ≤ 32) {L0 : List Ev} {e : Int} {c : Nat → Int} (hc : ∀ k, 1 ≤ c k ∧ c k ≤ 256) {S0 : Nat} (h0 : (runR n (startL n, []) L0).2 = 0) (hL : Line n e (wantS c) 1 (runR n (startL n, []) L0).1) (hS : (runR n (startL n, []) L0).1.2.length = S0) :
    ∀ k, k < n → (runR n (startL n, []) (allS L0 S0 c k)).2 = 0 ∧ Line n e (wantS c) (k + 1) (runR n (startL n, []) (allS L0 S0 c k)).1 ∧ (runR n (startL n, []) (allS L0 S0 c k)).1.2.length = S0 + k
  | 0, _ => ⟨h0, hL, hS⟩
  | k + 1, hk => by
    obtain ⟨i1, i2, i3⟩ := settle_run hn hc h0 hL hS k (by omega)
    have hck := hc (k + 1)
    have hwk := wantS_le hc k
    have hw1 := wantS_le hc (k + 1)
    obtain ⟨l1, l2, l3⟩ := line_step i2 (by omega) hn.2 (c := c (k + 1)) (by omega) (by rw [Nat.add_sub_cancel]; rfl) (by rw [Nat.add_sub_cancel]; omega)
    rw [i3] at l1 l2 l3
    have e2 := run_two (x := ⟨2, ((k + 1 : Nat) : Int), (S0 : Int) + k - 1, c (k + 1)⟩) (y := ⟨1, ((k + 1 : Nat) : Int), 0, 0⟩) i1 (evE_hear (by omega) (by omega) (by omega)) (evE_adv (by omega))
    rw [allS, e2]
    rw [show ((S0 + k : Nat) : Int) - 1 = (S0 : Int) + k - 1 by omega] at l1 l2
    exact ⟨rfl, l1, by rw [l2]; omega⟩

/-- The end: the whole play is right. -/
theorem settle_end {n : Nat} (hn : 1 ≤ n ∧ n ≤ 32) {L0 : List Ev} {e : Int} {c : Nat → Int} (hl : L0.length ≤ 900) (hc : ∀ k, 1 ≤ c k ∧ c k ≤ 256) {S0 : Nat} (h0 : (runR n (startL n, []) L0).2 = 0) (hL : Line n e (wantS c) 1 (runR n (startL n, []) L0).1) (hS : (runR n (startL n, []) L0).1.2.length = S0) :
    ∃ st, playE n (allS L0 S0 c (n - 1)) = (st, 0) ∧ st.length = n ∧ ∀ j : Nat, j < n → (stAt st j).rank = wantS c j ∧ (stAt st j).parent = (j : Int) - 1 := by
  obtain ⟨i1, i2, _⟩ := settle_run hn hc h0 hL hS (n - 1) (by omega)
  rw [show n - 1 + 1 = n by omega] at i2
  exact ⟨_, play_run hn (by rw [allS_len]; omega) i1, i2.inv.len, i2.past⟩

/-- The count of what was said. -/
theorem said_zero (n : Nat) (l : List Ev) : saidS n l 0 = 0 := by simp [saidS, runR]
theorem said_succ {n : Nat} (hn : 1 ≤ n ∧ n ≤ 32) {l : List Ev} (h : (runR n (startL n, []) l).2 = 0) {i : Nat} {x : Ev} (hx : l[i]? = some x) :
    saidS n l (i + 1) = saidS n l i + (if x.kind = 1 ∧ (stAt (runR n (startL n, []) (l.take i)).1.1 x.node).rank ≠ 65535 then 1 else 0) ∧ (0 ≤ x.node ∧ x.node < n) := by
  have h1 := run_take h i
  have he := run_ev h (List.mem_of_getElem? hx)
  have hi := run_inv (start_inv hn.2) h1
  have hev := he
  unfold evE at hev
  by_cases hk : x.kind < 1 ∨ 5 < x.kind
  · rw [if_pos hk] at hev; omega
  rw [if_neg hk] at hev
  by_cases hb : ¬ (0 ≤ x.node ∧ x.node ≤ (n : Int) - 1) ∨ (x.kind = 2 ∧ (x.which < 0 ∨ ¬ (1 ≤ x.cost ∧ x.cost ≤ 1023)))
  · rw [if_pos hb] at hev; omega
  refine ⟨?_, by omega⟩
  unfold saidS
  rw [List.take_add_one, hx, show (some x).toList = [x] from rfl, run_snoc h1 he]
  exact step_said hi he
/-- The play of a part. -/
theorem play_take {n : Nat} (hn : 1 ≤ n ∧ n ≤ 32) {l : List Ev} (hl : l.length ≤ 4096) (h : (runR n (startL n, []) l).2 = 0) (i : Nat) : playE n (l.take i) = ((runR n (startL n, []) (l.take i)).1.1, 0) ∧ (runR n (startL n, []) (l.take i)).1.1.length = n :=
  ⟨play_run hn (by rw [List.length_take]; omega) (run_take h i), (run_inv (start_inv hn.2) (run_take h i)).len⟩
end Go.Rm
