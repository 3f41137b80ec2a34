/- Ranks of chapter 22, plain: events. -/
import Derived.Test.YtjkhlgpilcamjaaRm
namespace Go.Rm

/-- An advertisement: from, epoch, rank. -/
abbrev Ad := Int × Int × Int
structure Ev where
  kind : Int
  node : Int
  which : Int
  cost : Int

def dR : Rk := ⟨0, 0, 0, 0, 0, 0⟩
def stAt (st : List Rk) (i : Int) : Rk := st.getD i.toNat dR
def hearR (r : Rk) (a : Ad) (node cost : Int) : Rk :=
  if a.1 = node then r else if a.1 = r.parent then (updateR r a.2.1 a.2.2 cost).1
  else if (adoptR r a.1 a.2.1 a.2.2 cost).2 = 0 ∧ (r.parent = -1 ∨ r.epoch < a.2.1 ∨ a.2.2 + cost < r.rank) then (adoptR r a.1 a.2.1 a.2.2 cost).1 else r
def adAt (sd : List Ad) (which : Int) : Ad := sd.getD (which % sd.length).toNat (0, 0, 0)
def stepR (s : List Rk × List Ad) (x : Ev) : List Rk × List Ad :=
  if x.kind = 1 then (if (advertiseR (stAt s.1 x.node)).2.2.2 = 0 then (s.1.set x.node.toNat (advertiseR (stAt s.1 x.node)).1, s.2 ++ [(x.node, (advertiseR (stAt s.1 x.node)).2.1, (advertiseR (stAt s.1 x.node)).2.2.1)]) else s)
  else if x.kind = 2 then (if s.2.length = 0 then s else (s.1.set x.node.toNat (hearR (stAt s.1 x.node) (adAt s.2 x.which) x.node x.cost), s.2))
  else if x.kind = 5 then (if (renewR (stAt s.1 x.node)).2 = 0 then (s.1.set x.node.toNat (renewR (stAt s.1 x.node)).1, s.2) else s)
  else (s.1.set x.node.toNat (loseR (stAt s.1 x.node)), s.2)
def evE (nodes : Int) (x : Ev) : Int := if x.kind < 1 ∨ 5 < x.kind then 1 else if ¬ (0 ≤ x.node ∧ x.node ≤ nodes - 1) ∨ (x.kind = 2 ∧ (x.which < 0 ∨ ¬ (1 ≤ x.cost ∧ x.cost ≤ 1023))) then 2 else 0
/-- The states behind events, or the first error. -/
def runR (nodes : Int) : List Rk × List Ad → List Ev → (List Rk × List Ad) × Int
  | s, [] => (s, 0)
  | s, x :: l => if evE nodes x ≠ 0 then (s, evE nodes x) else runR nodes (stepR s x) l
def startL (n : Nat) : List Rk := (List.range n).map fun i : Nat => (startR (i : Int)).1
def playE (nodes : Int) (l : List Ev) : List Rk × Int :=
  if ¬ (1 ≤ nodes ∧ nodes ≤ 32) then ([], 2) else if 4096 < l.length then ([], 8)
  else if (runR nodes (startL nodes.toNat, []) l).2 ≠ 0 then ([], (runR nodes (startL nodes.toNat, []) l).2) else ((runR nodes (startL nodes.toNat, []) l).1.1, 0)

theorem set_same {l : List Rk} {i : Nat} (h : i < l.length) : l.set i (l.getD i dR) = l := by
  apply List.ext_getElem?
  intro j
  by_cases e : i = j
  · subst e; rw [List.getElem?_set_self h]; simp [List.getD, h]
  · rw [List.getElem?_set_ne e]
theorem stAt_get {st : List Rk} {i : Int} {r : Rk} (h : st[i.toNat]? = some r) : stAt st i = r := by simp [stAt, List.getD, h]
theorem startL_succ (n : Nat) : startL (n + 1) = startL n ++ [(startR n).1] := by simp [startL, List.range_succ]
theorem startL_len (n : Nat) : (startL n).length = n := by simp [startL]
theorem step_len (s : List Rk × List Ad) (x : Ev) : (stepR s x).1.length = s.1.length := by
  unfold stepR
  repeat' split
  all_goals simp
theorem step_sd (s : List Rk × List Ad) (x : Ev) : (stepR s x).2.length ≤ s.2.length + 1 := by
  unfold stepR
  repeat' split
  all_goals simp

def AdsOk (sd : List Ad) : Prop := ∀ a ∈ sd, 0 ≤ a.2.2 ∧ a.2.2 ≤ 65534
theorem step_ads {s : List Rk × List Ad} (x : Ev) (h : AdsOk s.2) : AdsOk (stepR s x).2 := by
  unfold stepR
  by_cases h1 : x.kind = 1
  · rw [if_pos h1]
    by_cases h2 : (advertiseR (stAt s.1 x.node)).2.2.2 = 0
    · rw [if_pos h2]
      intro a ha
      rcases List.mem_append.1 ha with ha | ha
      · exact h a ha
      · rw [List.mem_singleton.1 ha]
        generalize stAt s.1 x.node = r at *
        unfold advertiseR at *
        by_cases h3 : checkR r ≠ 0
        · rw [if_pos h3] at h2; exact absurd h2 (by decide)
        rw [if_neg h3] at h2 ⊢
        by_cases h4 : r.rank = 65535
        · rw [if_pos h4] at h2; exact absurd h2 (by decide)
        rw [if_neg h4]
        have hok := check_iff.1 (Classical.not_not.1 h3)
        have := hok.right
        simp only
        omega
    · rw [if_neg h2]; exact h
  · rw [if_neg h1]
    repeat' split
    all_goals exact h

/-- The state behind the first events. -/
def upto (nodes : Nat) (l : List Ev) (j : Nat) : List Rk × List Ad := (l.take j).foldl stepR (startL nodes, [])
theorem upto_succ (nodes : Nat) {l : List Ev} {j : Nat} {x : Ev} (h : l[j]? = some x) : upto nodes l (j + 1) = stepR (upto nodes l j) x := by
  unfold upto
  rw [List.take_add_one, h]
  simp [List.foldl_append]
theorem upto_len (nodes : Nat) (l : List Ev) : ∀ j, (upto nodes l j).1.length = nodes
  | 0 => by simp [upto, startL_len]
  | j + 1 => by
    cases h : l[j]? with
    | none =>
      have h1 : l.length ≤ j := by simpa using h
      have h2 : upto nodes l (j + 1) = upto nodes l j := by unfold upto; rw [List.take_of_length_le (by omega), List.take_of_length_le h1]
      rw [h2]; exact upto_len nodes l j
    | some x => rw [upto_succ nodes h, step_len]; exact upto_len nodes l j
theorem upto_sd (nodes : Nat) (l : List Ev) : ∀ j, (upto nodes l j).2.length ≤ j ∧ AdsOk (upto nodes l j).2
  | 0 => by simp [upto, AdsOk]
  | j + 1 => by
    have ih := upto_sd nodes l j
    cases h : l[j]? with
    | none =>
      have h1 : l.length ≤ j := by simpa using h
      have h2 : upto nodes l (j + 1) = upto nodes l j := by unfold upto; rw [List.take_of_length_le (by omega), List.take_of_length_le h1]
      rw [h2]; exact ⟨by omega, ih.2⟩
    | some x =>
      rw [upto_succ nodes h]
      have := step_sd (upto nodes l j) x
      exact ⟨by omega, step_ads x ih.2⟩
theorem run_drop (n : Int) (s : List Rk × List Ad) {l : List Ev} {j : Nat} {x : Ev} (h : l[j]? = some x) : runR n s (l.drop j) = if evE n x ≠ 0 then (s, evE n x) else runR n (stepR s x) (l.drop (j + 1)) := by
  obtain ⟨hk, rfl⟩ := List.getElem?_eq_some_iff.1 h
  rw [List.drop_eq_getElem_cons hk, runR]
end Go.Rm
