/- Ranks of chapter 22, plain. -/
namespace Go.Rm

structure Rk where
  node : Int
  epoch : Int
  parent : Int
  heard : Int
  rank : Int
  least : Int
instance : DecidableEq Rk := fun a b => decidable_of_iff (a.node = b.node ∧ a.epoch = b.epoch ∧ a.parent = b.parent ∧ a.heard = b.heard ∧ a.rank = b.rank ∧ a.least = b.least) (by cases a; cases b; simp)

def zeroR : Rk := ⟨0, 0, 0, 0, 0, 0⟩
def checkR (r : Rk) : Int :=
  if ¬ ((0 ≤ r.node ∧ r.node ≤ 31) ∧ (0 ≤ r.epoch ∧ r.epoch ≤ 65535) ∧ ((1 ≤ r.least ∧ r.least ≤ 65535) ∨ (r.node = 0 ∧ r.least = 0))) then 2
  else if ¬ ((r.node = 0 ∧ 1 ≤ r.epoch ∧ r.parent = -1 ∧ r.heard = 0 ∧ r.rank = 0 ∧ (r.least = 0 ∨ r.least = 65535)) ∨ (r.node ≠ 0 ∧ r.parent = -1 ∧ r.heard = 65535 ∧ r.rank = 65535 ∧ (0 < r.epoch ∨ r.least = 65535)) ∨
    (r.node ≠ 0 ∧ r.parent ≠ -1 ∧ (0 ≤ r.parent ∧ r.parent ≤ 31) ∧ r.parent ≠ r.node ∧ 1 ≤ r.epoch ∧ 0 ≤ r.heard ∧ r.heard < r.rank ∧ r.heard < r.least ∧ r.rank < 65535)) then 1
  else 0
structure Ok (r : Rk) : Prop where
  rng : (0 ≤ r.node ∧ r.node ≤ 31) ∧ (0 ≤ r.epoch ∧ r.epoch ≤ 65535) ∧ ((1 ≤ r.least ∧ r.least ≤ 65535) ∨ (r.node = 0 ∧ r.least = 0))
  right : (r.node = 0 ∧ 1 ≤ r.epoch ∧ r.parent = -1 ∧ r.heard = 0 ∧ r.rank = 0 ∧ (r.least = 0 ∨ r.least = 65535)) ∨ (r.node ≠ 0 ∧ r.parent = -1 ∧ r.heard = 65535 ∧ r.rank = 65535 ∧ (0 < r.epoch ∨ r.least = 65535)) ∨
    (r.node ≠ 0 ∧ r.parent ≠ -1 ∧ (0 ≤ r.parent ∧ r.parent ≤ 31) ∧ r.parent ≠ r.node ∧ 1 ≤ r.epoch ∧ 0 ≤ r.heard ∧ r.heard < r.rank ∧ r.heard < r.least ∧ r.rank < 65535)
theorem check_iff {r : Rk} : checkR r = 0 ↔ Ok r := by
  unfold checkR
  constructor
  · intro h
    by_cases h1 : ¬ ((0 ≤ r.node ∧ r.node ≤ 31) ∧ (0 ≤ r.epoch ∧ r.epoch ≤ 65535) ∧ ((1 ≤ r.least ∧ r.least ≤ 65535) ∨ (r.node = 0 ∧ r.least = 0)))
    · rw [if_pos h1] at h; omega
    rw [if_neg h1] at h
    split at h
    · omega
    · rename_i h2; exact ⟨Classical.not_not.1 h1, Classical.not_not.1 h2⟩
  · intro h
    rw [if_neg (Classical.not_not.2 h.rng), if_neg (Classical.not_not.2 h.right)]

def advd (ep rk : Int) : Prop := 1 ≤ ep ∧ ep ≤ 65535 ∧ 0 ≤ rk ∧ rk ≤ 65534
instance (ep rk : Int) : Decidable (advd ep rk) := by unfold advd; exact inferInstance
def feasP (r : Rk) (ep rk : Int) : Prop := checkR r = 0 ∧ r.node ≠ 0 ∧ (1 ≤ ep ∧ ep ≤ 65535 ∧ 0 ≤ rk ∧ rk ≤ 65534) ∧ (r.epoch < ep ∨ (ep = r.epoch ∧ rk < r.least))
instance (r : Rk) (ep rk : Int) : Decidable (feasP r ep rk) := by unfold feasP; exact inferInstance
def beginR (r : Rk) (ep : Int) : Rk := if r.epoch < ep then { r with epoch := ep, least := 65535 } else r
def adoptR (r : Rk) (fr ep rk c : Int) : Rk × Int :=
  if checkR r ≠ 0 then (zeroR, 1) else if ¬ ((0 ≤ fr ∧ fr ≤ 31) ∧ fr ≠ r.node ∧ (1 ≤ ep ∧ ep ≤ 65535 ∧ 0 ≤ rk ∧ rk ≤ 65534) ∧ 1 ≤ c ∧ c ≤ 1023) then (zeroR, 2)
  else if ¬ feasP r ep rk then (zeroR, 12) else if 65535 ≤ rk + c then (zeroR, 21) else ({ beginR r ep with parent := fr, heard := rk, rank := rk + c }, 0)
def loseR (r : Rk) : Rk := if checkR r = 0 ∧ r.node ≠ 0 then { r with parent := -1, heard := 65535, rank := 65535 } else r
def updateR (r : Rk) (ep rk c : Int) : Rk × Int :=
  if checkR r ≠ 0 then (zeroR, 1) else if ¬ ((1 ≤ ep ∧ ep ≤ 65535 ∧ 0 ≤ rk ∧ rk ≤ 65534) ∧ 1 ≤ c ∧ c ≤ 1023) then (zeroR, 2) else if r.parent = -1 then (zeroR, 12) else if ep < r.epoch then (r, 0)
  else if (adoptR r r.parent ep rk c).2 = 0 then ((adoptR r r.parent ep rk c).1, 0) else (loseR (beginR r ep), 0)
def advertiseR (r : Rk) : Rk × Int × Int × Int := if checkR r ≠ 0 then (zeroR, 0, 0, 1) else if r.rank = 65535 then (zeroR, 0, 0, 12) else ({ r with least := if r.rank < r.least then r.rank else r.least }, r.epoch, r.rank, 0)
def renewR (r : Rk) : Rk × Int := if checkR r ≠ 0 then (zeroR, 1) else if r.node ≠ 0 then (zeroR, 12) else if r.epoch = 65535 then (zeroR, 21) else (beginR r (r.epoch + 1), 0)
def startR (n : Int) : Rk × Int := if ¬ (0 ≤ n ∧ n ≤ 31) then (zeroR, 2) else if n = 0 then (⟨0, 1, -1, 0, 0, 65535⟩, 0) else (⟨n, 0, -1, 65535, 65535, 65535⟩, 0)
end Go.Rm
