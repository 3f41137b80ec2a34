/- Networks of chapter 31, plain: the first fault of a network. -/
namespace Go.Nw

/-- A link: from, to, loss. -/
abbrev Lk := Int × Int × Int

structure Net where
  nodes : Int
  power : List (List Int)
  noise : Int
  thr : Int
  links : List Lk
  margin : List Int

def cmpI (x y : Int) : Int := if x < y then -1 else if y < x then 1 else 0
def cmpL (a b : Lk) : Int := if cmpI a.1 b.1 = 0 then cmpI a.2.1 b.2.1 else cmpI a.1 b.1
def outside (p : Int) : Bool := decide (p < 0 ∨ 68719476736 < p)
def wide (k : Int) (r : List Int) : Bool := decide ((r.length : Int) ≠ k)
def tableE (n : Net) : Int :=
  if (n.power.length : Int) ≠ n.nodes then 1 else if n.power.any (wide n.nodes) = true then 1 else if n.power.any (fun r => r.any outside) = true then 2 else 0
def lnk (n : Net) (i : Nat) : Lk := n.links.getD i (0, 0, 0)
def mar (n : Net) (i : Nat) : Int := n.margin.getD i 0
def powr (n : Net) (a b : Int) : Int := (n.power.getD a.toNat []).getD b.toNat 0
def linkE (n : Net) (i : Nat) : Int :=
  if ¬ (0 ≤ (lnk n i).1 ∧ (lnk n i).1 < n.nodes) ∨ ¬ (0 ≤ (lnk n i).2.1 ∧ (lnk n i).2.1 < n.nodes) ∨ (lnk n i).1 = (lnk n i).2.1 ∨ (lnk n i).2.2 < 0 ∨ 7 < (lnk n i).2.2 then 2
  else if 0 < i ∧ 0 ≤ cmpL (lnk n (i - 1)) (lnk n i) then 5
  else if mar n i < 0 ∨ powr n (lnk n i).1 (lnk n i).2.1 < mar n i then 2 else 0
def linksE (n : Net) : Nat → Nat → Int
  | 0, _ => 0
  | r + 1, i => if linkE n i = 0 then linksE n r (i + 1) else linkE n i
def checkE (n : Net) : Int :=
  if n.nodes < 2 ∨ 32 < n.nodes then 2 else if tableE n ≠ 0 then tableE n
  else if n.noise < 0 ∨ 68719476736 < n.noise ∨ n.thr < 1000 ∨ 100000 < n.thr then 2
  else if 128 < n.links.length then 8 else if n.margin.length ≠ n.links.length then 11 else linksE n n.links.length 0

/-- The first index of an element with a property, counted from k on; -1 if there is none. -/
def idxFrom {α : Type} (p : α → Bool) : List α → Int → Int
  | [], _ => -1
  | a :: l, k => if p a then k else idxFrom p l (k + 1)
theorem idx_any {α : Type} (p : α → Bool) : ∀ (l : List α) (k : Int), 0 ≤ k → (0 ≤ idxFrom p l k ↔ l.any p = true)
  | [], k, _ => by simp [idxFrom]
  | a :: l, k, h => by
    unfold idxFrom
    by_cases hp : p a = true
    · simp [hp, h]
    · rw [if_neg hp, idx_any p l (k + 1) (by omega)]
      simp [hp]
theorem idx_drop {α : Type} (p : α → Bool) (l : List α) {k : Nat} {a : α} (h : l[k]? = some a) : idxFrom p (l.drop k) k = if p a then (k : Int) else idxFrom p (l.drop (k + 1)) (k + 1) := by
  obtain ⟨hk, rfl⟩ := List.getElem?_eq_some_iff.1 h
  rw [List.drop_eq_getElem_cons hk, idxFrom]

theorem linksE_step (n : Net) {i : Nat} (h : i < n.links.length) (h0 : linkE n i = 0) : linksE n (n.links.length - i) i = linksE n (n.links.length - (i + 1)) (i + 1) := by
  rw [show n.links.length - i = n.links.length - (i + 1) + 1 by omega, linksE, if_pos h0]
theorem linksE_stop (n : Net) {i : Nat} (h : i < n.links.length) (h0 : linkE n i ≠ 0) : linksE n (n.links.length - i) i = linkE n i := by
  rw [show n.links.length - i = n.links.length - (i + 1) + 1 by omega, linksE, if_neg h0]

theorem table_ok {n : Net} (h : tableE n = 0) : (n.power.length : Int) = n.nodes ∧ (∀ r ∈ n.power, (r.length : Int) = n.nodes) ∧ ∀ r ∈ n.power, ∀ p ∈ r, 0 ≤ p ∧ p ≤ 68719476736 := by
  unfold tableE at h
  by_cases h1 : (n.power.length : Int) ≠ n.nodes
  · rw [if_pos h1] at h; omega
  rw [if_neg h1] at h
  by_cases h2 : n.power.any (wide n.nodes) = true
  · rw [if_pos h2] at h; omega
  rw [if_neg h2] at h
  by_cases h3 : n.power.any (fun r => r.any outside) = true
  · rw [if_pos h3] at h; omega
  refine ⟨by omega, fun r hr => ?_, fun r hr p hp => ?_⟩
  · by_cases hw : (r.length : Int) = n.nodes
    · exact hw
    · exact absurd (List.any_eq_true.2 ⟨r, hr, by simp [wide, hw]⟩) h2
  · by_cases ho : outside p = true
    · exact absurd (List.any_eq_true.2 ⟨r, hr, List.any_eq_true.2 ⟨p, hp, ho⟩⟩) h3
    · simp [outside] at ho; omega
end Go.Nw
