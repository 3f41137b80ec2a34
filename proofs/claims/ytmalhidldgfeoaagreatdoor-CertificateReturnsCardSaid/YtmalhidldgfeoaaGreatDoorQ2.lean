/- Lemmas for the claim, part 2. -/
import Derived.Test.YtmalhidldgfeoaaGreatDoorProg
import Derived.KernelRfl
import Derived.Shelf.Strings.Builder1
import Derived.Shelf.Small.Wraps
import Derived.Shelf.Strings.BuilderF
import Derived.Shelf.Strings.BuilderK
import Derived.Shelf.Strconv.Atoi
import Derived.Shelf.Strconv.Itoa0
import Derived.Shelf.Strconv.Itoa1
import Derived.Shelf.LaysM
import Derived.Shelf.Strconv.Itoa2
import Derived.Shelf.Strconv.Itoa3
import Derived.Shelf.Strconv.AtoiErrFast
import Derived.Shelf.Strconv.ParseIntEmpty
import Derived.Shelf.Strconv.AtoiFail
import Derived.Shelf.Strconv.Clone
import Derived.Shelf.Strconv.SyntaxError
import Derived.Shelf.LaysC
import Derived.Shelf.Strconv.ToError
import Derived.Shelf.Strconv.Lower
import Derived.Shelf.Strconv.ParseUint10
import Derived.Shelf.Strconv.ParseUint10Empty
import Derived.Shelf.Strconv.ParseUint10Any
import Derived.Shelf.Strconv.ParseInt10
import Derived.Shelf.Strconv.AtoiLong
import Derived.Shelf.Strconv.AtoiInnerAll
import Derived.Shelf.Strconv.RangeError
import Derived.Shelf.Strconv.ToErrorRange
import Derived.Shelf.Strconv.AtoiAll
import Derived.Shelf.Strconv.ErrVarAll
import Derived.Shelf.Strings.Search1
import Derived.Shelf.Strings.Search2
import Derived.Shelf.Strings.Search3
import Derived.Shelf.Strings.Count
import Derived.Shelf.Strings.Shaped
import Derived.Shelf.Strings.Split
import Derived.Shelf.Strings.SplitShaped
import Derived.Shelf.Unicode.DecodeSlow
import Derived.Shelf.Slices.Turned
import Derived.Shelf.Slices.Equal
import Derived.Ground.Names2Prog
import Derived.Shelf.Slices.Clone
import Derived.Shelf.Slices.SearchI
import Derived.Sort.OwnSortedInts
import Derived.Lib.Split
import Derived.Lib.ItoaNum
import Derived.Lib.AtoiAll
import Derived.Lib.AtoiTie
import Derived.Lib.AppendIntMem
import Derived.WideLaws
import Derived.Lib.SmallJoins
import Derived.Test.YtmalhidldgfeoaaGreatDoorQ1

namespace Go.Nw
abbrev Lk := Int × Int × Int
structure Net where
  nodes : Int
  power : List (List Int)
  noise : Int
  thr : Int
  links : List Lk
  margin : List Int
def cmpI (x y : Int) : Int := if x < y then -1 else if y < x then 1 else 0
def cmpL (a b : Lk) : Int := if cmpI a.1 b.1 = 0 then cmpI a.2.1 b.2.1 else cmpI a.1 b.1
def XD (p : Int) : Bool := decide (p < 0 ∨ 68719476736 < p)
def wide (k : Int) (r : List Int) : Bool := decide ((r.length : Int) ≠ k)
def Jv (n : Net) : Int :=
  if (n.power.length : Int) ≠ n.nodes then 1 else if n.power.any (wide n.nodes) = true then 1 else if n.power.any (fun r => r.any XD) = true then 2 else 0
def lnk (n : Net) (i : Nat) : Lk := n.links.getD i (0, 0, 0)
def mar (n : Net) (i : Nat) : Int := n.margin.getD i 0
def powr (n : Net) (a b : Int) : Int := (n.power.getD a.toNat []).getD b.toNat 0
def VA (n : Net) (i : Nat) : Int :=
  if ¬ (0 ≤ (lnk n i).1 ∧ (lnk n i).1 < n.nodes) ∨ ¬ (0 ≤ (lnk n i).2.1 ∧ (lnk n i).2.1 < n.nodes) ∨ (lnk n i).1 = (lnk n i).2.1 ∨ (lnk n i).2.2 < 0 ∨ 7 < (lnk n i).2.2 then 2
  else if 0 < i ∧ 0 ≤ cmpL (lnk n (i - 1)) (lnk n i) then 5
  else if mar n i < 0 ∨ powr n (lnk n i).1 (lnk n i).2.1 < mar n i then 2 else 0
def ZI (n : Net) : Nat → Nat → Int
  | 0, _ => 0
  | r + 1, i => if VA n i = 0 then ZI n r (i + 1) else VA n i
def Yy (n : Net) : Int :=
  if n.nodes < 2 ∨ 32 < n.nodes then 2 else if Jv n ≠ 0 then Jv n
  else if n.noise < 0 ∨ 68719476736 < n.noise ∨ n.thr < 1000 ∨ 100000 < n.thr then 2
  else if 128 < n.links.length then 8 else if n.margin.length ≠ n.links.length then 11 else ZI n n.links.length 0
def Yq {α : Type} (p : α → Bool) : List α → Int → Int
  | [], _ => -1
  | a :: l, k => if p a then k else Yq p l (k + 1)
theorem Jo {α : Type} (p : α → Bool) : ∀ (l : List α) (k : Int), 0 ≤ k → (0 ≤ Yq p l k ↔ l.any p = true)
  | [], k, _ => by simp [Yq]
  | a :: l, k, h => by
    unfold Yq
    by_cases hp : p a = true
    · simp [hp, h]
    · rw [if_neg hp, Jo p l (k + 1) (by omega)]
      simp [hp]
theorem Ja {α : Type} (p : α → Bool) (l : List α) {k : Nat} {a : α} (h : l[k]? = some a) : Yq p (l.drop k) k = if p a then (k : Int) else Yq p (l.drop (k + 1)) (k + 1) := by
  obtain ⟨hk, rfl⟩ := List.getElem?_eq_some_iff.1 h
  rw [List.drop_eq_getElem_cons hk, Yq]
theorem Yb8 (n : Net) {i : Nat} (h : i < n.links.length) (h0 : VA n i = 0) : ZI n (n.links.length - i) i = ZI n (n.links.length - (i + 1)) (i + 1) := by
  rw [show n.links.length - i = n.links.length - (i + 1) + 1 by omega, ZI, if_pos h0]
theorem Ybd (n : Net) {i : Nat} (h : i < n.links.length) (h0 : VA n i ≠ 0) : ZI n (n.links.length - i) i = VA n i := by
  rw [show n.links.length - i = n.links.length - (i + 1) + 1 by omega, ZI, if_neg h0]
theorem Ycc {n : Net} (h : Jv n = 0) : (n.power.length : Int) = n.nodes ∧ (∀ r ∈ n.power, (r.length : Int) = n.nodes) ∧ ∀ r ∈ n.power, ∀ p ∈ r, 0 ≤ p ∧ p ≤ 68719476736 := by
  unfold Jv at h
  by_cases h1 : (n.power.length : Int) ≠ n.nodes
  · rw [if_pos h1] at h; omega
  rw [if_neg h1] at h
  by_cases h2 : n.power.any (wide n.nodes) = true
  · rw [if_pos h2] at h; omega
  rw [if_neg h2] at h
  by_cases h3 : n.power.any (fun r => r.any XD) = true
  · rw [if_pos h3] at h; omega
  refine ⟨by omega, fun r hr => ?_, fun r hr p hp => ?_⟩
  · by_cases hw : (r.length : Int) = n.nodes
    · exact hw
    · exact absurd (List.any_eq_true.2 ⟨r, hr, by simp [wide, hw]⟩) h2
  · by_cases ho : XD p = true
    · exact absurd (List.any_eq_true.2 ⟨r, hr, List.any_eq_true.2 ⟨p, hp, ho⟩⟩) h3
    · simp [XD] at ho; omega
end Go.Nw
namespace Go.Proofs.YtmalhidldgfeoaaGreatDoor
def ZJ : List Int → List Int → Bool
  | [], b => !b.isEmpty
  | _ :: _, [] => false
  | a :: l, b :: m => if a ≠ b then decide (a < b) else ZJ l m
theorem YbW {a b : List Int} {i : Nat} {x y : Int} (hx : a[i]? = some x) (hy : b[i]? = some y) : ZJ (a.drop i) (b.drop i) = if x ≠ y then decide (x < y) else ZJ (a.drop (i + 1)) (b.drop (i + 1)) := by
  obtain ⟨h1, rfl⟩ := List.getElem?_eq_some_iff.1 hx
  obtain ⟨h2, rfl⟩ := List.getElem?_eq_some_iff.1 hy
  rw [List.drop_eq_getElem_cons h1, List.drop_eq_getElem_cons h2]
  rfl
open Go.Nw
abbrev Cel := Int × Int × Int × Int × Int
def nums (c : Cel) : List Int := [c.1, c.2.1, c.2.2.1, c.2.2.2.1, c.2.2.2.2]
def Zg (a b : Cel) : Bool := ZJ (nums a) (nums b)
theorem Yaa : ∀ {a b c : List Int}, ZJ a b = true → ZJ b c = true → ZJ a c = true
  | _, _, [], _, h => by cases ‹List Int› <;> cases h
  | [], _, _ :: _, _, _ => rfl
  | _ :: _, [], _ :: _, h, _ => by cases h
  | x :: a, y :: b, z :: c, h1, h2 => by
    unfold ZJ at h1 h2 ⊢
    by_cases e1 : x = y
    · subst e1
      rw [if_neg (fun h => h rfl)] at h1
      by_cases e2 : x = z
      · subst e2
        rw [if_neg (fun h => h rfl)] at h2 ⊢
        exact Yaa h1 h2
      · rw [if_pos e2] at h2 ⊢; exact h2
    · rw [if_pos e1] at h1
      have h3 := of_decide_eq_true h1
      by_cases e2 : y = z
      · subst e2
        rw [if_pos e1]; exact h1
      · rw [if_pos e2] at h2
        have h4 := of_decide_eq_true h2
        rw [if_pos (by omega)]
        exact decide_eq_true (by omega)
theorem Yai {a b c : Cel} (h1 : Zg a b = true) (h2 : Zg b c = true) : Zg a c = true := Yaa h1 h2
def insE (x n : Int) : Bool := decide (0 ≤ x ∧ x < n)
structure Sch where
  len : Int
  off : Int
  cells : List Cel
def XE (s : Sch) (c : Cel) : Bool := insE c.1 s.len && insE c.2.1 s.off
def ZV (s : Sch) (c : Cel) : Bool := XE s c && insE c.2.2.1 32 && insE c.2.2.2.1 32 && insE c.2.2.2.2 256
def Zs (s : Sch) : Bool := decide (1 ≤ s.len ∧ s.len ≤ 512 ∧ 1 ≤ s.off ∧ s.off ≤ 16)
def Yl (s : Sch) (i : Nat) : Cel := s.cells.getD i (0, 0, 0, 0, 0)
def Zx (s : Sch) (i : Nat) : Bool := ZV s (Yl s i) && (decide (i = 0) || Zg (Yl s (i - 1)) (Yl s i))
def XF (s : Sch) : Bool := Zs s && decide (s.cells.length ≤ 512) && (List.range s.cells.length).all (Zx s)
theorem WY {p : Nat → Bool} {k : Nat} : (List.range (k + 1)).all p = ((List.range k).all p && p k) := by
  rw [List.range_succ, List.all_append]; simp
theorem Ya0 {p : Nat → Bool} {i k : Nat} (hi : i < k) (h : p i = false) : (List.range k).all p = false := by
  rw [List.all_eq_false]
  exact ⟨i, List.mem_range.2 hi, by rw [h]; decide⟩
theorem YaK {p : Nat → Bool} {i k : Nat} (h : (List.range k).all p = true) (hi : i < k) : p i = true := List.all_eq_true.1 h i (List.mem_range.2 hi)
theorem XU {s : Sch} {i : Nat} {c : Cel} (h : s.cells[i]? = some c) : Yl s i = c := by
  unfold Yl; rw [List.getD_eq_getElem?_getD, h]; rfl
theorem YC {s : Sch} {i : Nat} (h : i < s.cells.length) : s.cells[i]? = some (Yl s i) := by
  unfold Yl; rw [List.getD_eq_getElem?_getD, List.getElem?_eq_getElem h]; rfl
theorem UY {s : Sch} {i : Nat} (h : i < s.cells.length) : Yl s i ∈ s.cells := List.mem_of_getElem? (YC h)
structure Frm (s : Sch) : Prop where
  sized : Zs s = true
  few : s.cells.length ≤ 512
  formed : ∀ c ∈ s.cells, ZV s c = true
  ord : s.cells.Pairwise fun a b => Zg a b = true
theorem Uj {α : Type} {lt : α → α → Bool} (htr : ∀ {a b c}, lt a b = true → lt b c = true → lt a c = true) {l : List α} (h : ∀ i, ∀ a b, l[i]? = some a → l[i + 1]? = some b → lt a b = true) : l.Pairwise fun a b => lt a b = true := by
  induction l with
  | nil => exact .nil
  | cons x l ih =>
    have h1 := ih fun i a b ha hb => h (i + 1) a b (by simpa using ha) (by simpa using hb)
    refine .cons (fun y hy => ?_) h1
    cases l with
    | nil => cases hy
    | cons z l =>
      have hz := h 0 x z rfl rfl
      rcases List.mem_cons.1 hy with rfl | hy
      · exact hz
      · exact htr hz ((List.pairwise_cons.1 h1).1 y hy)
theorem O0 {s : Sch} : XF s = true ↔ Frm s := by
  unfold XF
  simp only [Bool.and_eq_true, decide_eq_true_eq]
  constructor
  · rintro ⟨⟨h1, h2⟩, h3⟩
    have hc : ∀ i, i < s.cells.length → Zx s i = true := fun i hi => YaK h3 hi
    refine ⟨h1, h2, fun c hc2 => ?_, ?_⟩
    · obtain ⟨i, hi⟩ := List.mem_iff_getElem?.1 hc2
      have := hc i (List.getElem?_eq_some_iff.1 hi).1
      unfold Zx at this
      rw [XU hi] at this
      simp only [Bool.and_eq_true] at this
      exact this.1
    · refine Uj (lt := Zg) (fun h1 h2 => Yai h1 h2) fun i a b ha hb => ?_
      have := hc (i + 1) (List.getElem?_eq_some_iff.1 hb).1
      unfold Zx at this
      rw [XU hb, Nat.add_sub_cancel, XU ha] at this
      simp only [Bool.and_eq_true, Bool.or_eq_true, decide_eq_true_eq] at this
      rcases this.2 with h | h
      · omega
      · exact h
  · intro h
    refine ⟨⟨h.sized, h.few⟩, List.all_eq_true.2 fun i hi => ?_⟩
    have hi := List.mem_range.1 hi
    unfold Zx
    rw [h.formed _ (UY hi), Bool.true_and, Bool.or_eq_true, decide_eq_true_eq]
    rcases Nat.eq_zero_or_pos i with h0 | h0
    · exact .inl h0
    · right
      obtain ⟨h1, h2⟩ := List.getElem?_eq_some_iff.1 (YC (s := s) (i := i - 1) (by omega))
      obtain ⟨h3, h4⟩ := List.getElem?_eq_some_iff.1 (YC (s := s) hi)
      have := List.pairwise_iff_getElem.1 h.ord (i - 1) i h1 h3 (by omega)
      rw [h2, h4] at this
      exact this
abbrev Flw := Int × Int × Int × Int × Int × Int
def XK (nodes : Int) (f : Flw) : Int :=
  if f.1 < 0 ∨ 255 < f.1 ∨ insE f.2.1 nodes = false ∨ insE f.2.2.1 nodes = false then 2
  else if f.2.2.2.1 < 1 ∨ 512 < f.2.2.2.1 ∨ f.2.2.2.2.1 < 0 ∨ f.2.2.2.1 ≤ f.2.2.2.2.1 ∨ f.2.2.2.2.2 < 1 ∨ f.2.2.2.1 < f.2.2.2.2.2 then 2
  else if f.2.1 = f.2.2.1 then 1 else 0
def Zd (l : List Flw) (i : Nat) : Flw := l.getD i (0, 0, 0, 0, 0, 0)
def Yz (f : Nat → Int) : Nat → Nat → Int × Int
  | 0, _ => (-1, 0)
  | r + 1, i => if f i = 0 then Yz f r (i + 1) else ((i : Int), f i)
theorem Xf {f : Nat → Int} : ∀ {r i : Nat}, (Yz f r i).2 = 0 ↔ ∀ k, i ≤ k → k < i + r → f k = 0
  | 0, i => by simp [Yz]; intro k h1 h2; omega
  | r + 1, i => by
    unfold Yz
    split
    · rename_i h
      rw [Xf]
      constructor
      · intro h1 k hk1 hk2
        rcases Nat.eq_or_lt_of_le hk1 with rfl | h2
        · exact h
        · exact h1 k (by omega) (by omega)
      · intro h1 k hk1 hk2
        exact h1 k (by omega) (by omega)
    · rename_i h
      constructor
      · intro h1; exact absurd h1 h
      · intro h1; exact absurd (h1 i (Nat.le_refl _) (by omega)) h
theorem On {f : Nat → Int} : ∀ {r i : Nat}, (Yz f r i).2 = 0 → (Yz f r i).1 = -1
  | 0, i, _ => rfl
  | r + 1, i, h => by
    unfold Yz at h ⊢
    split at h
    · rw [if_pos ‹_›]; exact On h
    · exact absurd h ‹_›
def YO (nodes : Int) (l : List Flw) (i : Nat) : Int := if XK nodes (Zd l i) ≠ 0 then XK nodes (Zd l i) else if 0 < i ∧ (Zd l i).1 ≤ (Zd l (i - 1)).1 then 5 else 0
def YR (nodes : Int) (l : List Flw) : Int × Int :=
  if nodes < 2 ∨ 32 < nodes then (-1, 2) else if 16 < l.length then (-1, 8) else Yz (YO nodes l) l.length 0
def Jg (l : List Flw) (id : Int) : Int := Yq (fun f => decide (f.1 = id)) l 0
open Go.Eng
theorem Yhu : ([(1, ()), (3, ()), (4, ()), (5, ()), (9, ()), (22, ()), (23, ()), (24, ()), (27, ()), (28, ()), (48, ()), (59, ()), (72, ()), (80, ()), (81, ()), (82, ()), (129, ()), (130, ()), (134, ()), (162, ()), (195, ()), (221, ()), (222, ()), (249, ()), (277, ()), (291, ()), (302, ())].all fun x : Nat × Unit => oneT Tryz.prog x.1) = true := by kernel_rfl
theorem Yg9 : ([(26, 6), (30, 3), (40, 5), (61, 5), (68, 6), (70, 7), (84, 2), (96, 5), (151, 17), (167, 8), (169, 4), (172, 3), (181, 3), (183, 5), (212, 4), (213, 16), (224, 5), (250, 4), (257, 5), (263, 2), (334, 20), (338, 2), (339, 32), (347, 32), (348, 64)].all fun x : Nat × Nat => aggT Tryz.prog x.1 == some x.2) = true := by kernel_rfl
theorem Yhn : ([(26, 0, 0), (26, 1, 1), (26, 2, 2), (26, 3, 3), (26, 4, 4), (26, 5, 5), (30, 0, 0), (30, 1, 1), (30, 2, 2), (40, 0, 0), (40, 1, 1), (40, 2, 2), (40, 3, 3), (40, 4, 4), (61, 0, 0), (61, 1, 1), (61, 2, 2), (61, 3, 3), (61, 4, 4), (68, 0, 0), (68, 1, 1), (68, 2, 2), (68, 3, 3), (68, 4, 4), (68, 5, 5), (70, 0, 0), (70, 1, 6), (84, 0, 0), (84, 1, 1), (96, 0, 0), (96, 1, 1), (96, 2, 2), (96, 3, 3), (132, 0, 0), (132, 1, 1), (144, 0, 0), (144, 1, 1), (151, 0, 0), (151, 1, 6), (151, 2, 9), (151, 3, 15), (151, 4, 16), (164, 0, 0), (164, 1, 1), (164, 2, 4), (164, 3, 5), (164, 4, 6), (167, 0, 0), (167, 1, 1), (167, 2, 2), (167, 3, 7), (169, 0, 0), (169, 1, 1), (169, 2, 2), (169, 3, 3), (172, 0, 0), (172, 1, 1), (172, 2, 2), (181, 0, 0), (181, 1, 1), (181, 2, 2), (212, 0, 0), (212, 1, 1), (212, 2, 2), (224, 0, 0), (224, 1, 1), (224, 2, 2), (224, 3, 3), (224, 4, 4), (257, 0, 0), (257, 1, 1), (257, 2, 2), (257, 3, 3), (257, 4, 4), (263, 0, 0), (263, 1, 1), (338, 0, 0), (338, 1, 1)].all fun x : Nat × Nat × Nat => Vb Tryz.prog x.1 x.2.1 == some x.2.2) = true := by kernel_rfl
theorem Yhf : ([(22, (24, 1, 24)), (23, (172, 3, 24)), (24, (3, 1, 8)), (27, (68, 6, 48)), (28, (40, 5, 40)), (36, (4, 1, 1)), (37, (28, 1, 24)), (45, (70, 7, 72)), (48, (61, 5, 104)), (59, (72, 1, 24)), (72, (3, 1, 8)), (80, (257, 5, 56)), (81, (167, 8, 64)), (82, (181, 3, 24)), (87, (96, 5, 56)), (130, (5, 1, 1)), (140, (9, 1, 16)), (162, (224, 5, 40))].all fun x : Nat × (Nat × Nat × Nat) => OM Tryz.prog x.1 == some x.2) = true := by kernel_rfl
theorem Yhb : ([(183, (5, 3, 1)), (213, (4, 212, 4)), (250, (4, 1, 1)), (315, (24, 5, 1)), (334, (20, 277, 1)), (335, (65, 5, 1)), (336, (256, 5, 1)), (339, (16, 338, 2)), (347, (32, 5, 1)), (348, (64, 5, 1))].all fun x : Nat × (Nat × Nat × Nat) => O2 Tryz.prog x.1 == some x.2) = true := by kernel_rfl
theorem Yhq : ([(2, .i64), (3, .i64), (5, .u8), (21, .i32), (197, .u64), (275, .u32), (277, .u64), (302, .u64)].all fun x : Nat × IntKind => decide (intT Tryz.prog x.1 = some x.2)) = true := by kernel_rfl
theorem Yhh : ([(9, ())].all fun x : Nat × Unit => Yaw Tryz.prog x.1) = true := by kernel_rfl
def T : Tab Tryz.prog := ⟨_, _, _, _, _, _, _, Yhu, Yg9, Yhn, Yhf, Yhb, Yhq, Yhh⟩
theorem Yg7 : ([(3, .int .i64 0), (4, .bool false), (5, .int .u8 0), (9, .string ⟨#[]⟩), (24, .slice none 0 0), (26, .agg #[.int .i64 0, .slice none 0 0, .int .i64 0, .int .i64 0, .slice none 0 0, .slice none 0 0]), (28, .slice none 0 0), (30, .agg #[.int .i64 0, .int .i64 0, .slice none 0 0]), (40, .agg #[.int .i64 0, .int .i64 0, .int .i64 0, .int .i64 0, .int .i64 0]), (61, .agg #[.int .i64 0, .slice none 0 0, .slice none 0 0, .slice none 0 0, .slice none 0 0]), (68, .agg #[.int .i64 0, .int .i64 0, .int .i64 0, .int .i64 0, .int .i64 0, .int .i64 0]), (70, .agg #[.int .i64 0, .int .i64 0, .int .i64 0, .int .i64 0, .int .i64 0, .int .i64 0, .slice none 0 0]), (72, .slice none 0 0), (84, .agg #[.slice none 0 0, .slice none 0 0]), (96, .agg #[.int .i64 0, .int .i64 0, .int .i64 0, .int .i64 0, .slice none 0 0]), (132, .agg #[.pointer none, .slice none 0 0]), (144, .agg #[.slice none 0 0, .int .i64 0]), (151, .agg #[.int .i64 0, .slice none 0 0, .int .i64 0, .int .i64 0, .slice none 0 0, .slice none 0 0, .int .i64 0, .int .i64 0, .slice none 0 0, .int .i64 0, .int .i64 0, .int .i64 0, .int .i64 0, .int .i64 0, .int .i64 0, .slice none 0 0, .int .i64 0]), (164, .agg #[.slice none 0 0, .int .i64 0, .int .i64 0, .slice none 0 0, .slice none 0 0, .slice none 0 0, .slice none 0 0, .slice none 0 0]), (167, .agg #[.int .i64 0, .int .i64 0, .int .i64 0, .int .i64 0, .int .i64 0, .int .i64 0, .int .i64 0, .int .i64 0]), (169, .agg #[.int .i64 0, .int .i64 0, .int .i64 0, .int .i64 0]), (172, .agg #[.int .i64 0, .int .i64 0, .int .i64 0]), (181, .agg #[.int .i64 0, .int .i64 0, .int .i64 0]), (183, .agg #[.int .i64 0, .int .i64 0, .int .i64 0, .int .i64 0, .int .i64 0]), (195, .nilFunc), (212, .agg #[.string ⟨#[]⟩, .int .i64 0, .int .i64 0, .int .i64 0]), (213, .agg #[.string ⟨#[]⟩, .int .i64 0, .int .i64 0, .int .i64 0, .string ⟨#[]⟩, .int .i64 0, .int .i64 0, .int .i64 0, .string ⟨#[]⟩, .int .i64 0, .int .i64 0, .int .i64 0, .string ⟨#[]⟩, .int .i64 0, .int .i64 0, .int .i64 0]), (224, .agg #[.int .i64 0, .map none, .map none, .map none, .bool false]), (249, .pointer none), (250, .agg #[.nilFunc, .nilFunc, .nilFunc, .nilFunc]), (257, .agg #[.int .i64 0, .int .i64 0, .int .i64 0, .int .i64 0, .slice none 0 0]), (263, .agg #[.int .i64 0, .int .i64 0]), (302, .int .u64 0), (315, .agg #[.int .u8 0, .int .u8 0, .int .u8 0, .int .u8 0, .int .u8 0, .int .u8 0, .int .u8 0, .int .u8 0, .int .u8 0, .int .u8 0, .int .u8 0, .int .u8 0, .int .u8 0, .int .u8 0, .int .u8 0, .int .u8 0, .int .u8 0, .int .u8 0, .int .u8 0, .int .u8 0, .int .u8 0, .int .u8 0, .int .u8 0, .int .u8 0]), (331, .agg #[.string ⟨#[]⟩, .string ⟨#[]⟩, .nilIface]), (334, .agg #[.int .u64 0, .int .u64 0, .int .u64 0, .int .u64 0, .int .u64 0, .int .u64 0, .int .u64 0, .int .u64 0, .int .u64 0, .int .u64 0, .int .u64 0, .int .u64 0, .int .u64 0, .int .u64 0, .int .u64 0, .int .u64 0, .int .u64 0, .int .u64 0, .int .u64 0, .int .u64 0]), (335, .agg #[.int .u8 0, .int .u8 0, .int .u8 0, .int .u8 0, .int .u8 0, .int .u8 0, .int .u8 0, .int .u8 0, .int .u8 0, .int .u8 0, .int .u8 0, .int .u8 0, .int .u8 0, .int .u8 0, .int .u8 0, .int .u8 0, .int .u8 0, .int .u8 0, .int .u8 0, .int .u8 0, .int .u8 0, .int .u8 0, .int .u8 0, .int .u8 0, .int .u8 0, .int .u8 0, .int .u8 0, .int .u8 0, .int .u8 0, .int .u8 0, .int .u8 0, .int .u8 0, .int .u8 0, .int .u8 0, .int .u8 0, .int .u8 0, .int .u8 0, .int .u8 0, .int .u8 0, .int .u8 0, .int .u8 0, .int .u8 0, .int .u8 0, .int .u8 0, .int .u8 0, .int .u8 0, .int .u8 0, .int .u8 0, .int .u8 0, .int .u8 0, .int .u8 0, .int .u8 0, .int .u8 0, .int .u8 0, .int .u8 0, .int .u8 0, .int .u8 0, .int .u8 0, .int .u8 0, .int .u8 0, .int .u8 0, .int .u8 0, .int .u8 0, .int .u8 0, .int .u8 0]), (338, .agg #[.int .u8 0, .int .u8 0]), (339, .agg #[.int .u8 0, .int .u8 0, .int .u8 0, .int .u8 0, .int .u8 0, .int .u8 0, .int .u8 0, .int .u8 0, .int .u8 0, .int .u8 0, .int .u8 0, .int .u8 0, .int .u8 0, .int .u8 0, .int .u8 0, .int .u8 0, .int .u8 0, .int .u8 0, .int .u8 0, .int .u8 0, .int .u8 0, .int .u8 0, .int .u8 0, .int .u8 0, .int .u8 0, .int .u8 0, .int .u8 0, .int .u8 0, .int .u8 0, .int .u8 0, .int .u8 0, .int .u8 0]), (346, .agg #[.string ⟨#[]⟩]), (347, .agg #[.int .u8 0, .int .u8 0, .int .u8 0, .int .u8 0, .int .u8 0, .int .u8 0, .int .u8 0, .int .u8 0, .int .u8 0, .int .u8 0, .int .u8 0, .int .u8 0, .int .u8 0, .int .u8 0, .int .u8 0, .int .u8 0, .int .u8 0, .int .u8 0, .int .u8 0, .int .u8 0, .int .u8 0, .int .u8 0, .int .u8 0, .int .u8 0, .int .u8 0, .int .u8 0, .int .u8 0, .int .u8 0, .int .u8 0, .int .u8 0, .int .u8 0, .int .u8 0]), (348, .agg #[.int .u8 0, .int .u8 0, .int .u8 0, .int .u8 0, .int .u8 0, .int .u8 0, .int .u8 0, .int .u8 0, .int .u8 0, .int .u8 0, .int .u8 0, .int .u8 0, .int .u8 0, .int .u8 0, .int .u8 0, .int .u8 0, .int .u8 0, .int .u8 0, .int .u8 0, .int .u8 0, .int .u8 0, .int .u8 0, .int .u8 0, .int .u8 0, .int .u8 0, .int .u8 0, .int .u8 0, .int .u8 0, .int .u8 0, .int .u8 0, .int .u8 0, .int .u8 0, .int .u8 0, .int .u8 0, .int .u8 0, .int .u8 0, .int .u8 0, .int .u8 0, .int .u8 0, .int .u8 0, .int .u8 0, .int .u8 0, .int .u8 0, .int .u8 0, .int .u8 0, .int .u8 0, .int .u8 0, .int .u8 0, .int .u8 0, .int .u8 0, .int .u8 0, .int .u8 0, .int .u8 0, .int .u8 0, .int .u8 0, .int .u8 0, .int .u8 0, .int .u8 0, .int .u8 0, .int .u8 0, .int .u8 0, .int .u8 0, .int .u8 0, .int .u8 0])].map fun x : Nat × Value => Wi Tryz.prog x.1) = [(3, .int .i64 0), (4, .bool false), (5, .int .u8 0), (9, .string ⟨#[]⟩), (24, .slice none 0 0), (26, .agg #[.int .i64 0, .slice none 0 0, .int .i64 0, .int .i64 0, .slice none 0 0, .slice none 0 0]), (28, .slice none 0 0), (30, .agg #[.int .i64 0, .int .i64 0, .slice none 0 0]), (40, .agg #[.int .i64 0, .int .i64 0, .int .i64 0, .int .i64 0, .int .i64 0]), (61, .agg #[.int .i64 0, .slice none 0 0, .slice none 0 0, .slice none 0 0, .slice none 0 0]), (68, .agg #[.int .i64 0, .int .i64 0, .int .i64 0, .int .i64 0, .int .i64 0, .int .i64 0]), (70, .agg #[.int .i64 0, .int .i64 0, .int .i64 0, .int .i64 0, .int .i64 0, .int .i64 0, .slice none 0 0]), (72, .slice none 0 0), (84, .agg #[.slice none 0 0, .slice none 0 0]), (96, .agg #[.int .i64 0, .int .i64 0, .int .i64 0, .int .i64 0, .slice none 0 0]), (132, .agg #[.pointer none, .slice none 0 0]), (144, .agg #[.slice none 0 0, .int .i64 0]), (151, .agg #[.int .i64 0, .slice none 0 0, .int .i64 0, .int .i64 0, .slice none 0 0, .slice none 0 0, .int .i64 0, .int .i64 0, .slice none 0 0, .int .i64 0, .int .i64 0, .int .i64 0, .int .i64 0, .int .i64 0, .int .i64 0, .slice none 0 0, .int .i64 0]), (164, .agg #[.slice none 0 0, .int .i64 0, .int .i64 0, .slice none 0 0, .slice none 0 0, .slice none 0 0, .slice none 0 0, .slice none 0 0]), (167, .agg #[.int .i64 0, .int .i64 0, .int .i64 0, .int .i64 0, .int .i64 0, .int .i64 0, .int .i64 0, .int .i64 0]), (169, .agg #[.int .i64 0, .int .i64 0, .int .i64 0, .int .i64 0]), (172, .agg #[.int .i64 0, .int .i64 0, .int .i64 0]), (181, .agg #[.int .i64 0, .int .i64 0, .int .i64 0]), (183, .agg #[.int .i64 0, .int .i64 0, .int .i64 0, .int .i64 0, .int .i64 0]), (195, .nilFunc), (212, .agg #[.string ⟨#[]⟩, .int .i64 0, .int .i64 0, .int .i64 0]), (213, .agg #[.string ⟨#[]⟩, .int .i64 0, .int .i64 0, .int .i64 0, .string ⟨#[]⟩, .int .i64 0, .int .i64 0, .int .i64 0, .string ⟨#[]⟩, .int .i64 0, .int .i64 0, .int .i64 0, .string ⟨#[]⟩, .int .i64 0, .int .i64 0, .int .i64 0]), (224, .agg #[.int .i64 0, .map none, .map none, .map none, .bool false]), (249, .pointer none), (250, .agg #[.nilFunc, .nilFunc, .nilFunc, .nilFunc]), (257, .agg #[.int .i64 0, .int .i64 0, .int .i64 0, .int .i64 0, .slice none 0 0]), (263, .agg #[.int .i64 0, .int .i64 0]), (302, .int .u64 0), (315, .agg #[.int .u8 0, .int .u8 0, .int .u8 0, .int .u8 0, .int .u8 0, .int .u8 0, .int .u8 0, .int .u8 0, .int .u8 0, .int .u8 0, .int .u8 0, .int .u8 0, .int .u8 0, .int .u8 0, .int .u8 0, .int .u8 0, .int .u8 0, .int .u8 0, .int .u8 0, .int .u8 0, .int .u8 0, .int .u8 0, .int .u8 0, .int .u8 0]), (331, .agg #[.string ⟨#[]⟩, .string ⟨#[]⟩, .nilIface]), (334, .agg #[.int .u64 0, .int .u64 0, .int .u64 0, .int .u64 0, .int .u64 0, .int .u64 0, .int .u64 0, .int .u64 0, .int .u64 0, .int .u64 0, .int .u64 0, .int .u64 0, .int .u64 0, .int .u64 0, .int .u64 0, .int .u64 0, .int .u64 0, .int .u64 0, .int .u64 0, .int .u64 0]), (335, .agg #[.int .u8 0, .int .u8 0, .int .u8 0, .int .u8 0, .int .u8 0, .int .u8 0, .int .u8 0, .int .u8 0, .int .u8 0, .int .u8 0, .int .u8 0, .int .u8 0, .int .u8 0, .int .u8 0, .int .u8 0, .int .u8 0, .int .u8 0, .int .u8 0, .int .u8 0, .int .u8 0, .int .u8 0, .int .u8 0, .int .u8 0, .int .u8 0, .int .u8 0, .int .u8 0, .int .u8 0, .int .u8 0, .int .u8 0, .int .u8 0, .int .u8 0, .int .u8 0, .int .u8 0, .int .u8 0, .int .u8 0, .int .u8 0, .int .u8 0, .int .u8 0, .int .u8 0, .int .u8 0, .int .u8 0, .int .u8 0, .int .u8 0, .int .u8 0, .int .u8 0, .int .u8 0, .int .u8 0, .int .u8 0, .int .u8 0, .int .u8 0, .int .u8 0, .int .u8 0, .int .u8 0, .int .u8 0, .int .u8 0, .int .u8 0, .int .u8 0, .int .u8 0, .int .u8 0, .int .u8 0, .int .u8 0, .int .u8 0, .int .u8 0, .int .u8 0, .int .u8 0]), (338, .agg #[.int .u8 0, .int .u8 0]), (339, .agg #[.int .u8 0, .int .u8 0, .int .u8 0, .int .u8 0, .int .u8 0, .int .u8 0, .int .u8 0, .int .u8 0, .int .u8 0, .int .u8 0, .int .u8 0, .int .u8 0, .int .u8 0, .int .u8 0, .int .u8 0, .int .u8 0, .int .u8 0, .int .u8 0, .int .u8 0, .int .u8 0, .int .u8 0, .int .u8 0, .int .u8 0, .int .u8 0, .int .u8 0, .int .u8 0, .int .u8 0, .int .u8 0, .int .u8 0, .int .u8 0, .int .u8 0, .int .u8 0]), (346, .agg #[.string ⟨#[]⟩]), (347, .agg #[.int .u8 0, .int .u8 0, .int .u8 0, .int .u8 0, .int .u8 0, .int .u8 0, .int .u8 0, .int .u8 0, .int .u8 0, .int .u8 0, .int .u8 0, .int .u8 0, .int .u8 0, .int .u8 0, .int .u8 0, .int .u8 0, .int .u8 0, .int .u8 0, .int .u8 0, .int .u8 0, .int .u8 0, .int .u8 0, .int .u8 0, .int .u8 0, .int .u8 0, .int .u8 0, .int .u8 0, .int .u8 0, .int .u8 0, .int .u8 0, .int .u8 0, .int .u8 0]), (348, .agg #[.int .u8 0, .int .u8 0, .int .u8 0, .int .u8 0, .int .u8 0, .int .u8 0, .int .u8 0, .int .u8 0, .int .u8 0, .int .u8 0, .int .u8 0, .int .u8 0, .int .u8 0, .int .u8 0, .int .u8 0, .int .u8 0, .int .u8 0, .int .u8 0, .int .u8 0, .int .u8 0, .int .u8 0, .int .u8 0, .int .u8 0, .int .u8 0, .int .u8 0, .int .u8 0, .int .u8 0, .int .u8 0, .int .u8 0, .int .u8 0, .int .u8 0, .int .u8 0, .int .u8 0, .int .u8 0, .int .u8 0, .int .u8 0, .int .u8 0, .int .u8 0, .int .u8 0, .int .u8 0, .int .u8 0, .int .u8 0, .int .u8 0, .int .u8 0, .int .u8 0, .int .u8 0, .int .u8 0, .int .u8 0, .int .u8 0, .int .u8 0, .int .u8 0, .int .u8 0, .int .u8 0, .int .u8 0, .int .u8 0, .int .u8 0, .int .u8 0, .int .u8 0, .int .u8 0, .int .u8 0, .int .u8 0, .int .u8 0, .int .u8 0, .int .u8 0])].map fun x : Nat × Value => some x.2 := by kernel_rfl
theorem Yht : ([(26, [(0, 1), (1, 1), (2, 1), (3, 1), (4, 1), (5, 1)]), (30, [(0, 1), (1, 1), (2, 1)]), (40, [(0, 1), (1, 1), (2, 1), (3, 1), (4, 1)]), (61, [(0, 1), (1, 1), (2, 1), (3, 1), (4, 1)]), (68, [(0, 1), (1, 1), (2, 1), (3, 1), (4, 1), (5, 1)]), (70, [(0, 6), (6, 1)]), (84, [(0, 1), (1, 1)]), (96, [(0, 1), (1, 1), (2, 1), (3, 1), (4, 1)]), (144, [(0, 1), (1, 1)]), (151, [(0, 6), (6, 3), (9, 6), (15, 1), (16, 1)]), (164, [(0, 1), (1, 3), (4, 1), (5, 1), (6, 2)]), (167, [(0, 1), (1, 1), (2, 5), (7, 1)]), (169, [(0, 1), (1, 1), (2, 1), (3, 1)]), (172, [(0, 1), (1, 1), (2, 1)]), (181, [(0, 1), (1, 1), (2, 1)]), (183, [(0, 1), (1, 1), (2, 1), (3, 1), (4, 1)]), (212, [(0, 1), (1, 1), (2, 1), (3, 1)]), (213, [(0, 4), (4, 4), (8, 4), (12, 4)]), (224, [(0, 1), (1, 1), (2, 1), (3, 1), (4, 1)]), (250, [(0, 1), (1, 1), (2, 1), (3, 1)]), (257, [(0, 1), (1, 1), (2, 1), (3, 1), (4, 1)]), (263, [(0, 1), (1, 1)]), (331, [(0, 1), (1, 1), (2, 1)]), (334, [(0, 1), (1, 1), (2, 1), (3, 1), (4, 1), (5, 1), (6, 1), (7, 1), (8, 1), (9, 1), (10, 1), (11, 1), (12, 1), (13, 1), (14, 1), (15, 1), (16, 1), (17, 1), (18, 1), (19, 1)]), (338, [(0, 1), (1, 1)]), (339, [(0, 2), (2, 2), (4, 2), (6, 2), (8, 2), (10, 2), (12, 2), (14, 2), (16, 2), (18, 2), (20, 2), (22, 2), (24, 2), (26, 2), (28, 2), (30, 2)]), (346, [(0, 1)]), (347, [(0, 1), (1, 1), (2, 1), (3, 1), (4, 1), (5, 1), (6, 1), (7, 1), (8, 1), (9, 1), (10, 1), (11, 1), (12, 1), (13, 1), (14, 1), (15, 1), (16, 1), (17, 1), (18, 1), (19, 1), (20, 1), (21, 1), (22, 1), (23, 1), (24, 1), (25, 1), (26, 1), (27, 1), (28, 1), (29, 1), (30, 1), (31, 1)]), (348, [(0, 1), (1, 1), (2, 1), (3, 1), (4, 1), (5, 1), (6, 1), (7, 1), (8, 1), (9, 1), (10, 1), (11, 1), (12, 1), (13, 1), (14, 1), (15, 1), (16, 1), (17, 1), (18, 1), (19, 1), (20, 1), (21, 1), (22, 1), (23, 1), (24, 1), (25, 1), (26, 1), (27, 1), (28, 1), (29, 1), (30, 1), (31, 1), (32, 1), (33, 1), (34, 1), (35, 1), (36, 1), (37, 1), (38, 1), (39, 1), (40, 1), (41, 1), (42, 1), (43, 1), (44, 1), (45, 1), (46, 1), (47, 1), (48, 1), (49, 1), (50, 1), (51, 1), (52, 1), (53, 1), (54, 1), (55, 1), (56, 1), (57, 1), (58, 1), (59, 1), (60, 1), (61, 1), (62, 1), (63, 1)])].map fun x : Nat × List (Nat × Nat) => Ou Tryz.prog x.1) = [(26, [(0, 1), (1, 1), (2, 1), (3, 1), (4, 1), (5, 1)]), (30, [(0, 1), (1, 1), (2, 1)]), (40, [(0, 1), (1, 1), (2, 1), (3, 1), (4, 1)]), (61, [(0, 1), (1, 1), (2, 1), (3, 1), (4, 1)]), (68, [(0, 1), (1, 1), (2, 1), (3, 1), (4, 1), (5, 1)]), (70, [(0, 6), (6, 1)]), (84, [(0, 1), (1, 1)]), (96, [(0, 1), (1, 1), (2, 1), (3, 1), (4, 1)]), (144, [(0, 1), (1, 1)]), (151, [(0, 6), (6, 3), (9, 6), (15, 1), (16, 1)]), (164, [(0, 1), (1, 3), (4, 1), (5, 1), (6, 2)]), (167, [(0, 1), (1, 1), (2, 5), (7, 1)]), (169, [(0, 1), (1, 1), (2, 1), (3, 1)]), (172, [(0, 1), (1, 1), (2, 1)]), (181, [(0, 1), (1, 1), (2, 1)]), (183, [(0, 1), (1, 1), (2, 1), (3, 1), (4, 1)]), (212, [(0, 1), (1, 1), (2, 1), (3, 1)]), (213, [(0, 4), (4, 4), (8, 4), (12, 4)]), (224, [(0, 1), (1, 1), (2, 1), (3, 1), (4, 1)]), (250, [(0, 1), (1, 1), (2, 1), (3, 1)]), (257, [(0, 1), (1, 1), (2, 1), (3, 1), (4, 1)]), (263, [(0, 1), (1, 1)]), (331, [(0, 1), (1, 1), (2, 1)]), (334, [(0, 1), (1, 1), (2, 1), (3, 1), (4, 1), (5, 1), (6, 1), (7, 1), (8, 1), (9, 1), (10, 1), (11, 1), (12, 1), (13, 1), (14, 1), (15, 1), (16, 1), (17, 1), (18, 1), (19, 1)]), (338, [(0, 1), (1, 1)]), (339, [(0, 2), (2, 2), (4, 2), (6, 2), (8, 2), (10, 2), (12, 2), (14, 2), (16, 2), (18, 2), (20, 2), (22, 2), (24, 2), (26, 2), (28, 2), (30, 2)]), (346, [(0, 1)]), (347, [(0, 1), (1, 1), (2, 1), (3, 1), (4, 1), (5, 1), (6, 1), (7, 1), (8, 1), (9, 1), (10, 1), (11, 1), (12, 1), (13, 1), (14, 1), (15, 1), (16, 1), (17, 1), (18, 1), (19, 1), (20, 1), (21, 1), (22, 1), (23, 1), (24, 1), (25, 1), (26, 1), (27, 1), (28, 1), (29, 1), (30, 1), (31, 1)]), (348, [(0, 1), (1, 1), (2, 1), (3, 1), (4, 1), (5, 1), (6, 1), (7, 1), (8, 1), (9, 1), (10, 1), (11, 1), (12, 1), (13, 1), (14, 1), (15, 1), (16, 1), (17, 1), (18, 1), (19, 1), (20, 1), (21, 1), (22, 1), (23, 1), (24, 1), (25, 1), (26, 1), (27, 1), (28, 1), (29, 1), (30, 1), (31, 1), (32, 1), (33, 1), (34, 1), (35, 1), (36, 1), (37, 1), (38, 1), (39, 1), (40, 1), (41, 1), (42, 1), (43, 1), (44, 1), (45, 1), (46, 1), (47, 1), (48, 1), (49, 1), (50, 1), (51, 1), (52, 1), (53, 1), (54, 1), (55, 1), (56, 1), (57, 1), (58, 1), (59, 1), (60, 1), (61, 1), (62, 1), (63, 1)])].map fun x : Nat × List (Nat × Nat) => some x.2 := by kernel_rfl
def T2 : Tab2 Tryz.prog := ⟨_, _, Yg7, Yht⟩
theorem en13 (xs : Array Value) (w : World) : (callFunc 13 xs).run Tryz.prog w = .ok (.enter 13 xs) w := by kernel_rfl
theorem en17 (xs : Array Value) (w : World) : (callFunc 17 xs).run Tryz.prog w = .ok (.enter 17 xs) w := by kernel_rfl
theorem en19 (xs : Array Value) (w : World) : (callFunc 19 xs).run Tryz.prog w = .ok (.enter 19 xs) w := by kernel_rfl
theorem en21 (xs : Array Value) (w : World) : (callFunc 21 xs).run Tryz.prog w = .ok (.enter 21 xs) w := by kernel_rfl
theorem en22 (xs : Array Value) (w : World) : (callFunc 22 xs).run Tryz.prog w = .ok (.enter 22 xs) w := by kernel_rfl
theorem en23 (xs : Array Value) (w : World) : (callFunc 23 xs).run Tryz.prog w = .ok (.enter 23 xs) w := by kernel_rfl
theorem en25 (xs : Array Value) (w : World) : (callFunc 25 xs).run Tryz.prog w = .ok (.enter 25 xs) w := by kernel_rfl
theorem en27 (xs : Array Value) (w : World) : (callFunc 27 xs).run Tryz.prog w = .ok (.enter 27 xs) w := by kernel_rfl
theorem en33 (xs : Array Value) (w : World) : (callFunc 33 xs).run Tryz.prog w = .ok (.enter 33 xs) w := by kernel_rfl
theorem en34 (xs : Array Value) (w : World) : (callFunc 34 xs).run Tryz.prog w = .ok (.enter 34 xs) w := by kernel_rfl
theorem en37 (xs : Array Value) (w : World) : (callFunc 37 xs).run Tryz.prog w = .ok (.enter 37 xs) w := by kernel_rfl
theorem en45 (xs : Array Value) (w : World) : (callFunc 45 xs).run Tryz.prog w = .ok (.enter 45 xs) w := by kernel_rfl
theorem en47 (xs : Array Value) (w : World) : (callFunc 47 xs).run Tryz.prog w = .ok (.enter 47 xs) w := by kernel_rfl
theorem en50 (xs : Array Value) (w : World) : (callFunc 50 xs).run Tryz.prog w = .ok (.enter 50 xs) w := by kernel_rfl
theorem en51 (xs : Array Value) (w : World) : (callFunc 51 xs).run Tryz.prog w = .ok (.enter 51 xs) w := by kernel_rfl
theorem en52 (xs : Array Value) (w : World) : (callFunc 52 xs).run Tryz.prog w = .ok (.enter 52 xs) w := by kernel_rfl
theorem en53 (xs : Array Value) (w : World) : (callFunc 53 xs).run Tryz.prog w = .ok (.enter 53 xs) w := by kernel_rfl
theorem en54 (xs : Array Value) (w : World) : (callFunc 54 xs).run Tryz.prog w = .ok (.enter 54 xs) w := by kernel_rfl
theorem en55 (xs : Array Value) (w : World) : (callFunc 55 xs).run Tryz.prog w = .ok (.enter 55 xs) w := by kernel_rfl
theorem en56 (xs : Array Value) (w : World) : (callFunc 56 xs).run Tryz.prog w = .ok (.enter 56 xs) w := by kernel_rfl
theorem en57 (xs : Array Value) (w : World) : (callFunc 57 xs).run Tryz.prog w = .ok (.enter 57 xs) w := by kernel_rfl
theorem en58 (xs : Array Value) (w : World) : (callFunc 58 xs).run Tryz.prog w = .ok (.enter 58 xs) w := by kernel_rfl
theorem en59 (xs : Array Value) (w : World) : (callFunc 59 xs).run Tryz.prog w = .ok (.enter 59 xs) w := by kernel_rfl
theorem en62 (xs : Array Value) (w : World) : (callFunc 62 xs).run Tryz.prog w = .ok (.enter 62 xs) w := by kernel_rfl
theorem en64 (xs : Array Value) (w : World) : (callFunc 64 xs).run Tryz.prog w = .ok (.enter 64 xs) w := by kernel_rfl
theorem en65 (xs : Array Value) (w : World) : (callFunc 65 xs).run Tryz.prog w = .ok (.enter 65 xs) w := by kernel_rfl
theorem en67 (xs : Array Value) (w : World) : (callFunc 67 xs).run Tryz.prog w = .ok (.enter 67 xs) w := by kernel_rfl
theorem en68 (xs : Array Value) (w : World) : (callFunc 68 xs).run Tryz.prog w = .ok (.enter 68 xs) w := by kernel_rfl
theorem en69 (xs : Array Value) (w : World) : (callFunc 69 xs).run Tryz.prog w = .ok (.enter 69 xs) w := by kernel_rfl
theorem en73 (xs : Array Value) (w : World) : (callFunc 73 xs).run Tryz.prog w = .ok (.enter 73 xs) w := by kernel_rfl
theorem en74 (xs : Array Value) (w : World) : (callFunc 74 xs).run Tryz.prog w = .ok (.enter 74 xs) w := by kernel_rfl
theorem en75 (xs : Array Value) (w : World) : (callFunc 75 xs).run Tryz.prog w = .ok (.enter 75 xs) w := by kernel_rfl
theorem en76 (xs : Array Value) (w : World) : (callFunc 76 xs).run Tryz.prog w = .ok (.enter 76 xs) w := by kernel_rfl
theorem en77 (xs : Array Value) (w : World) : (callFunc 77 xs).run Tryz.prog w = .ok (.enter 77 xs) w := by kernel_rfl
theorem en78 (xs : Array Value) (w : World) : (callFunc 78 xs).run Tryz.prog w = .ok (.enter 78 xs) w := by kernel_rfl
theorem en81 (xs : Array Value) (w : World) : (callFunc 81 xs).run Tryz.prog w = .ok (.enter 81 xs) w := by kernel_rfl
theorem en82 (xs : Array Value) (w : World) : (callFunc 82 xs).run Tryz.prog w = .ok (.enter 82 xs) w := by kernel_rfl
theorem en85 (xs : Array Value) (w : World) : (callFunc 85 xs).run Tryz.prog w = .ok (.enter 85 xs) w := by kernel_rfl
theorem en86 (xs : Array Value) (w : World) : (callFunc 86 xs).run Tryz.prog w = .ok (.enter 86 xs) w := by kernel_rfl
theorem en87 (xs : Array Value) (w : World) : (callFunc 87 xs).run Tryz.prog w = .ok (.enter 87 xs) w := by kernel_rfl
theorem en90 (xs : Array Value) (w : World) : (callFunc 90 xs).run Tryz.prog w = .ok (.enter 90 xs) w := by kernel_rfl
theorem en91 (xs : Array Value) (w : World) : (callFunc 91 xs).run Tryz.prog w = .ok (.enter 91 xs) w := by kernel_rfl
theorem en95 (xs : Array Value) (w : World) : (callFunc 95 xs).run Tryz.prog w = .ok (.enter 95 xs) w := by kernel_rfl
theorem en98 (xs : Array Value) (w : World) : (callFunc 98 xs).run Tryz.prog w = .ok (.enter 98 xs) w := by kernel_rfl
theorem en99 (xs : Array Value) (w : World) : (callFunc 99 xs).run Tryz.prog w = .ok (.enter 99 xs) w := by kernel_rfl
theorem Yda (xs : Array Value) (w : World) : (callFunc 104 xs).run Tryz.prog w = .ok (.enter 104 xs) w := by kernel_rfl
theorem YeY (xs : Array Value) (w : World) : (callFunc 105 xs).run Tryz.prog w = .ok (.enter 105 xs) w := by kernel_rfl
theorem YgV (xs : Array Value) (w : World) : (callFunc 108 xs).run Tryz.prog w = .ok (.enter 108 xs) w := by kernel_rfl
theorem YgZ (xs : Array Value) (w : World) : (callFunc 109 xs).run Tryz.prog w = .ok (.enter 109 xs) w := by kernel_rfl
theorem WB (xs : Array Value) (w : World) : (callFunc 110 xs).run Tryz.prog w = .ok (.enter 110 xs) w := by kernel_rfl
theorem Yc7 (xs : Array Value) (w : World) : (callFunc 111 xs).run Tryz.prog w = .ok (.enter 111 xs) w := by kernel_rfl
theorem ZY (xs : Array Value) (w : World) : (callFunc 112 xs).run Tryz.prog w = .ok (.enter 112 xs) w := by kernel_rfl
theorem ZR (xs : Array Value) (w : World) : (callFunc 113 xs).run Tryz.prog w = .ok (.enter 113 xs) w := by kernel_rfl
theorem U0 (xs : Array Value) (w : World) : (callFunc 114 xs).run Tryz.prog w = .ok (.enter 114 xs) w := by kernel_rfl
theorem VD (xs : Array Value) (w : World) : (callFunc 115 xs).run Tryz.prog w = .ok (.enter 115 xs) w := by kernel_rfl
theorem VF (xs : Array Value) (w : World) : (callFunc 116 xs).run Tryz.prog w = .ok (.enter 116 xs) w := by kernel_rfl
theorem Ydb (xs : Array Value) (w : World) : (callFunc 117 xs).run Tryz.prog w = .ok (.enter 117 xs) w := by kernel_rfl
theorem YgK (xs : Array Value) (w : World) : (callFunc 118 xs).run Tryz.prog w = .ok (.enter 118 xs) w := by kernel_rfl
theorem YgW (xs : Array Value) (w : World) : (callFunc 120 xs).run Tryz.prog w = .ok (.enter 120 xs) w := by kernel_rfl
theorem Ydv (xs : Array Value) (w : World) : (callFunc 121 xs).run Tryz.prog w = .ok (.enter 121 xs) w := by kernel_rfl
theorem YhA (xs : Array Value) (w : World) : (callFunc 122 xs).run Tryz.prog w = .ok (.enter 122 xs) w := by kernel_rfl
theorem Xh (xs : Array Value) (w : World) : (callFunc 126 xs).run Tryz.prog w = .ok (.enter 126 xs) w := by kernel_rfl
theorem Vy (xs : Array Value) (w : World) : (callFunc 129 xs).run Tryz.prog w = .ok (.enter 129 xs) w := by kernel_rfl
theorem YgL (xs : Array Value) (w : World) : (callFunc 130 xs).run Tryz.prog w = .ok (.enter 130 xs) w := by kernel_rfl
theorem Yg1 (xs : Array Value) (w : World) : (callFunc 131 xs).run Tryz.prog w = .ok (.enter 131 xs) w := by kernel_rfl
theorem JI (xs : Array Value) (w : World) : (callFunc 132 xs).run Tryz.prog w = .ok (.enter 132 xs) w := by kernel_rfl
theorem Wu (xs : Array Value) (w : World) : (callFunc 133 xs).run Tryz.prog w = .ok (.enter 133 xs) w := by kernel_rfl
theorem YgN (xs : Array Value) (w : World) : (callFunc 134 xs).run Tryz.prog w = .ok (.enter 134 xs) w := by kernel_rfl
theorem Wj (xs : Array Value) (w : World) : (callFunc 135 xs).run Tryz.prog w = .ok (.enter 135 xs) w := by kernel_rfl
theorem YhG (xs : Array Value) (w : World) : (callFunc 136 xs).run Tryz.prog w = .ok (.enter 136 xs) w := by kernel_rfl
theorem Q5 (xs : Array Value) (w : World) : (callFunc 137 xs).run Tryz.prog w = .ok (.enter 137 xs) w := by kernel_rfl
theorem Zf (xs : Array Value) (w : World) : (callFunc 142 xs).run Tryz.prog w = .ok (.enter 142 xs) w := by kernel_rfl
theorem YhD (xs : Array Value) (w : World) : (callFunc 143 xs).run Tryz.prog w = .ok (.enter 143 xs) w := by kernel_rfl
theorem Ydm (xs : Array Value) (w : World) : (callFunc 144 xs).run Tryz.prog w = .ok (.enter 144 xs) w := by kernel_rfl
theorem YhL (xs : Array Value) (w : World) : (callFunc 145 xs).run Tryz.prog w = .ok (.enter 145 xs) w := by kernel_rfl
theorem Yan (xs : Array Value) (w : World) : (callFunc 148 xs).run Tryz.prog w = .ok (.enter 148 xs) w := by kernel_rfl
theorem YgP (xs : Array Value) (w : World) : (callFunc 149 xs).run Tryz.prog w = .ok (.enter 149 xs) w := by kernel_rfl
theorem Yal (xs : Array Value) (w : World) : (callFunc 155 xs).run Tryz.prog w = .ok (.enter 155 xs) w := by kernel_rfl
theorem YgQ (xs : Array Value) (w : World) : (callFunc 158 xs).run Tryz.prog w = .ok (.enter 158 xs) w := by kernel_rfl
theorem Yfb (xs : Array Value) (w : World) : (callFunc 159 xs).run Tryz.prog w = .ok (.enter 159 xs) w := by kernel_rfl
theorem Yff (xs : Array Value) (w : World) : (callFunc 160 xs).run Tryz.prog w = .ok (.enter 160 xs) w := by kernel_rfl
theorem YhB (xs : Array Value) (w : World) : (callFunc 161 xs).run Tryz.prog w = .ok (.enter 161 xs) w := by kernel_rfl
theorem Yh2 (xs : Array Value) (w : World) : (callFunc 162 xs).run Tryz.prog w = .ok (.enter 162 xs) w := by kernel_rfl
theorem YhV (xs : Array Value) (w : World) : (callFunc 163 xs).run Tryz.prog w = .ok (.enter 163 xs) w := by kernel_rfl
theorem Ydd (xs : Array Value) (w : World) : (callFunc 164 xs).run Tryz.prog w = .ok (.enter 164 xs) w := by kernel_rfl
theorem Yc8 (xs : Array Value) (w : World) : (callFunc 165 xs).run Tryz.prog w = .ok (.enter 165 xs) w := by kernel_rfl
theorem Yab (xs : Array Value) (w : World) : (callFunc 166 xs).run Tryz.prog w = .ok (.enter 166 xs) w := by kernel_rfl
theorem YhH (xs : Array Value) (w : World) : (callFunc 167 xs).run Tryz.prog w = .ok (.enter 167 xs) w := by kernel_rfl
theorem Ydc (xs : Array Value) (w : World) : (callFunc 168 xs).run Tryz.prog w = .ok (.enter 168 xs) w := by kernel_rfl
theorem YgS (xs : Array Value) (w : World) : (callFunc 169 xs).run Tryz.prog w = .ok (.enter 169 xs) w := by kernel_rfl
theorem YhR (xs : Array Value) (w : World) : (callFunc 170 xs).run Tryz.prog w = .ok (.enter 170 xs) w := by kernel_rfl
theorem Ydy (xs : Array Value) (w : World) : (callFunc 171 xs).run Tryz.prog w = .ok (.enter 171 xs) w := by kernel_rfl
theorem YhZ (xs : Array Value) (w : World) : (callFunc 172 xs).run Tryz.prog w = .ok (.enter 172 xs) w := by kernel_rfl
theorem U4 (xs : Array Value) (w : World) : (callFunc 173 xs).run Tryz.prog w = .ok (.enter 173 xs) w := by kernel_rfl
theorem YgM (xs : Array Value) (w : World) : (callFunc 174 xs).run Tryz.prog w = .ok (.enter 174 xs) w := by kernel_rfl
theorem YgI (xs : Array Value) (w : World) : (callFunc 175 xs).run Tryz.prog w = .ok (.enter 175 xs) w := by kernel_rfl
theorem YgO (xs : Array Value) (w : World) : (callFunc 178 xs).run Tryz.prog w = .ok (.enter 178 xs) w := by kernel_rfl
theorem Xg (xs : Array Value) (w : World) : (callFunc 195 xs).run Tryz.prog w = .ok (.enter 195 xs) w := by kernel_rfl
theorem YhP (xs : Array Value) (w : World) : (callFunc 201 xs).run Tryz.prog w = .ok (.enter 201 xs) w := by kernel_rfl
theorem Yhz (xs : Array Value) (w : World) : (callFunc 202 xs).run Tryz.prog w = .ok (.enter 202 xs) w := by kernel_rfl
theorem YhF (xs : Array Value) (w : World) : (callFunc 203 xs).run Tryz.prog w = .ok (.enter 203 xs) w := by kernel_rfl
theorem Yc6 (xs : Array Value) (w : World) : (callFunc 205 xs).run Tryz.prog w = .ok (.enter 205 xs) w := by kernel_rfl
theorem YgY (xs : Array Value) (w : World) : (callFunc 206 xs).run Tryz.prog w = .ok (.enter 206 xs) w := by kernel_rfl
theorem YhJ (xs : Array Value) (w : World) : (callFunc 207 xs).run Tryz.prog w = .ok (.enter 207 xs) w := by kernel_rfl
theorem Ydf (xs : Array Value) (w : World) : (callFunc 208 xs).run Tryz.prog w = .ok (.enter 208 xs) w := by kernel_rfl
theorem YhW (xs : Array Value) (w : World) : (callFunc 214 xs).run Tryz.prog w = .ok (.enter 214 xs) w := by kernel_rfl
theorem YgJ (xs : Array Value) (w : World) : (callFunc 227 xs).run Tryz.prog w = .ok (.enter 227 xs) w := by kernel_rfl
theorem Yg2 (xs : Array Value) (w : World) : (callFunc 228 xs).run Tryz.prog w = .ok (.enter 228 xs) w := by kernel_rfl
theorem QU (xs : Array Value) (w : World) : (callFunc 229 xs).run Tryz.prog w = .ok (.enter 229 xs) w := by kernel_rfl
theorem YhM (xs : Array Value) (w : World) : (callFunc 238 xs).run Tryz.prog w = .ok (.enter 238 xs) w := by kernel_rfl
theorem QX (xs : Array Value) (w : World) : (callFunc 244 xs).run Tryz.prog w = .ok (.enter 244 xs) w := by kernel_rfl
theorem Yh1 (xs : Array Value) (w : World) : (callFunc 245 xs).run Tryz.prog w = .ok (.enter 245 xs) w := by kernel_rfl
theorem Ydk (xs : Array Value) (w : World) : (callFunc 246 xs).run Tryz.prog w = .ok (.enter 246 xs) w := by kernel_rfl
theorem YhO (xs : Array Value) (w : World) : (callFunc 247 xs).run Tryz.prog w = .ok (.enter 247 xs) w := by kernel_rfl
theorem Yg0 (xs : Array Value) (w : World) : (callFunc 248 xs).run Tryz.prog w = .ok (.enter 248 xs) w := by kernel_rfl
theorem YhQ (xs : Array Value) (w : World) : (callFunc 249 xs).run Tryz.prog w = .ok (.enter 249 xs) w := by kernel_rfl
theorem YgT (xs : Array Value) (w : World) : (callFunc 284 xs).run Tryz.prog w = .ok (.enter 284 xs) w := by kernel_rfl
theorem YgR (xs : Array Value) (w : World) : (callFunc 285 xs).run Tryz.prog w = .ok (.enter 285 xs) w := by kernel_rfl
theorem YhS (xs : Array Value) (w : World) : (callFunc 286 xs).run Tryz.prog w = .ok (.enter 286 xs) w := by kernel_rfl
theorem YhE (xs : Array Value) (w : World) : (callFunc 287 xs).run Tryz.prog w = .ok (.enter 287 xs) w := by kernel_rfl
theorem z3 (w : World) : (zeroValue 3).run Tryz.prog w = .ok (.int .i64 0) w := by kernel_rfl
theorem z4 (w : World) : (zeroValue 4).run Tryz.prog w = .ok (.bool false) w := by kernel_rfl
theorem z70 (w : World) : (zeroValue 70).run Tryz.prog w = .ok (.agg #[.int .i64 0, .int .i64 0, .int .i64 0, .int .i64 0, .int .i64 0, .int .i64 0, .slice none 0 0]) w := by kernel_rfl
theorem z72 (w : World) : (zeroValue 72).run Tryz.prog w = .ok (.slice none 0 0) w := by kernel_rfl
theorem z167 (w : World) : (zeroValue 167).run Tryz.prog w = .ok (.agg #[.int .i64 0, .int .i64 0, .int .i64 0, .int .i64 0, .int .i64 0, .int .i64 0, .int .i64 0, .int .i64 0]) w := by kernel_rfl
theorem z212 (w : World) : (zeroValue 212).run Tryz.prog w = .ok (.agg #[.string ⟨#[]⟩, .int .i64 0, .int .i64 0, .int .i64 0]) w := by kernel_rfl
theorem z213 (w : World) : (zeroValue 213).run Tryz.prog w = .ok (.agg #[.string ⟨#[]⟩, .int .i64 0, .int .i64 0, .int .i64 0, .string ⟨#[]⟩, .int .i64 0, .int .i64 0, .int .i64 0, .string ⟨#[]⟩, .int .i64 0, .int .i64 0, .int .i64 0, .string ⟨#[]⟩, .int .i64 0, .int .i64 0, .int .i64 0]) w := by kernel_rfl
end Go.Proofs.YtmalhidldgfeoaaGreatDoor
namespace Go.Eng
open Go.RowKit Go.Proofs Go.Proofs.YtmalhidldgfeoaaGreatDoor
section
variable {m : Mode} {n : Shp} {B : Nat} {w0 : World} {ops : Array Oper} {Q : Exit → Act → World → Prop} {rest : List Oper} {env : Env} {H : List HP} {d : Nat} {ty : TypeId} {pos : String} {after : Array Edge} {xt yt : TypeId} {x y : Operand} {k : IntKind} {a b : Int} {s t : ByteArray}
theorem zs1 {x : Operand} {v : Value} (h : VL Tryz.prog m n B w0 ops Q rest ((d, v) :: env) H) (hx : evo env x = some v := by exact rfl) (hn : Nat.ble (d + 1) n.k = true := by exact rfl) : VL Tryz.prog m n B w0 ops Q (⟨some d, .move x, ty, pos, after, none⟩ :: rest) env H := Ygp hx hn h
theorem zs2 {x : Operand} {v : Value} (h : VL Tryz.prog m n B w0 ops Q rest ((d, v) :: env) H) (hx : evo env x = some v := by exact rfl) (hn : Nat.ble (d + 1) n.k = true := by exact rfl) : VL Tryz.prog m n B w0 ops Q (⟨some d, .assign x, ty, pos, after, none⟩ :: rest) env H := Yea hx hn h
theorem zs3 {m : Mode} {d : Nat} {op : Op} {ty : TypeId} {pos : String} {after : Array Edge} {j s : Nat} {b : Bool} {v : Value} {oj : Oper} (h : VL Tryz.prog m n B w0 ops Q rest ((d, undef) :: env) H) (hj : ops[j]? = some oj := by exact rfl) (hs : oj.dst = some s := by exact rfl) (hv : get env s = some v := by exact rfl) (hne : notB v b = true := by exact rfl) (hn : Nat.ble (d + 1) n.k = true := by exact rfl) : VL Tryz.prog m n B w0 ops Q (⟨some d, op, ty, pos, after, some (j, b)⟩ :: rest) env H := Ycf hj hs hv hne hn h
theorem zs4 {m : Mode} {dst : Option Tmp} {op : Op} {ty : TypeId} {pos : String} {after : Array Edge} {j s : Nat} {b : Bool} {oj : Oper} (h : VL Tryz.prog m n B w0 ops Q (⟨dst, op, ty, pos, after, none⟩ :: rest) env H) (hj : ops[j]? = some oj := by exact rfl) (hs : oj.dst = some s := by exact rfl) (hv : get env s = some (.bool b) := by exact rfl) : VL Tryz.prog m n B w0 ops Q (⟨dst, op, ty, pos, after, some (j, b)⟩ :: rest) env H := YaM hj hs hv h
theorem zs5 {x : Operand} {p : Addr} (h : VL Tryz.prog m n B w0 ops Q rest ((d, .pointer (some p)) :: env) H) (hx : evo env x = some (.pointer (some p)) := by exact rfl) (hn : Nat.ble (d + 1) n.k = true := by exact rfl) : VL Tryz.prog m n B w0 ops Q (⟨some d, .nilCheck x, ty, pos, after, none⟩ :: rest) env H := Wd hx hn h
theorem zs6 {s f k g i : Nat} {x : Operand} (h : VL Tryz.prog m n B w0 ops Q rest ((d, .pointer (some ⟨g, i + k, none⟩)) :: env) H) (hx : evo env x = some (.pointer (some ⟨g, i, none⟩)) := by exact rfl) (hf : Vi T.fo s f = some k := by exact rfl) (hn : Nat.ble (d + 1) n.k = true := by exact rfl) : VL Tryz.prog m n B w0 ops Q (⟨some d, .fieldAddr s x f, ty, pos, after, none⟩ :: rest) env H := YaA T hx hf hn h
theorem zs7 {t g i : Nat} {cs : Array Value} {tt : TypeId} {fr : Nat × Nat} {v : Value} {x : Operand} (h : VL Tryz.prog m n B w0 ops Q rest ((d, v) :: env) H) (hx : evo env x = some (.pointer (some ⟨g, i, none⟩)) := by exact rfl) (hm : blk g (.cells cs tt fr) ∈ H := by (exact zm; done)) (hv : nth cs.toList i = some v := by exact rfl) (ht : look T.sc t = some () := by exact rfl) (hn : Nat.ble (d + 1) n.k = true := by exact rfl) : VL Tryz.prog m n B w0 ops Q (⟨some d, .load t x, ty, pos, after, none⟩ :: rest) env H := Yf4 T hx hm hv ht hn h
theorem zs8 {t g k : Nat} {cs : Array Value} {tt : TypeId} {fr : Nat × Nat} {x : Operand} (h : VL Tryz.prog m n B w0 ops Q rest ((d, .agg cs) :: env) H) (hx : evo env x = some (.pointer (some ⟨g, 0, none⟩)) := by exact rfl) (hm : blk g (.cells cs tt fr) ∈ H := by (exact zm; done)) (ht : look T.ag t = some k := by exact rfl) (hk : cs.size = k := by exact rfl) (hn : Nat.ble (d + 1) n.k = true := by exact rfl) : VL Tryz.prog m n B w0 ops Q (⟨some d, .load t x, ty, pos, after, none⟩ :: rest) env H := QE T hx hm ht hk hn h
theorem zs9 {tx : Nat} {x : Operand} {A : Option Addr} {k cap : Nat} {es : Nat × Nat × Nat} (h : VL Tryz.prog m n B w0 ops Q rest ((d, .int .i64 k) :: env) H) (hx : evo env x = some (.slice A k cap) := by exact rfl) (ht : look T.sl tx = some es := by exact rfl) (hn : Nat.ble (d + 1) n.k = true := by exact rfl) : VL Tryz.prog m n B w0 ops Q (⟨some d, .call ⟨.builtin .len, #[x], #[tx]⟩, ty, pos, after, none⟩ :: rest) env H := Yhj T hx ht hn h
theorem zs10 {t : Nat} {x y : Operand} {A : Option Addr} {k cap : Nat} {xs : List Value} {e size bytes : Nat} {ki : IntKind} {i : Int} (h : VL Tryz.prog m n B w0 ops Q rest ((d, sptr A (i.toNat * size)) :: env) H) (hx : evo env x = some (.slice A k cap) := by exact rfl) (hm : sl e size A k cap xs ∈ H := by (exact zm; done)) (hy : evo env y = some (.int ki i) := by exact rfl) (ht : look T.sl t = some (e, size, bytes) := by exact rfl) (hn : Nat.ble (d + 1) n.k = true := by exact rfl) (hi : 0 ≤ i ∧ i < k := by omega) : VL Tryz.prog m n B w0 ops Q (⟨some d, .indexAddr t x y, ty, pos, after, none⟩ :: rest) env H := Ybp T hx hm hy ht hn hi h
theorem zs11 {c x y : Operand} {v : Value} (h : VL Tryz.prog m n B w0 ops Q rest ((d, v) :: env) H) (hc : evo env c = some (.bool true) := by exact rfl) (hx : evo env x = some v := by exact rfl) (hn : Nat.ble (d + 1) n.k = true := by exact rfl) : VL Tryz.prog m n B w0 ops Q (⟨some d, .pick c x y, ty, pos, after, none⟩ :: rest) env H := YaX hc hx hn h
theorem zs12 {c x y : Operand} {v : Value} (h : VL Tryz.prog m n B w0 ops Q rest ((d, v) :: env) H) (hc : evo env c = some (.bool false) := by exact rfl) (hx : evo env y = some v := by exact rfl) (hn : Nat.ble (d + 1) n.k = true := by exact rfl) : VL Tryz.prog m n B w0 ops Q (⟨some d, .pick c x y, ty, pos, after, none⟩ :: rest) env H := Qq hc hx hn h
theorem zs13 {x : Operand} {i : Nat} {vs : Array Value} {v : Value} (h : VL Tryz.prog m n B w0 ops Q rest ((d, v) :: env) H) (hx : evo env x = some (.tuple vs) := by exact rfl) (hv : nth vs.toList i = some v := by exact rfl) (hn : Nat.ble (d + 1) n.k = true := by exact rfl) : VL Tryz.prog m n B w0 ops Q (⟨some d, .extract x i, ty, pos, after, none⟩ :: rest) env H := Ycx hx hv hn h
theorem zs14 {tx : TypeId} (h : VL Tryz.prog m n B w0 ops Q rest ((d, .int .i64 s.size) :: env) H) (hx : evo env x = some (.string s) := by exact rfl) (ht : look T.st tx = some () := by exact rfl) (hn : Nat.ble (d + 1) n.k = true := by exact rfl) : VL Tryz.prog m n B w0 ops Q (⟨some d, .call ⟨.builtin .len, #[x], #[tx]⟩, ty, pos, after, none⟩ :: rest) env H := Yf0 T hx ht hn h
theorem zs15  (h1 : a = b → VL Tryz.prog m n B w0 ops Q rest ((d, .bool true) :: env) H) (h2 : a ≠ b → VL Tryz.prog m n B w0 ops Q rest ((d, .bool false) :: env) H) (hx : evo env x = some (.int k a) := by exact rfl) (hy : evo env y = some (.int k b) := by exact rfl) (hn : Nat.ble (d + 1) n.k = true := by exact rfl) : VL Tryz.prog m n B w0 ops Q (⟨some d, .binOp .eql xt x y yt, ty, pos, after, none⟩ :: rest) env H := Yhs hx hy hn h1 h2
theorem zs16  (h1 : a ≠ b → VL Tryz.prog m n B w0 ops Q rest ((d, .bool true) :: env) H) (h2 : a = b → VL Tryz.prog m n B w0 ops Q rest ((d, .bool false) :: env) H) (hx : evo env x = some (.int k a) := by exact rfl) (hy : evo env y = some (.int k b) := by exact rfl) (hn : Nat.ble (d + 1) n.k = true := by exact rfl) : VL Tryz.prog m n B w0 ops Q (⟨some d, .binOp .neq xt x y yt, ty, pos, after, none⟩ :: rest) env H := Yhy hx hy hn h1 h2
theorem zs17  (h1 : a < b → VL Tryz.prog m n B w0 ops Q rest ((d, .bool true) :: env) H) (h2 : b ≤ a → VL Tryz.prog m n B w0 ops Q rest ((d, .bool false) :: env) H) (hx : evo env x = some (.int k a) := by exact rfl) (hy : evo env y = some (.int k b) := by exact rfl) (hn : Nat.ble (d + 1) n.k = true := by exact rfl) : VL Tryz.prog m n B w0 ops Q (⟨some d, .binOp .lss xt x y yt, ty, pos, after, none⟩ :: rest) env H := Yg8 hx hy hn h1 h2
theorem zs18  (h1 : a ≤ b → VL Tryz.prog m n B w0 ops Q rest ((d, .bool true) :: env) H) (h2 : b < a → VL Tryz.prog m n B w0 ops Q rest ((d, .bool false) :: env) H) (hx : evo env x = some (.int k a) := by exact rfl) (hy : evo env y = some (.int k b) := by exact rfl) (hn : Nat.ble (d + 1) n.k = true := by exact rfl) : VL Tryz.prog m n B w0 ops Q (⟨some d, .binOp .leq xt x y yt, ty, pos, after, none⟩ :: rest) env H := Yhx hx hy hn h1 h2
theorem zs19  (h1 : b < a → VL Tryz.prog m n B w0 ops Q rest ((d, .bool true) :: env) H) (h2 : a ≤ b → VL Tryz.prog m n B w0 ops Q rest ((d, .bool false) :: env) H) (hx : evo env x = some (.int k a) := by exact rfl) (hy : evo env y = some (.int k b) := by exact rfl) (hn : Nat.ble (d + 1) n.k = true := by exact rfl) : VL Tryz.prog m n B w0 ops Q (⟨some d, .binOp .gtr xt x y yt, ty, pos, after, none⟩ :: rest) env H := Yhm hx hy hn h1 h2
theorem zs20  (h1 : b ≤ a → VL Tryz.prog m n B w0 ops Q rest ((d, .bool true) :: env) H) (h2 : a < b → VL Tryz.prog m n B w0 ops Q rest ((d, .bool false) :: env) H) (hx : evo env x = some (.int k a) := by exact rfl) (hy : evo env y = some (.int k b) := by exact rfl) (hn : Nat.ble (d + 1) n.k = true := by exact rfl) : VL Tryz.prog m n B w0 ops Q (⟨some d, .binOp .geq xt x y yt, ty, pos, after, none⟩ :: rest) env H := Yho hx hy hn h1 h2
theorem zs25 {x y : Operand} {k : IntKind} {a b : Int} {tys : Array TypeId} (h1 : b < a → VL Tryz.prog m n B w0 ops Q rest ((d, .int k b) :: env) H) (h2 : a ≤ b → VL Tryz.prog m n B w0 ops Q rest ((d, .int k a) :: env) H) (hx : evo env x = some (.int k a) := by exact rfl) (hy : evo env y = some (.int k b) := by exact rfl) (hn : Nat.ble (d + 1) n.k = true := by exact rfl) : VL Tryz.prog m n B w0 ops Q (⟨some d, .call ⟨.builtin .min, #[x, y], tys⟩, ty, pos, after, none⟩ :: rest) env H := Yf8 hx hy hn h1 h2
theorem zs30  (h : VL Tryz.prog m n B w0 ops Q rest ((d, .int .i64 (a + b)) :: env) H) (hx : evo env x = some (.int .i64 a) := by exact rfl) (hy : evo env y = some (.int .i64 b) := by exact rfl) (hn : Nat.ble (d + 1) n.k = true := by exact rfl) (hb : -9223372036854775808 ≤ a + b ∧ a + b ≤ 9223372036854775807 := by omega) : VL Tryz.prog m n B w0 ops Q (⟨some d, .binOp .add xt x y yt, ty, pos, after, none⟩ :: rest) env H := Yhe hx hy hn hb h
theorem zs31  (h : VL Tryz.prog m n B w0 ops Q rest ((d, .int .i64 (a - b)) :: env) H) (hx : evo env x = some (.int .i64 a) := by exact rfl) (hy : evo env y = some (.int .i64 b) := by exact rfl) (hn : Nat.ble (d + 1) n.k = true := by exact rfl) (hb : -9223372036854775808 ≤ a - b ∧ a - b ≤ 9223372036854775807 := by omega) : VL Tryz.prog m n B w0 ops Q (⟨some d, .binOp .sub xt x y yt, ty, pos, after, none⟩ :: rest) env H := Yhi hx hy hn hb h
theorem zs32  (h : VL Tryz.prog m n B w0 ops Q rest ((d, .int .i64 (a * b)) :: env) H) (hx : evo env x = some (.int .i64 a) := by exact rfl) (hy : evo env y = some (.int .i64 b) := by exact rfl) (hn : Nat.ble (d + 1) n.k = true := by exact rfl) (hb : -9223372036854775808 ≤ a * b ∧ a * b ≤ 9223372036854775807 := by first | exact Yfo (by omega) (by omega) (by omega) (by omega) | exact Ygn (by omega) (by omega) (by omega) (by omega) | omega) : VL Tryz.prog m n B w0 ops Q (⟨some d, .binOp .mul xt x y yt, ty, pos, after, none⟩ :: rest) env H := Yhp hx hy hn hb h
theorem zs37  (h : VL Tryz.prog m n B w0 ops Q rest ((d, .int k (a % b)) :: env) H) (hx : evo env x = some (.int k a) := by exact rfl) (hy : evo env y = some (.int k b) := by exact rfl) (hn : Nat.ble (d + 1) n.k = true := by exact rfl) (hb : 0 ≤ a ∧ 1 ≤ b := by omega) : VL Tryz.prog m n B w0 ops Q (⟨some d, .binOp .rem xt x y yt, ty, pos, after, none⟩ :: rest) env H := Yg6 hx hy hn hb h
theorem zs38 {yk : IntKind} {D : Int} (h : VL Tryz.prog m n B w0 ops Q rest ((d, .int k (a / D)) :: env) H) (hx : evo env x = some (.int k a) := by exact rfl) (hn : Nat.ble (d + 1) n.k = true := by exact rfl) (hb : 0 ≤ b ∧ b ≤ k.bits := by (simp only [IntKind.bits]; omega)) (hD : (2 : Int) ^ b.toNat = D := by (simp only [Int.reduceToNat, Int.reducePow]; rfl)) : VL Tryz.prog m n B w0 ops Q (⟨some d, .binOp .shr xt x (.const (.int yk b)) yt, ty, pos, after, none⟩ :: rest) env H := YfN hx hn hb hD h
theorem zs44 {src dst : TypeId} {j : IntKind} (h : VL Tryz.prog m n B w0 ops Q rest ((d, .int .i64 a) :: env) H) (hx : evo env x = some (.int k a) := by exact rfl) (hs : look T.ik src = some j := by exact rfl) (ht : look T.ik dst = some .i64 := by exact rfl) (hn : Nat.ble (d + 1) n.k = true := by exact rfl) (hb : -9223372036854775808 ≤ a ∧ a ≤ 9223372036854775807 := by omega) : VL Tryz.prog m n B w0 ops Q (⟨some d, .convert src dst x, ty, pos, after, none⟩ :: rest) env H := Ycw T hx hs ht hn hb h
theorem zs45 {src dst : TypeId} {j : IntKind} (h : VL Tryz.prog m n B w0 ops Q rest ((d, .int .u64 a) :: env) H) (hx : evo env x = some (.int k a) := by exact rfl) (hs : look T.ik src = some j := by exact rfl) (ht : look T.ik dst = some .u64 := by exact rfl) (hn : Nat.ble (d + 1) n.k = true := by exact rfl) (hb : 0 ≤ a ∧ a ≤ 18446744073709551615 := by omega) : VL Tryz.prog m n B w0 ops Q (⟨some d, .convert src dst x, ty, pos, after, none⟩ :: rest) env H := Ycl T hx hs ht hn hb h
theorem zs47 {x : Operand} {xt : TypeId} (h : VL Tryz.prog m n B w0 ops Q rest ((d, .bool false) :: env) H) (hx : evo env x = some (.bool true) := by exact rfl) (hn : Nat.ble (d + 1) n.k = true := by exact rfl) : VL Tryz.prog m n B w0 ops Q (⟨some d, .unOp .not xt x, ty, pos, after, none⟩ :: rest) env H := Ya8 hx hn h
theorem zs48 {x : Operand} {xt : TypeId} (h : VL Tryz.prog m n B w0 ops Q rest ((d, .bool true) :: env) H) (hx : evo env x = some (.bool false) := by exact rfl) (hn : Nat.ble (d + 1) n.k = true := by exact rfl) : VL Tryz.prog m n B w0 ops Q (⟨some d, .unOp .not xt x, ty, pos, after, none⟩ :: rest) env H := Yax hx hn h
theorem zs49 {t tt : Nat} {x y : Operand} {A : Option Addr} {k cap : Nat} {xs : List Value} {g mm c : Nat} {cs : Array Value} {fr : Nat × Nat} {e size bytes : Nat} {K : Option Addr → Nat → List HP} (h : ∀ A' cap', VL Tryz.prog none n B w0 ops Q rest ((d, .slice A' (k + mm) cap') :: env) (K A' cap')) (hx : evo env x = some (.slice A k cap) := by exact rfl) (ht : look T.sl t = some (e, size, bytes) := by exact rfl) (hy : evo env y = some (.slice (some ⟨g, 0, none⟩) mm c) := by exact rfl) (hb : blk g (.cells cs tt fr) ∈ H := by (exact zm; done)) (hk : cs.size = mm * size := by exact rfl) (h1 : ZB cs.toList = true := by exact rfl) (hn : Nat.ble (d + 1) n.k = true := by exact rfl) (hu : ∀ A' cap', Upd (sl e size A k cap xs) (sl e size A' (k + mm) cap' (xs ++ cs.toList)) H (K A' cap') := by ((intro _ _; exact zd); done)) (hby : (k + mm) * bytes ≤ 140737488355328 := by omega) : VL Tryz.prog none n B w0 ops Q (⟨some d, .call ⟨.builtin .append, #[x, y], #[t, t]⟩, ty, pos, after, none⟩ :: rest) env H := Yeu T hx ht hy hb hk h1 hn hu hby h
theorem zs50 {t g i : Nat} {cs cs' : List Value} {tt : TypeId} {v : Value} {x y : Operand} {K : List HP} (h : VL Tryz.prog none n B w0 ops Q rest env K) (hx : evo env x = some (.pointer (some ⟨g, i, none⟩)) := by exact rfl) (hy : evo env y = some v := by exact rfl) (h1 : v.oneCell' = true := by exact rfl) (hu : Upd (blk g (.cells cs.toArray tt (0, 0))) (blk g (.cells cs'.toArray tt (0, 0))) H K := by (exact zd; done)) (hs : Q7 cs i v cs' := by (exact zt ; done)) (ht : look T.sc t = some () := by exact rfl) : VL Tryz.prog none n B w0 ops Q (⟨none, .store t x y, ty, pos, after, none⟩ :: rest) env H := Yfx T hx hy h1 hu hs ht h
theorem zs51 {t g i k : Nat} {cs vs cs' : List Value} {tt : TypeId} {x y : Operand} {K : List HP} (h : VL Tryz.prog none n B w0 ops Q rest env K) (hx : evo env x = some (.pointer (some ⟨g, i, none⟩)) := by exact rfl) (hy : evo env y = some (.agg vs.toArray) := by exact rfl) (h1 : ZB vs = true := by exact rfl) (hu : Upd (blk g (.cells cs.toArray tt (0, 0))) (blk g (.cells cs'.toArray tt (0, 0))) H K := by (exact zd; done)) (hs : PutAt cs i vs cs' := by ((repeat (first | exact PutAt.nil | (apply PutAt.cons; exact zt ))) ; done)) (ht : look T.ag t = some k := by exact rfl) (hk : vs.length = k := by exact rfl) : VL Tryz.prog none n B w0 ops Q (⟨none, .store t x y, ty, pos, after, none⟩ :: rest) env H := YaF T hx hy h1 hu hs ht hk h
theorem zs52 {t : TypeId} {x : Operand} {cs : Array Value} (h : ∀ g, VL Tryz.prog none n B w0 ops Q rest ((d, .pointer (some ⟨g, 0, none⟩)) :: env) (blk g (.cells cs t (0, 0)) :: H)) (hx : evo env x = some (.agg cs) := by exact rfl) (hn : Nat.ble (d + 1) n.k = true := by exact rfl) : VL Tryz.prog none n B w0 ops Q (⟨some d, .box t x, ty, pos, after, none⟩ :: rest) env H := XV hx hn h
theorem zs53 {t : TypeId} {x : Operand} {v : Value} (h : ∀ g, VL Tryz.prog none n B w0 ops Q rest ((d, .pointer (some ⟨g, 0, none⟩)) :: env) (blk g (.cells #[v] t (0, 0)) :: H)) (hx : evo env x = some v := by exact rfl) (h1 : v.cells = #[v] := by exact rfl) (hn : Nat.ble (d + 1) n.k = true := by exact rfl) : VL Tryz.prog none n B w0 ops Q (⟨some d, .box t x, ty, pos, after, none⟩ :: rest) env H := YcR hx h1 hn h
theorem zs54 {t : TypeId} {z : Value} {cs : Array Value} (h : ∀ g, VL Tryz.prog none n B w0 ops Q rest ((d, .pointer (some ⟨g, 0, none⟩)) :: env) (blk g (.cells cs t (0, 0)) :: H)) (hz : look T2.zt t = some z := by exact rfl) (hc : z.cells = cs := by exact rfl) (hn : Nat.ble (d + 1) n.k = true := by exact rfl) : VL Tryz.prog none n B w0 ops Q (⟨some d, .alloc t, ty, pos, after, none⟩ :: rest) env H := YdG T2 hz hc hn h
theorem zs55 {t : TypeId} {parts : List (Nat × Operand)} {ps : List (Nat × Value)} {zc : Array Value} {pl : List (Nat × Nat)} {cs : List Value} (h : VL Tryz.prog m n B w0 ops Q rest ((d, .agg cs.toArray) :: env) H) (hp : JG env parts = some ps := by exact rfl) (hz : look T2.zt t = some (.agg zc) := by exact rfl) (hl : look T2.bt t = some pl := by exact rfl) (hf : JS (pl[·]?) zc.toList ps = some cs := by exact rfl) (hn : Nat.ble (d + 1) n.k = true := by exact rfl) : VL Tryz.prog m n B w0 ops Q (⟨some d, .build t parts.toArray, ty, pos, after, none⟩ :: rest) env H := Yd9 T2 hp hz hl hf hn h
theorem zs56 {t e len size bytes : Nat} {parts : List (Nat × Operand)} {ps : List (Nat × Value)} {z : Value} {zl cs : List Value} (h : ∀ g, VL Tryz.prog none n B w0 ops Q rest ((d, .slice (some ⟨g, 0, none⟩) len len) :: env) (blk g (.cells cs.toArray e (0, 0)) :: H)) (ht : look T.sl t = some (e, size, bytes) := by exact rfl) (hp : JG env parts = some ps := by exact rfl) (hz : look T2.zt e = some z := by exact rfl) (hzc : z.cells = zl.toArray := by exact rfl) (hf : JS (fun i => some (i * size, size)) (repZ len zl) ps = some cs := by exact rfl) (hn : Nat.ble (d + 1) n.k = true := by exact rfl) (hl : (Nat.blt 0 (len * size) && Nat.beq zl.length size && Nat.ble (len * size) 1000000) = true := by exact rfl) : VL Tryz.prog none n B w0 ops Q (⟨some d, .buildSlice t len parts.toArray, ty, pos, after, none⟩ :: rest) env H := O4 T T2 ht hp hz hzc hf hn hl h
theorem zs57 {α : Type} {f : α → List Value} {l : List α} {t : Nat} {x y : Operand} {A : Option Addr} {cap : Nat} {e size bytes : Nat} {ki : IntKind} {i : Int} (h : VL Tryz.prog m n B w0 ops Q rest ((d, sptr A (i.toNat * size)) :: env) H) (hx : evo env x = some (.slice A l.length cap) := by exact rfl) (hy : evo env y = some (.int ki i) := by exact rfl) (hr : Rd B w0 H A (l.flatMap f) := by (exact zr; done)) (ht : look T.sl t = some (e, size, bytes) := by exact rfl) (hq : ∀ a, (f a).length = size := by exact fun _ => rfl) (h0 : Nat.blt 0 size = true := by exact rfl) (hn : Nat.ble (d + 1) n.k = true := by exact rfl) (hi : 0 ≤ i ∧ i < l.length := by omega) : VL Tryz.prog m n B w0 ops Q (⟨some d, .indexAddr t x y, ty, pos, after, none⟩ :: rest) env H := Ybm T hx hy hr ht hq h0 hn hi h
theorem zs58 {α : Type} {f : α → List Value} {l : List α} {s fl k i q : Nat} {x : Operand} {A : Option Addr} (h : VL Tryz.prog m n B w0 ops Q rest ((d, sptr A (i * q + k)) :: env) H) (hx : evo env x = some (sptr A (i * q)) := by exact rfl) (hr : Rd B w0 H A (l.flatMap f) := by (exact zr; done)) (hq : ∀ a, (f a).length = q := by exact fun _ => rfl) (h0 : Nat.blt 0 q = true := by exact rfl) (hf : Vi T.fo s fl = some k := by exact rfl) (hn : Nat.ble (d + 1) n.k = true := by exact rfl) (hi : i < l.length := by omega) : VL Tryz.prog m n B w0 ops Q (⟨some d, .fieldAddr s x fl, ty, pos, after, none⟩ :: rest) env H := YaC T hx hr hq h0 hf hn hi h
theorem zs59 {α : Type} {f : α → List Value} {l : List α} {t i q o : Nat} {b : α} {x : Operand} {A : Option Addr} {v : Value} (h : VL Tryz.prog m n B w0 ops Q rest ((d, v) :: env) H) (hx : evo env x = some (sptr A (i * q + o)) := by exact rfl) (hr : Rd B w0 H A (l.flatMap f) := by (exact zr; done)) (hb : l[i]? = some b := by assumption) (hq : ∀ a, (f a).length = q := by exact fun _ => rfl) (ho : Nat.blt o q = true := by exact rfl) (hv : nth (f b) o = some v := by exact rfl) (ht : look T.sc t = some () := by exact rfl) (hn : Nat.ble (d + 1) n.k = true := by exact rfl) : VL Tryz.prog m n B w0 ops Q (⟨some d, .load t x, ty, pos, after, none⟩ :: rest) env H := Qd T hx hr hb hq ho hv ht hn h
theorem zs60 {α : Type} {f : α → List Value} {l : List α} {t i q : Nat} {b : α} {x : Operand} {A : Option Addr} {v : Value} (h : VL Tryz.prog m n B w0 ops Q rest ((d, v) :: env) H) (hx : evo env x = some (sptr A (i * q)) := by exact rfl) (hr : Rd B w0 H A (l.flatMap f) := by (exact zr; done)) (hb : l[i]? = some b := by assumption) (hq : ∀ a, (f a).length = q := by exact fun _ => rfl) (ho : Nat.blt 0 q = true := by exact rfl) (hv : nth (f b) 0 = some v := by exact rfl) (ht : look T.sc t = some () := by exact rfl) (hn : Nat.ble (d + 1) n.k = true := by exact rfl) : VL Tryz.prog m n B w0 ops Q (⟨some d, .load t x, ty, pos, after, none⟩ :: rest) env H := YbY T hx hr hb hq ho hv ht hn h
theorem zs61 {α : Type} {f : α → List Value} {l : List α} {t i q : Nat} {b : α} {x : Operand} {A : Option Addr} (h : VL Tryz.prog m n B w0 ops Q rest ((d, .agg (f b).toArray) :: env) H) (hx : evo env x = some (sptr A (i * q)) := by exact rfl) (hr : Rd B w0 H A (l.flatMap f) := by (exact zr; done)) (hb : l[i]? = some b := by assumption) (hq : ∀ a, (f a).length = q := by exact fun _ => rfl) (ho : Nat.blt 0 q = true := by exact rfl) (ht : look T.ag t = some q := by exact rfl) (hn : Nat.ble (d + 1) n.k = true := by exact rfl) : VL Tryz.prog m n B w0 ops Q (⟨some d, .load t x, ty, pos, after, none⟩ :: rest) env H := OD T hx hr hb hq ho ht hn h
theorem zs62 {x y : Operand} {k : IntKind} {a b : Int} {tys : Array TypeId} (h1 : a < b → VL Tryz.prog m n B w0 ops Q rest ((d, .int k b) :: env) H) (h2 : b ≤ a → VL Tryz.prog m n B w0 ops Q rest ((d, .int k a) :: env) H) (hx : evo env x = some (.int k a) := by exact rfl) (hy : evo env y = some (.int k b) := by exact rfl) (hn : Nat.ble (d + 1) n.k = true := by exact rfl) : VL Tryz.prog m n B w0 ops Q (⟨some d, .call ⟨.builtin .max, #[x, y], tys⟩, ty, pos, after, none⟩ :: rest) env H := Ygu hx hy hn h1 h2
theorem zs65  (h : VQ n B w0 Q .normal env H)  : VL Tryz.prog none n B w0 ops Q [] env H := Yfa h
theorem zs66  (h : VQ n B w0 Q .normal env H)  : VL Tryz.prog (some none) n B w0 ops Q [] env H := Ygx h
theorem zs68 {y : Code} (h : VC Tryz.prog n B w0 y Q env H)  : VQ n B w0 (Exit.then (wpR Tryz.prog n.r y Q) Q) .normal env H := YaU h
theorem zs69 {x y : Code} (h : VC Tryz.prog n B w0 x (Exit.then (wpR Tryz.prog n.r y Q) Q) env H)  : VC Tryz.prog n B w0 (.seq x y) Q env H := Jr h
theorem zs70 {id : Nat} {l : List Oper} (h : VL Tryz.prog none n B w0 l.toArray Q l env H)  : VC Tryz.prog n B w0 (.region id l.toArray false) Q env H := Zq h
theorem zs71 {c : Operand} {x y : Code} (h : VC Tryz.prog n B w0 x Q env H) (hc : evo env c = some (.bool true) := by exact rfl) : VC Tryz.prog n B w0 (.cond c x y) Q env H := Yau hc h
theorem zs72 {c : Operand} {x y : Code} (h : VC Tryz.prog n B w0 y Q env H) (hc : evo env c = some (.bool false) := by exact rfl) : VC Tryz.prog n B w0 (.cond c x y) Q env H := QD hc h
theorem zs73 {id : Nat} {c : Code} (h : VC Tryz.prog n B w0 c (Exit.inBlock id Q) env H)  : VC Tryz.prog n B w0 (.block id c) Q env H := YeL h
theorem zs74  (h : VQ n B w0 Q .ret env H)  : VC Tryz.prog n B w0 .ret Q env H := Yg4 h
theorem zs75 {id : Nat} (h : VQ n B w0 Q (.exit id) env H)  : VC Tryz.prog n B w0 (.exit id) Q env H := Ygt h
theorem zs76  (h : VQ n B w0 Q .normal env H)  : VC Tryz.prog n B w0 .skip Q env H := Ygy h
theorem zs77 {K : Act → World → Prop} (h : VQ n B w0 Q .ret env H)  : VQ n B w0 (Exit.then K Q) .ret env H := Yb5 h
theorem zs78 {id : Nat} (h : VQ n B w0 Q .ret env H)  : VQ n B w0 (Exit.inBlock id Q) .ret env H := YaN h
theorem zs79 {id : Nat} (h : VQ n B w0 Q .normal env H)  : VQ n B w0 (Exit.inBlock id Q) .normal env H := WD h
theorem zs80 {K : Act → World → Prop} {id : Nat} (h : VQ n B w0 Q (.exit id) env H)  : VQ n B w0 (Exit.then K Q) (.exit id) env H := YaW h
theorem zs81 {id : Nat} (h : VQ n B w0 Q .normal env H)  : VQ n B w0 (Exit.inBlock id Q) (.exit id) env H := Qt h
theorem zs83 {id : Nat} {l : List Oper} (h : VL Tryz.prog (some none) n B w0 l.toArray Q l env H) (hq : (l.all fun o => !eff o) = true := by exact rfl) (hm : Tryz.prog.follows .mixedOrders = true := by kernel_rfl) (hB : Region.lexB .any l.toArray = true := by kernel_rfl) : VC Tryz.prog n B w0 (.region id l.toArray true) Q env H := Ye1 hq hm hB h
theorem zs84 {id : Nat} {l : List Oper} (h : VL Tryz.prog (some none) n B w0 l.toArray Q l env H) (hq : (l.all fun o => !effW o) = true := by exact rfl) (hm : Tryz.prog.follows .mixedOrders = true := by kernel_rfl) (hB : Region.lexB .any l.toArray = true := by kernel_rfl) : VC Tryz.prog n B w0 (.region id l.toArray true) Q env H := YeN hq hm hB h
theorem zs87 {o : Oper} {F HF : List HP} (h : VL Tryz.prog none n B w0 ops (Ybo Tryz.prog B w0 ops Q H rest) [o] env HF) (he : eff o = true := by exact rfl) (hg : o.guard = none := by exact rfl) (happ : App H F HF := by (exact zp; done)) : VL Tryz.prog (some (some F)) n B w0 ops Q (o :: rest) env H := YgG he hg happ h
theorem zs90 {l : List Oper} {F : List HP} {i : Nat} {t : OT} {o : Oper} (h : VL Tryz.prog (some (some F)) n B w0 ops (J9 Tryz.prog B w0 ops l Q H t) [o] env H) (ho : nthO l i = o := by (simp only [nthO]; rfl)) : VT Tryz.prog n B w0 ops l Q (.n1 i t) env H F := YhN ho h
theorem zs91 {l : List Oper} {F : List HP} {i j : Nat} {t u : OT} {o o' : Oper} (h : VL Tryz.prog (some (some F)) n B w0 ops (J9 Tryz.prog B w0 ops l Q H t) [o] env H) (h' : VL Tryz.prog (some (some F)) n B w0 ops (J9 Tryz.prog B w0 ops l Q H u) [o'] env H) (ho : nthO l i = o := by (simp only [nthO]; rfl)) (ho' : nthO l j = o' := by (simp only [nthO]; rfl)) : VT Tryz.prog n B w0 ops l Q (.n2 i t j u) env H F := YhC ho ho' h h'
theorem zs93 {l : List Oper} (h : VL Tryz.prog none n B w0 ops Q l env H)  : VQ n B w0 (XL Tryz.prog ops Q l) .normal env H := YfD h
theorem zs94  (h : VQ n B w0 Q .normal env H)  : VQ n B w0 (Only Q) .normal env H := Ygd h
theorem zg1 {m : Mode} {d : Nat} {op : Op} {ty : TypeId} {pos : String} {after : Array Edge} {j : Nat} {b : Bool} (h : VL Tryz.prog m n B w0 ops Q (⟨some d, op, ty, pos, after, some (j, b)⟩ :: rest) env H) : VL Tryz.prog m n B w0 ops Q (⟨some d, op, ty, pos, after, some (j, b)⟩ :: rest) env H := h
theorem zg2 {s f : Nat} {x : Operand} (h : VL Tryz.prog m n B w0 ops Q (⟨some d, .fieldAddr s x f, ty, pos, after, none⟩ :: rest) env H) : VL Tryz.prog m n B w0 ops Q (⟨some d, .fieldAddr s x f, ty, pos, after, none⟩ :: rest) env H := h
theorem zg3 {t : Nat} {x : Operand} (h : VL Tryz.prog m n B w0 ops Q (⟨some d, .load t x, ty, pos, after, none⟩ :: rest) env H) : VL Tryz.prog m n B w0 ops Q (⟨some d, .load t x, ty, pos, after, none⟩ :: rest) env H := h
theorem zg4 {tx : Nat} {x : Operand} (h : VL Tryz.prog m n B w0 ops Q (⟨some d, .call ⟨.builtin .len, #[x], #[tx]⟩, ty, pos, after, none⟩ :: rest) env H) : VL Tryz.prog m n B w0 ops Q (⟨some d, .call ⟨.builtin .len, #[x], #[tx]⟩, ty, pos, after, none⟩ :: rest) env H := h
theorem zg5 {t : Nat} {x y : Operand} (h : VL Tryz.prog m n B w0 ops Q (⟨some d, .indexAddr t x y, ty, pos, after, none⟩ :: rest) env H) : VL Tryz.prog m n B w0 ops Q (⟨some d, .indexAddr t x y, ty, pos, after, none⟩ :: rest) env H := h
theorem zg6 {c x y : Operand} (h : VL Tryz.prog m n B w0 ops Q (⟨some d, .pick c x y, ty, pos, after, none⟩ :: rest) env H) : VL Tryz.prog m n B w0 ops Q (⟨some d, .pick c x y, ty, pos, after, none⟩ :: rest) env H := h
theorem zg7  (h : VL Tryz.prog m n B w0 ops Q (⟨some d, .binOp .eql xt x y yt, ty, pos, after, none⟩ :: rest) env H) : VL Tryz.prog m n B w0 ops Q (⟨some d, .binOp .eql xt x y yt, ty, pos, after, none⟩ :: rest) env H := h
theorem zg8  (h : VL Tryz.prog m n B w0 ops Q (⟨some d, .binOp .neq xt x y yt, ty, pos, after, none⟩ :: rest) env H) : VL Tryz.prog m n B w0 ops Q (⟨some d, .binOp .neq xt x y yt, ty, pos, after, none⟩ :: rest) env H := h
theorem zg13  (h : VL Tryz.prog m n B w0 ops Q (⟨some d, .binOp .add xt x y yt, ty, pos, after, none⟩ :: rest) env H) : VL Tryz.prog m n B w0 ops Q (⟨some d, .binOp .add xt x y yt, ty, pos, after, none⟩ :: rest) env H := h
theorem zg14  (h : VL Tryz.prog m n B w0 ops Q (⟨some d, .binOp .sub xt x y yt, ty, pos, after, none⟩ :: rest) env H) : VL Tryz.prog m n B w0 ops Q (⟨some d, .binOp .sub xt x y yt, ty, pos, after, none⟩ :: rest) env H := h
theorem zg15  (h : VL Tryz.prog m n B w0 ops Q (⟨some d, .binOp .mul xt x y yt, ty, pos, after, none⟩ :: rest) env H) : VL Tryz.prog m n B w0 ops Q (⟨some d, .binOp .mul xt x y yt, ty, pos, after, none⟩ :: rest) env H := h
theorem zg17  (h : VL Tryz.prog m n B w0 ops Q (⟨some d, .binOp .rem xt x y yt, ty, pos, after, none⟩ :: rest) env H) : VL Tryz.prog m n B w0 ops Q (⟨some d, .binOp .rem xt x y yt, ty, pos, after, none⟩ :: rest) env H := h
theorem zg18  (h : VL Tryz.prog m n B w0 ops Q (⟨some d, .binOp .shr xt x y yt, ty, pos, after, none⟩ :: rest) env H) : VL Tryz.prog m n B w0 ops Q (⟨some d, .binOp .shr xt x y yt, ty, pos, after, none⟩ :: rest) env H := h
theorem zg19 {src dst : TypeId} (h : VL Tryz.prog m n B w0 ops Q (⟨some d, .convert src dst x, ty, pos, after, none⟩ :: rest) env H) : VL Tryz.prog m n B w0 ops Q (⟨some d, .convert src dst x, ty, pos, after, none⟩ :: rest) env H := h
theorem zg20 {x : Operand} {xt : TypeId} (h : VL Tryz.prog m n B w0 ops Q (⟨some d, .unOp .not xt x, ty, pos, after, none⟩ :: rest) env H) : VL Tryz.prog m n B w0 ops Q (⟨some d, .unOp .not xt x, ty, pos, after, none⟩ :: rest) env H := h
theorem zg21 {t : Nat} {x y : Operand} (h : VL Tryz.prog m n B w0 ops Q (⟨some d, .call ⟨.builtin .append, #[x, y], #[t, t]⟩, ty, pos, after, none⟩ :: rest) env H) : VL Tryz.prog m n B w0 ops Q (⟨some d, .call ⟨.builtin .append, #[x, y], #[t, t]⟩, ty, pos, after, none⟩ :: rest) env H := h
theorem zg22 {t : Nat} {x y : Operand} (h : VL Tryz.prog m n B w0 ops Q (⟨none, .store t x y, ty, pos, after, none⟩ :: rest) env H) : VL Tryz.prog m n B w0 ops Q (⟨none, .store t x y, ty, pos, after, none⟩ :: rest) env H := h
theorem zg23 {t : TypeId} {x : Operand} (h : VL Tryz.prog m n B w0 ops Q (⟨some d, .box t x, ty, pos, after, none⟩ :: rest) env H) : VL Tryz.prog m n B w0 ops Q (⟨some d, .box t x, ty, pos, after, none⟩ :: rest) env H := h
theorem zg24 {t : TypeId} (h : VL Tryz.prog m n B w0 ops Q (⟨some d, .alloc t, ty, pos, after, none⟩ :: rest) env H) : VL Tryz.prog m n B w0 ops Q (⟨some d, .alloc t, ty, pos, after, none⟩ :: rest) env H := h
theorem zg25 {t : TypeId} {parts : List (Nat × Operand)} (h : VL Tryz.prog m n B w0 ops Q (⟨some d, .build t parts.toArray, ty, pos, after, none⟩ :: rest) env H) : VL Tryz.prog m n B w0 ops Q (⟨some d, .build t parts.toArray, ty, pos, after, none⟩ :: rest) env H := h
theorem zg26 {t len : Nat} {parts : List (Nat × Operand)} (h : VL Tryz.prog m n B w0 ops Q (⟨some d, .buildSlice t len parts.toArray, ty, pos, after, none⟩ :: rest) env H) : VL Tryz.prog m n B w0 ops Q (⟨some d, .buildSlice t len parts.toArray, ty, pos, after, none⟩ :: rest) env H := h
theorem zg27 {c : Operand} {x y : Code} (h : VC Tryz.prog n B w0 (.cond c x y) Q env H) : VC Tryz.prog n B w0 (.cond c x y) Q env H := h
theorem zg28 {id : Nat} {l : List Oper} (h : VC Tryz.prog n B w0 (.region id l.toArray true) Q env H) : VC Tryz.prog n B w0 (.region id l.toArray true) Q env H := h
theorem zg29 {fn : Fn} {caps : List Operand} (h : VL Tryz.prog m n B w0 ops Q (⟨some d, .makeFunc fn #[] caps.toArray, ty, pos, after, none⟩ :: rest) env H) : VL Tryz.prog m n B w0 ops Q (⟨some d, .makeFunc fn #[] caps.toArray, ty, pos, after, none⟩ :: rest) env H := h
end
end Go.Eng
namespace Go.Proofs.YtmalhidldgfeoaaGreatDoor
open Go.RowKit Go.Eng Go.Nw
structure RowM where
  A : Option Addr
  cap : Nat
  xs : List Int
structure NetM where
  nodes : Int
  pA : Option Addr
  pcap : Nat
  rows : List RowM
  noise : Int
  thr : Int
  lA : Option Addr
  lcap : Nat
  links : List Lk
  mA : Option Addr
  mcap : Nat
  margin : List Int
def NetM.net (n : NetM) : Net := ⟨n.nodes, n.rows.map (·.xs), n.noise, n.thr, n.links, n.margin⟩
def NetM.val (n : NetM) : Value := .agg #[.int .i64 n.nodes, .slice n.pA n.rows.length n.pcap, .int .i64 n.noise, .int .i64 n.thr, .slice n.lA n.links.length n.lcap, .slice n.mA n.margin.length n.mcap]
def rowF (r : RowM) : List Value := [.slice r.A r.xs.length r.cap]
def numF (z : Int) : List Value := [.int .i64 z]
def lkF (l : Lk) : List Value := [.int .i64 l.1, .int .i64 l.2.1, .int .i64 l.2.2]
def lkV (l : Lk) : Value := .agg #[.int .i64 l.1, .int .i64 l.2.1, .int .i64 l.2.2]
structure NetM.In (B : Nat) (w0 : World) (H : List HP) (n : NetM) : Prop where
  pw : Rd B w0 H n.pA (n.rows.flatMap rowF)
  rw_ : ∀ r ∈ n.rows, Rd B w0 H r.A (r.xs.flatMap numF)
  lk : Rd B w0 H n.lA (n.links.flatMap lkF)
  mg : Rd B w0 H n.mA (n.margin.flatMap numF)
  s1 : n.rows.length ≤ 9223372036854775807
  s2 : ∀ r ∈ n.rows, r.xs.length ≤ 9223372036854775807
  s3 : n.links.length ≤ 9223372036854775807
  s4 : n.margin.length ≤ 9223372036854775807
theorem NetM.In.cons {B : Nat} {w0 : World} {H : List HP} {n : NetM} {X : HP} (h : n.In B w0 H) : n.In B w0 (X :: H) :=
  ⟨h.pw.cons, fun r hr => (h.rw_ r hr).cons, h.lk.cons, h.mg.cons, h.s1, h.s2, h.s3, h.s4⟩
theorem Qz {α : Type} (val : α → Value) (p : α → Bool) (l : List α) (f : Nat) (cs : List Value) (hen : ∀ xs w, (callFunc f xs).run Tryz.prog w = .ok (.enter f xs) w) (hlen : l.length ≤ 9223372036854775807) {A : Option Addr} {cap B : Nat} {w0 : World} {H : List HP} {w : World} (hr : Rd B w0 H A (l.flatMap fun a => [val a]))
    (hp : ∀ a ∈ l, ∀ w, St B w0 H w → Calls Tryz.prog f ([val a] ++ cs).toArray w (Post B w0 fun v K => v = .bool (p a) ∧ K = H)) (hw : St B w0 H w) :
    Calls Tryz.prog 228 [.slice A l.length cap, .func (.func f) #[] cs.toArray].toArray w (Post B w0 fun v K => v = .int .i64 (Yq p l 0) ∧ K = H) := by
  refine Yd Tryz.func228 Tryz.ntmps228 rfl rfl hw ?_
  repeat' (first | apply (zs1 ?_) | apply (zs2 ?_) | (apply zg4; refine zs9 ?_) | apply (zs65 ?_) | apply (zs68 ?_) | apply (zs69 ?_) | apply (zs70 ?_) | apply (zs73 ?_) | fail)
  refine Yk (fun (k : Nat) => [(8, .int .i64 k), (7, .int .i64 l.length), (0, .slice A l.length cap), (1, .func (.func f) #[] cs.toArray)]) (fun _ => H) (fun k => k ≤ l.length ∧ Yq p l 0 = Yq p (l.drop k) k) (fun k => l.length - k) 0 ⟨Nat.zero_le _, by simp⟩ ?_ (fun w hw => hw) ?_
  · exact zu
  rintro k ⟨hk, hi⟩ K hK
  by_cases hlt : k < l.length
  · obtain ⟨a, ha⟩ : ∃ a, l[k]? = some a := ⟨_, List.getElem?_eq_getElem hlt⟩
    have hpa := hp a (List.mem_of_getElem? ha)
    rw [Ja p l ha] at hi
    repeat' (first | ((first | apply YE (cs := cs)); exact rfl; exact hen; exact za; exact rfl; exact fun _ hw => hpa _ hw) | apply (zs1 ?_) | apply (zs2 ?_) | (apply zg3; refine zs60 ?_) | (apply zg5; refine zs57 ?_) | (apply (zs17 ?_ ?_) <;> intro _ <;> try (exfalso; omega)) | apply (zs65 ?_) | apply (zs68 ?_) | apply (zs69 ?_) | apply (zs70 ?_) | (apply zg27; refine zs71 ?_) | apply (zs73 ?_) | apply (zs76 ?_) | fail)
    cases hpv : p a
    · rw [hpv] at hi
      repeat' (first | apply (zs1 ?_) | (apply zg13; refine zs30 ?_) | apply (zs65 ?_) | apply (zs68 ?_) | apply (zs70 ?_) | (apply zg27; refine zs72 ?_) | apply (zs76 ?_) | apply (zs79 ?_) | fail)
      apply hK (k + 1)
      · exact ⟨by omega, hi⟩
      · omega
      · exact zu
      · exact fun w hw => hw
    · rw [hpv] at hi
      repeat' (first | apply (zs1 ?_) | apply (zs2 ?_) | apply (zs65 ?_) | apply (zs68 ?_) | apply (zs69 ?_) | apply (zs70 ?_) | (apply zg27; refine zs71 ?_) | apply (zs74 ?_) | apply (zs77 ?_) | apply (zs78 ?_) | fail)
      apply Yc; exact rfl; exact rfl
      exact ⟨by rw [hi]; rfl, rfl⟩
  · repeat' (first | apply (zs2 ?_) | (apply (zs17 ?_ ?_) <;> intro _ <;> try (exfalso; omega)) | apply (zs65 ?_) | apply (zs68 ?_) | apply (zs69 ?_) | apply (zs70 ?_) | (apply zg27; refine zs72 ?_) | apply (zs74 ?_) | apply (zs75 ?_) | apply (zs80 ?_) | apply (zs81 ?_) | fail)
    apply Yc; exact rfl; exact rfl
    rw [hi, List.drop_eq_nil_of_le (by omega)]
    exact ⟨rfl, rfl⟩
theorem Je {α : Type} (val : α → Value) (p : α → Bool) (l : List α) (f : Nat) (cs : List Value) (hen : ∀ xs w, (callFunc f xs).run Tryz.prog w = .ok (.enter f xs) w) (hlen : l.length ≤ 9223372036854775807) {A : Option Addr} {cap B : Nat} {w0 : World} {H : List HP} {w : World} (hr : Rd B w0 H A (l.flatMap fun a => [val a]))
    (hp : ∀ a ∈ l, ∀ w, St B w0 H w → Calls Tryz.prog f ([val a] ++ cs).toArray w (Post B w0 fun v K => v = .bool (p a) ∧ K = H)) (hw : St B w0 H w) :
    Calls Tryz.prog 164 [.slice A l.length cap, .func (.func f) #[] cs.toArray].toArray w (Post B w0 fun v K => v = .bool (l.any p) ∧ K = H) := by
  refine Yd Tryz.func164 Tryz.ntmps164 rfl rfl hw ?_
  have hia := Jo p l 0 (by omega)
  repeat' (first | ((first | apply Ya Yg2 | apply Yb Yg2); exact za; exact rfl; exact fun _ hw => (Qz val p l f cs hen hlen hr hp hw)) | apply (zs1 ?_) | apply (zs2 ?_) | (apply (zs20 ?_ ?_) <;> intro _ <;> try (exfalso; omega)) | apply (zs65 ?_) | apply (zs68 ?_) | apply (zs69 ?_) | apply (zs70 ?_) | apply (zs74 ?_) | fail)
  all_goals (apply Yc; exact rfl; exact rfl)
  · rename_i h; exact ⟨by rw [hia.1 h], rfl⟩
  · rename_i h
    have : ¬ l.any p = true := fun e => by have := hia.2 e; omega
    exact ⟨by rw [Bool.eq_false_iff.2 this], rfl⟩
theorem Qu {α : Type} (val : α → Value) (p : α → Bool) (l : List α) (f : Nat) (cs : List Value) (hen : ∀ xs w, (callFunc f xs).run Tryz.prog w = .ok (.enter f xs) w) (hlen : l.length ≤ 9223372036854775807) {A : Option Addr} {cap B : Nat} {w0 : World} {H : List HP} {w : World} (hr : Rd B w0 H A (l.flatMap fun a => [val a]))
    (hp : ∀ a ∈ l, ∀ w, St B w0 H w → Calls Tryz.prog f ([val a] ++ cs).toArray w (Post B w0 fun v K => v = .bool (p a) ∧ K = H)) (hw : St B w0 H w) :
    Calls Tryz.prog 227 [.slice A l.length cap, .func (.func f) #[] cs.toArray].toArray w (Post B w0 fun v K => v = .int .i64 (Yq p l 0) ∧ K = H) := by
  refine Yd Tryz.func227 Tryz.ntmps227 rfl rfl hw ?_
  repeat' (first | apply (zs1 ?_) | apply (zs2 ?_) | (apply zg4; refine zs9 ?_) | apply (zs65 ?_) | apply (zs68 ?_) | apply (zs69 ?_) | apply (zs70 ?_) | apply (zs73 ?_) | fail)
  refine Yk (fun (k : Nat) => [(8, .int .i64 k), (7, .int .i64 l.length), (0, .slice A l.length cap), (1, .func (.func f) #[] cs.toArray)]) (fun _ => H) (fun k => k ≤ l.length ∧ Yq p l 0 = Yq p (l.drop k) k) (fun k => l.length - k) 0 ⟨Nat.zero_le _, by simp⟩ ?_ (fun w hw => hw) ?_
  · exact zu
  rintro k ⟨hk, hi⟩ K hK
  by_cases hlt : k < l.length
  · obtain ⟨a, ha⟩ : ∃ a, l[k]? = some a := ⟨_, List.getElem?_eq_getElem hlt⟩
    have hpa := hp a (List.mem_of_getElem? ha)
    rw [Ja p l ha] at hi
    repeat' (first | ((first | apply YE (cs := cs)); exact rfl; exact hen; exact za; exact rfl; exact fun _ hw => hpa _ hw) | apply (zs1 ?_) | apply (zs2 ?_) | (apply zg3; refine zs60 ?_) | (apply zg5; refine zs57 ?_) | (apply (zs17 ?_ ?_) <;> intro _ <;> try (exfalso; omega)) | apply (zs65 ?_) | apply (zs68 ?_) | apply (zs69 ?_) | apply (zs70 ?_) | (apply zg27; refine zs71 ?_) | apply (zs73 ?_) | apply (zs76 ?_) | fail)
    cases hpv : p a
    · rw [hpv] at hi
      repeat' (first | apply (zs1 ?_) | (apply zg13; refine zs30 ?_) | apply (zs65 ?_) | apply (zs68 ?_) | apply (zs70 ?_) | (apply zg27; refine zs72 ?_) | apply (zs76 ?_) | apply (zs79 ?_) | fail)
      apply hK (k + 1)
      · exact ⟨by omega, hi⟩
      · omega
      · exact zu
      · exact fun w hw => hw
    · rw [hpv] at hi
      repeat' (first | apply (zs1 ?_) | apply (zs2 ?_) | apply (zs65 ?_) | apply (zs68 ?_) | apply (zs69 ?_) | apply (zs70 ?_) | (apply zg27; refine zs71 ?_) | apply (zs74 ?_) | apply (zs77 ?_) | apply (zs78 ?_) | fail)
      apply Yc; exact rfl; exact rfl
      exact ⟨by rw [hi]; rfl, rfl⟩
  · repeat' (first | apply (zs2 ?_) | (apply (zs17 ?_ ?_) <;> intro _ <;> try (exfalso; omega)) | apply (zs65 ?_) | apply (zs68 ?_) | apply (zs69 ?_) | apply (zs70 ?_) | (apply zg27; refine zs72 ?_) | apply (zs74 ?_) | apply (zs75 ?_) | apply (zs80 ?_) | apply (zs81 ?_) | fail)
    apply Yc; exact rfl; exact rfl
    rw [hi, List.drop_eq_nil_of_le (by omega)]
    exact ⟨rfl, rfl⟩
theorem Z8 {α : Type} (val : α → Value) (p : α → Bool) (l : List α) (f : Nat) (cs : List Value) (hen : ∀ xs w, (callFunc f xs).run Tryz.prog w = .ok (.enter f xs) w) (hlen : l.length ≤ 9223372036854775807) {A : Option Addr} {cap B : Nat} {w0 : World} {H : List HP} {w : World} (hr : Rd B w0 H A (l.flatMap fun a => [val a]))
    (hp : ∀ a ∈ l, ∀ w, St B w0 H w → Calls Tryz.prog f ([val a] ++ cs).toArray w (Post B w0 fun v K => v = .bool (p a) ∧ K = H)) (hw : St B w0 H w) :
    Calls Tryz.prog 160 [.slice A l.length cap, .func (.func f) #[] cs.toArray].toArray w (Post B w0 fun v K => v = .bool (l.any p) ∧ K = H) := by
  refine Yd Tryz.func160 Tryz.ntmps160 rfl rfl hw ?_
  have hia := Jo p l 0 (by omega)
  repeat' (first | ((first | apply Ya YgJ | apply Yb YgJ); exact za; exact rfl; exact fun _ hw => (Qu val p l f cs hen hlen hr hp hw)) | apply (zs1 ?_) | apply (zs2 ?_) | (apply (zs20 ?_ ?_) <;> intro _ <;> try (exfalso; omega)) | apply (zs65 ?_) | apply (zs68 ?_) | apply (zs69 ?_) | apply (zs70 ?_) | apply (zs74 ?_) | fail)
  all_goals (apply Yc; exact rfl; exact rfl)
  · rename_i h; exact ⟨by rw [hia.1 h], rfl⟩
  · rename_i h
    have : ¬ l.any p = true := fun e => by have := hia.2 e; omega
    exact ⟨by rw [Bool.eq_false_iff.2 this], rfl⟩
theorem Oi {α : Type} (val : α → Value) (p : α → Bool) (l : List α) (f : Nat) (cs : List Value) (hen : ∀ xs w, (callFunc f xs).run Tryz.prog w = .ok (.enter f xs) w) (hlen : l.length ≤ 9223372036854775807) {A : Option Addr} {cap B : Nat} {w0 : World} {H : List HP} {w : World} (hr : Rd B w0 H A (l.flatMap fun a => [val a]))
    (hp : ∀ a ∈ l, ∀ w, St B w0 H w → Calls Tryz.prog f ([val a] ++ cs).toArray w (Post B w0 fun v K => v = .bool (p a) ∧ K = H)) (hw : St B w0 H w) :
    Calls Tryz.prog 284 [.slice A l.length cap, .func (.func f) #[] cs.toArray].toArray w (Post B w0 fun v K => v = .int .i64 (Yq p l 0) ∧ K = H) := by
  refine Yd Tryz.func284 Tryz.ntmps284 rfl rfl hw ?_
  repeat' (first | apply (zs1 ?_) | apply (zs2 ?_) | (apply zg4; refine zs9 ?_) | apply (zs65 ?_) | apply (zs68 ?_) | apply (zs69 ?_) | apply (zs70 ?_) | apply (zs73 ?_) | fail)
  refine Yk (fun (k : Nat) => [(8, .int .i64 k), (7, .int .i64 l.length), (0, .slice A l.length cap), (1, .func (.func f) #[] cs.toArray)]) (fun _ => H) (fun k => k ≤ l.length ∧ Yq p l 0 = Yq p (l.drop k) k) (fun k => l.length - k) 0 ⟨Nat.zero_le _, by simp⟩ ?_ (fun w hw => hw) ?_
  · exact zu
  rintro k ⟨hk, hi⟩ K hK
  by_cases hlt : k < l.length
  · obtain ⟨a, ha⟩ : ∃ a, l[k]? = some a := ⟨_, List.getElem?_eq_getElem hlt⟩
    have hpa := hp a (List.mem_of_getElem? ha)
    rw [Ja p l ha] at hi
    repeat' (first | ((first | apply YE (cs := cs)); exact rfl; exact hen; exact za; exact rfl; exact fun _ hw => hpa _ hw) | apply (zs1 ?_) | apply (zs2 ?_) | (apply zg3; refine zs60 ?_) | (apply zg5; refine zs57 ?_) | (apply (zs17 ?_ ?_) <;> intro _ <;> try (exfalso; omega)) | apply (zs65 ?_) | apply (zs68 ?_) | apply (zs69 ?_) | apply (zs70 ?_) | (apply zg27; refine zs71 ?_) | apply (zs73 ?_) | apply (zs76 ?_) | fail)
    cases hpv : p a
    · rw [hpv] at hi
      repeat' (first | apply (zs1 ?_) | (apply zg13; refine zs30 ?_) | apply (zs65 ?_) | apply (zs68 ?_) | apply (zs70 ?_) | (apply zg27; refine zs72 ?_) | apply (zs76 ?_) | apply (zs79 ?_) | fail)
      apply hK (k + 1)
      · exact ⟨by omega, hi⟩
      · omega
      · exact zu
      · exact fun w hw => hw
    · rw [hpv] at hi
      repeat' (first | apply (zs1 ?_) | apply (zs2 ?_) | apply (zs65 ?_) | apply (zs68 ?_) | apply (zs69 ?_) | apply (zs70 ?_) | (apply zg27; refine zs71 ?_) | apply (zs74 ?_) | apply (zs77 ?_) | apply (zs78 ?_) | fail)
      apply Yc; exact rfl; exact rfl
      exact ⟨by rw [hi]; rfl, rfl⟩
  · repeat' (first | apply (zs2 ?_) | (apply (zs17 ?_ ?_) <;> intro _ <;> try (exfalso; omega)) | apply (zs65 ?_) | apply (zs68 ?_) | apply (zs69 ?_) | apply (zs70 ?_) | (apply zg27; refine zs72 ?_) | apply (zs74 ?_) | apply (zs75 ?_) | apply (zs80 ?_) | apply (zs81 ?_) | fail)
    apply Yc; exact rfl; exact rfl
    rw [hi, List.drop_eq_nil_of_le (by omega)]
    exact ⟨rfl, rfl⟩
theorem Up {α : Type} (val : α → Value) (p : α → Bool) (l : List α) (f : Nat) (cs : List Value) (hen : ∀ xs w, (callFunc f xs).run Tryz.prog w = .ok (.enter f xs) w) (hlen : l.length ≤ 9223372036854775807) {A : Option Addr} {cap B : Nat} {w0 : World} {H : List HP} {w : World} (hr : Rd B w0 H A (l.flatMap fun a => [val a]))
    (hp : ∀ a ∈ l, ∀ w, St B w0 H w → Calls Tryz.prog f ([val a] ++ cs).toArray w (Post B w0 fun v K => v = .bool (p a) ∧ K = H)) (hw : St B w0 H w) :
    Calls Tryz.prog 244 [.slice A l.length cap, .func (.func f) #[] cs.toArray].toArray w (Post B w0 fun v K => v = .bool (l.any p) ∧ K = H) := by
  refine Yd Tryz.func244 Tryz.ntmps244 rfl rfl hw ?_
  have hia := Jo p l 0 (by omega)
  repeat' (first | ((first | apply Ya YgT | apply Yb YgT); exact za; exact rfl; exact fun _ hw => (Oi val p l f cs hen hlen hr hp hw)) | apply (zs1 ?_) | apply (zs2 ?_) | (apply (zs20 ?_ ?_) <;> intro _ <;> try (exfalso; omega)) | apply (zs65 ?_) | apply (zs68 ?_) | apply (zs69 ?_) | apply (zs70 ?_) | apply (zs74 ?_) | fail)
  all_goals (apply Yc; exact rfl; exact rfl)
  · rename_i h; exact ⟨by rw [hia.1 h], rfl⟩
  · rename_i h
    have : ¬ l.any p = true := fun e => by have := hia.2 e; omega
    exact ⟨by rw [Bool.eq_false_iff.2 this], rfl⟩
theorem YdF (x : Int) {B : Nat} {w0 : World} {H : List HP} {w : World} (hw : St B w0 H w) : Calls Tryz.prog 158 [.int .i64 x].toArray w (Post B w0 fun v K => v = .bool false ∧ K = H) := by
  refine Yd Tryz.func158 Tryz.ntmps158 rfl rfl hw ?_
  repeat' (first | apply (zs1 ?_) | apply (zs2 ?_) | (apply zg8; (refine zs16 ?_ ?_ <;> intro _ <;> try (exfalso; omega))) | apply (zs65 ?_) | apply (zs68 ?_) | apply (zs69 ?_) | apply (zs70 ?_) | apply (zs74 ?_) | fail)
  apply Yc; exact rfl; exact rfl
  exact ⟨rfl, rfl⟩
theorem Wx (x y : Int) {B : Nat} {w0 : World} {H : List HP} {w : World} (hw : St B w0 H w) : Calls Tryz.prog 99 [.int .i64 x, .int .i64 y].toArray w (Post B w0 fun v K => v = .int .i64 (cmpI x y) ∧ K = H) := by
  refine Yd Tryz.func99 Tryz.ntmps99 rfl rfl hw ?_
  unfold cmpI
  repeat' (first | ((first | apply Ya YgQ | apply Yb YgQ); exact za; exact rfl; exact fun _ hw => (YdF _ hw)) | apply (zs1 ?_) | apply (zs2 ?_) | (apply (zs17 ?_ ?_) <;> intro _ <;> try (exfalso; omega)) | (apply (zs19 ?_ ?_) <;> intro _ <;> try (exfalso; omega)) | apply (zs65 ?_) | apply (zs68 ?_) | apply (zs69 ?_) | apply (zs70 ?_) | (apply zg27; first | refine zs71 ?_ | refine zs72 ?_) | apply (zs74 ?_) | apply (zs76 ?_) | apply (zs77 ?_) | fail)
  all_goals (((repeat apply Yn); apply Yc; exact rfl; exact rfl; refine ⟨congrArg _ ?_, rfl⟩); (repeat (first | refine Y0 (by omega) ?_ | refine YZ (by omega) ?_)); rfl)
open Go.RowKit Go.Eng Go.Nw
theorem YeM (xs : List Int) {A : Option Addr} {cap : Nat} (n : NetM) (g : Nat) {B : Nat} {w0 : World} {H : List HP} {w : World} (hw : St B w0 (blk g (.cells #[.int .i64 n.nodes, .slice n.pA n.rows.length n.pcap, .int .i64 n.noise, .int .i64 n.thr, .slice n.lA n.links.length n.lcap, .slice n.mA n.margin.length n.mcap] 26 (0, 0)) :: H) w) :
    Calls Tryz.prog 161 [.slice A xs.length cap, .pointer (some ⟨g, 0, none⟩)].toArray w (Post B w0 fun v K => v = .bool (wide n.nodes xs) ∧ K = blk g (.cells #[.int .i64 n.nodes, .slice n.pA n.rows.length n.pcap, .int .i64 n.noise, .int .i64 n.thr, .slice n.lA n.links.length n.lcap, .slice n.mA n.margin.length n.mcap] 26 (0, 0)) :: H) := by
  refine Yd Tryz.func161 Tryz.ntmps161 rfl rfl hw ?_
  unfold wide
  repeat' (first | apply (zs1 ?_) | apply (zs2 ?_) | (apply zg2; refine zs6 ?_) | (apply zg3; refine zs7 ?_) | (apply zg4; refine zs9 ?_) | (apply zg8; (refine zs16 ?_ ?_ <;> intro _ <;> try (exfalso; omega))) | apply (zs65 ?_) | apply (zs68 ?_) | apply (zs69 ?_) | apply (zs70 ?_) | apply (zs74 ?_) | fail)
  · rename_i h
    apply Yc; exact rfl; exact rfl
    exact ⟨by rw [decide_eq_true h], rfl⟩
  · rename_i h
    apply Yc; exact rfl; exact rfl
    exact ⟨by rw [decide_eq_false (by omega)], rfl⟩
theorem Ye3 (p : Int) {B : Nat} {w0 : World} {H : List HP} {w : World} (hw : St B w0 H w) : Calls Tryz.prog 162 [.int .i64 p].toArray w (Post B w0 fun v K => v = .bool (XD p) ∧ K = H) := by
  refine Yd Tryz.func162 Tryz.ntmps162 rfl rfl hw ?_
  unfold XD
  repeat' (first | apply (zs1 ?_) | apply (zs2 ?_) | (apply zg1; first | refine zs3 ?_ | refine zs4 ?_) | (apply zg6; first | refine zs11 ?_ | refine zs12 ?_) | (apply (zs17 ?_ ?_) <;> intro _ <;> try (exfalso; omega)) | (apply (zs19 ?_ ?_) <;> intro _ <;> try (exfalso; omega)) | apply (zs65 ?_) | apply (zs68 ?_) | apply (zs69 ?_) | apply (zs70 ?_) | apply (zs74 ?_) | fail)
  · apply Yc; exact rfl; exact rfl
    exact ⟨by rw [decide_eq_true (by omega)], rfl⟩
  · apply Yc; exact rfl; exact rfl
    exact ⟨by rw [decide_eq_true (by omega)], rfl⟩
  · apply Yc; exact rfl; exact rfl
    exact ⟨by rw [decide_eq_false (by omega)], rfl⟩
theorem YfC (xs : List Int) (hl : xs.length ≤ 9223372036854775807) {A : Option Addr} {cap : Nat} (g : Nat) {B : Nat} {w0 : World} {H : List HP} {w : World} (hr : Rd B w0 H A (xs.flatMap numF)) (hw : St B w0 (blk g (.cells #[.func (.func 162) #[] #[]] 195 (0, 0)) :: H) w) :
    Calls Tryz.prog 163 [.slice A xs.length cap, .pointer (some ⟨g, 0, none⟩)].toArray w (Post B w0 fun v K => v = .bool (xs.any XD) ∧ K = blk g (.cells #[.func (.func 162) #[] #[]] 195 (0, 0)) :: H) := by
  refine Yd Tryz.func163 Tryz.ntmps163 rfl rfl hw ?_
  repeat' (first | ((first | apply Ya Ydd | apply Yb Ydd); exact za; exact rfl; exact fun _ hw => (Je (fun z : Int => .int .i64 z) XD xs 162 [] Yh2 hl hr.cons (fun a _ _ hw => Ye3 a hw) hw)) | apply (zs1 ?_) | apply (zs2 ?_) | (apply zg3; refine zs7 ?_) | apply (zs65 ?_) | apply (zs68 ?_) | apply (zs69 ?_) | apply (zs70 ?_) | apply (zs74 ?_) | fail)
  apply Yc; exact rfl; exact rfl
  exact ⟨rfl, rfl⟩
theorem Ybh (n : NetM) (p : List Int → Bool) : (n.rows.any fun r => p r.xs) = n.net.power.any p := by simp [NetM.net, List.any_map, Function.comp_def]
theorem WG (n : NetM) {B : Nat} {w0 : World} {H : List HP} {w : World} (hin : n.In B w0 H) (hw : St B w0 H w) :
    Calls Tryz.prog 108 [n.val].toArray w (Post B w0 fun v K => v = .int .i64 (Jv n.net) ∧ K = H) := by
  refine Yd Tryz.func108 Tryz.ntmps108 rfl rfl hw ?_
  obtain ⟨hpw, hrw, hlk, hmg, hs1, hs2, hs3, hs4⟩ := hin
  have e1 : n.net.power.length = n.rows.length := by simp [NetM.net]
  have e2 : n.net.nodes = n.nodes := rfl
  unfold Jv
  rw [e1, e2, ← Ybh, ← Ybh n (fun r => r.any XD)]
  repeat' (first | apply (zs1 ?_) | apply (zs2 ?_) | (apply zg1; first | refine zs3 ?_ | refine zs4 ?_) | (apply zg2; refine zs6 ?_) | (apply zg3; refine zs7 ?_) | (apply zg4; refine zs9 ?_) | (apply zg6; refine zs11 ?_) | (apply zg8; (refine zs16 ?_ ?_ <;> intro _ <;> try (exfalso; omega))) | (apply zg23; (refine zs52 ?_; intro _)) | apply (zs65 ?_) | apply (zs68 ?_) | apply (zs69 ?_) | apply (zs70 ?_) | (apply zg27; refine zs71 ?_) | apply (zs74 ?_) | apply (zs77 ?_) | (apply zg29; (apply Yo; exact za ; exact rfl)) | fail)
  · ((repeat apply Yn); apply Yc; exact rfl; exact rfl; refine ⟨congrArg _ ?_, rfl⟩)
    (repeat (first | refine Y0 (by omega) ?_ | refine YZ (by omega) ?_))
    rfl
  rename_i g _
  repeat' (first | ((first | apply Ya Yff | apply Yb Yff); exact za; exact rfl; exact fun _ hw => (Z8 (fun r : RowM => .slice r.A r.xs.length r.cap) (fun r => wide n.nodes r.xs) n.rows 161 [.pointer (some ⟨g, 0, none⟩)] YhB hs1 hpw.cons (fun a _ _ hw => YeM a.xs n g hw) hw)) | (apply zg6; refine zs12 ?_) | apply (zs65 ?_) | apply (zs68 ?_) | fail)
  cases hc : (n.rows.any fun r => wide n.nodes r.xs)
  rotate_left
  · repeat' (first | apply (zs2 ?_) | apply (zs65 ?_) | apply (zs68 ?_) | apply (zs69 ?_) | apply (zs70 ?_) | (apply zg27; refine zs71 ?_) | apply (zs74 ?_) | apply (zs77 ?_) | fail)
    ((repeat apply Yn); apply Yc; exact rfl; exact rfl; refine ⟨congrArg _ ?_, rfl⟩)
    rw [if_neg (by omega)]; rfl
  repeat' (first | (apply zg2; refine zs6 ?_) | (apply zg3; refine zs7 ?_) | (apply zg22; refine zs50 ?_) | (apply zg24; (refine zs54 ?_; intro _)) | apply (zs65 ?_) | apply (zs68 ?_) | apply (zs69 ?_) | apply (zs70 ?_) | (apply zg27; refine zs72 ?_) | apply (zs76 ?_) | (apply zg29; (apply Yo; exact za ; exact rfl)) | fail)
  rename_i g2
  apply Ya Yff
  exact za
  exact rfl
  exact fun _ hw => Z8 (fun r : RowM => .slice r.A r.xs.length r.cap) (fun r => r.xs.any XD) n.rows 163 [.pointer (some ⟨g2, 0, none⟩)] YhV hs1 hpw.cons.cons (fun a ha _ hw => YfC a.xs (hs2 a ha) g2 (hrw a ha).cons hw) hw
  cases hd : (n.rows.any fun r => r.xs.any XD)
  · repeat' (first | apply (zs2 ?_) | apply (zs65 ?_) | apply (zs68 ?_) | apply (zs69 ?_) | apply (zs70 ?_) | (apply zg27; refine zs72 ?_) | apply (zs74 ?_) | apply (zs76 ?_) | fail)
    ((repeat apply Yn); apply Yc; exact rfl; exact rfl; refine ⟨congrArg _ ?_, rfl⟩)
    rw [if_neg (by omega)]; rfl
  · repeat' (first | apply (zs2 ?_) | apply (zs65 ?_) | apply (zs68 ?_) | apply (zs69 ?_) | apply (zs70 ?_) | (apply zg27; refine zs71 ?_) | apply (zs74 ?_) | apply (zs77 ?_) | fail)
    ((repeat apply Yn); apply Yc; exact rfl; exact rfl; refine ⟨congrArg _ ?_, rfl⟩)
    rw [if_neg (by omega)]; rfl
end Go.Proofs.YtmalhidldgfeoaaGreatDoor
namespace Go.Nw
theorem Yb6 {x y : Int} : cmpI x y < 0 ↔ x < y := by unfold cmpI; split <;> (try split) <;> omega
theorem UN {x y : Int} : cmpI x y = 0 ↔ x = y := by unfold cmpI; split <;> (try split) <;> omega
theorem ZL {a b : Lk} : cmpL a b < 0 ↔ a.1 < b.1 ∨ (a.1 = b.1 ∧ a.2.1 < b.2.1) := by
  have h1 := @Yb6 a.1 b.1
  have h2 := @UN a.1 b.1
  have h3 := @Yb6 a.2.1 b.2.1
  unfold cmpL; split <;> omega
theorem Jh {a b : Lk} : cmpL a b = 0 ↔ a.1 = b.1 ∧ a.2.1 = b.2.1 := by
  have h2 := @UN a.1 b.1
  have h3 := @UN a.2.1 b.2.1
  unfold cmpL; split <;> omega
structure OkL (n : Net) (i : Nat) : Prop where
  f0 : 0 ≤ (lnk n i).1
  f1 : (lnk n i).1 < n.nodes
  t0 : 0 ≤ (lnk n i).2.1
  t1 : (lnk n i).2.1 < n.nodes
  ne : (lnk n i).1 ≠ (lnk n i).2.1
  l0 : 0 ≤ (lnk n i).2.2
  l1 : (lnk n i).2.2 ≤ 7
  ord : 0 < i → cmpL (lnk n (i - 1)) (lnk n i) < 0
  m0 : 0 ≤ mar n i
  m1 : mar n i ≤ powr n (lnk n i).1 (lnk n i).2.1
theorem Ygs {n : Net} {i : Nat} (h : VA n i = 0) : OkL n i := by
  unfold VA at h
  by_cases h1 : ¬ (0 ≤ (lnk n i).1 ∧ (lnk n i).1 < n.nodes) ∨ ¬ (0 ≤ (lnk n i).2.1 ∧ (lnk n i).2.1 < n.nodes) ∨ (lnk n i).1 = (lnk n i).2.1 ∨ (lnk n i).2.2 < 0 ∨ 7 < (lnk n i).2.2
  · rw [if_pos h1] at h; omega
  rw [if_neg h1] at h
  by_cases h2 : 0 < i ∧ 0 ≤ cmpL (lnk n (i - 1)) (lnk n i)
  · rw [if_pos h2] at h; omega
  rw [if_neg h2] at h
  by_cases h3 : mar n i < 0 ∨ powr n (lnk n i).1 (lnk n i).2.1 < mar n i
  · rw [if_pos h3] at h; omega
  constructor <;> omega
structure Ok (n : Net) : Prop where
  n0 : 2 ≤ n.nodes
  n1 : n.nodes ≤ 32
  p0 : (n.power.length : Int) = n.nodes
  p1 : ∀ r ∈ n.power, (r.length : Int) = n.nodes
  p2 : ∀ r ∈ n.power, ∀ p ∈ r, 0 ≤ p ∧ p ≤ 68719476736
  z0 : 0 ≤ n.noise
  z1 : n.noise ≤ 68719476736
  t0 : 1000 ≤ n.thr
  t1 : n.thr ≤ 100000
  k0 : n.links.length ≤ 128
  k1 : n.margin.length = n.links.length
  lk : ∀ i, i < n.links.length → OkL n i
theorem Ycp {n : Net} : ∀ (r i : Nat), ZI n r i = 0 → ∀ j, i ≤ j → j < i + r → OkL n j
  | 0, _, _, j, h1, h2 => by omega
  | r + 1, i, h, j, h1, h2 => by
    unfold ZI at h
    by_cases h0 : VA n i = 0
    · rw [if_pos h0] at h
      by_cases e : i = j
      · subst e; exact Ygs h0
      · exact Ycp r (i + 1) h j (by omega) (by omega)
    · rw [if_neg h0] at h; exact absurd h h0
theorem Y2 {n : Net} (h : Yy n = 0) : Ok n := by
  unfold Yy at h
  by_cases h1 : n.nodes < 2 ∨ 32 < n.nodes
  · rw [if_pos h1] at h; omega
  rw [if_neg h1] at h
  by_cases h2 : Jv n ≠ 0
  · rw [if_pos h2] at h; exact absurd h h2
  rw [if_neg h2] at h
  by_cases h3 : n.noise < 0 ∨ 68719476736 < n.noise ∨ n.thr < 1000 ∨ 100000 < n.thr
  · rw [if_pos h3] at h; omega
  rw [if_neg h3] at h
  by_cases h4 : 128 < n.links.length
  · rw [if_pos h4] at h; omega
  rw [if_neg h4] at h
  by_cases h5 : n.margin.length ≠ n.links.length
  · rw [if_pos h5] at h; omega
  rw [if_neg h5] at h
  obtain ⟨t1, t2, t3⟩ := Ycc (Classical.not_not.1 h2)
  exact ⟨by omega, by omega, t1, t2, t3, by omega, by omega, by omega, by omega, by omega, Classical.not_not.1 h5, fun i hi => Ycp _ _ h i (Nat.zero_le _) (by omega)⟩
theorem OF {n : Net} (h : Ok n) : ∀ (i j : Nat), i < j → j < n.links.length → cmpL (lnk n i) (lnk n j) < 0 := by
  intro i j
  induction j with
  | zero => intro h1; omega
  | succ j ih =>
    intro h1 h2
    have h3 := (h.lk (j + 1) h2).ord (by omega)
    rw [Nat.add_sub_cancel] at h3
    by_cases e : i = j
    · subst e; exact h3
    · have h4 := ih (by omega) (by omega)
      rw [ZL] at *
      omega
def WA (a b : Int) (l : Lk) : Bool := decide (l.1 = a) && decide (l.2.1 = b)
def YD (n : Net) (a b : Int) : Int := Yq (WA a b) n.links 0
theorem Uk {α : Type} {p : α → Bool} : ∀ {l : List α} {k : Int}, (∀ a ∈ l, p a = false) → Yq p l k = -1
  | [], _, _ => rfl
  | a :: l, k, h => by
    rw [Yq, h a List.mem_cons_self, if_neg (by simp)]
    exact Uk fun b hb => h b (List.mem_cons_of_mem _ hb)
theorem Oy {α : Type} {p : α → Bool} : ∀ {l : List α} {k : Int} {i : Nat} {a : α}, l[i]? = some a → p a = true → (∀ j b, j < i → l[j]? = some b → p b = false) → Yq p l k = k + i
  | [], _, _, _, h, _, _ => by simp at h
  | b :: l, k, 0, a, h, hp, _ => by
    obtain rfl : b = a := by simpa using h
    rw [Yq, if_pos hp]; simp
  | b :: l, k, i + 1, a, h, hp, hn => by
    have hb := hn 0 b (by omega) (by simp)
    rw [Yq, if_neg (by rw [hb]; simp), Oy (i := i) (a := a) (by simpa using h) hp fun j c hj hc => hn (j + 1) c (by omega) (by simpa using hc)]
    omega
theorem VZ {α : Type} {p : α → Bool} : ∀ {l : List α} {k : Int}, 0 ≤ k → Yq p l k = -1 ∨ (k ≤ Yq p l k ∧ Yq p l k < k + l.length)
  | [], _, _ => .inl rfl
  | a :: l, k, h => by
    unfold Yq
    by_cases hp : p a = true
    · rw [if_pos hp]; simp only [List.length_cons]; omega
    · rw [if_neg hp]
      rcases @VZ _ p l (k + 1) (by omega) with h1 | h1
      · exact .inl h1
      · simp only [List.length_cons]; omega
theorem Uf {α : Type} {p : α → Bool} : ∀ {l : List α} {k : Int} {i : Nat}, 0 ≤ k → Yq p l k = k + i → ∃ a, l[i]? = some a ∧ p a = true
  | [], k, i, h0, h => by simp [Yq] at h; omega
  | a :: l, k, i, h0, h => by
    unfold Yq at h
    by_cases hp : p a = true
    · rw [if_pos hp] at h
      obtain rfl : i = 0 := by omega
      exact ⟨a, by simp, hp⟩
    · rw [if_neg hp] at h
      cases i with
      | zero =>
        rcases @VZ _ p l (k + 1) (by omega) with h1 | h1 <;> omega
      | succ i =>
        obtain ⟨b, h1, h2⟩ := Uf (p := p) (i := i) (l := l) (k := k + 1) (by omega) (by omega)
        exact ⟨b, by simpa using h1, h2⟩
theorem ZZ {n : Net} {i : Nat} {l : Lk} (h : n.links[i]? = some l) : lnk n i = l := by simp [lnk, List.getD, h]
theorem YaO {n : Net} {i : Nat} {z : Int} (h : n.margin[i]? = some z) : mar n i = z := by simp [mar, List.getD, h]
theorem Ycd (n : Net) {i : Nat} (h : i < n.links.length) : n.links[i]? = some (lnk n i) := by simp [lnk, List.getD, h]
theorem Ybs {n : Net} (h : Ok n) {a b c : Int} {k : Nat} (hk : k ≤ n.links.length) (h1 : ∀ j, j < k → cmpL (lnk n j) (a, b, c) < 0) (h2 : ∀ j, k ≤ j → j < n.links.length → 0 ≤ cmpL (lnk n j) (a, b, c)) :
    YD n a b = if k < n.links.length ∧ cmpL (lnk n k) (a, b, c) = 0 then (k : Int) else -1 := by
  unfold YD
  have hlow : ∀ j l, j < k → n.links[j]? = some l → WA a b l = false := fun j l hj hl => by
    have := h1 j hj
    rw [ZZ hl, ZL] at this
    simp only [WA, Bool.and_eq_false_iff, decide_eq_false_iff_not]
    simp only at this
    omega
  by_cases hc : k < n.links.length ∧ cmpL (lnk n k) (a, b, c) = 0
  · rw [if_pos hc, Oy (Ycd n hc.1) (by have := Jh.1 hc.2; simp only at this; simp [WA, this]) hlow]
    omega
  · rw [if_neg hc]
    refine Uk fun l hl => ?_
    obtain ⟨j, hj, rfl⟩ := List.mem_iff_getElem.1 hl
    by_cases hjk : j < k
    · exact hlow j _ hjk (List.getElem?_eq_getElem hj)
    · have e : lnk n j = n.links[j] := ZZ (List.getElem?_eq_getElem hj)
      have h3 : cmpL (lnk n j) (a, b, c) ≠ 0 := by
        by_cases ejk : j = k
        · subst ejk; exact fun e => hc ⟨hj, e⟩
        · intro e0
          have h4 := OF h k j (by omega) hj
          have h5 := h2 k (Nat.le_refl _) (by omega)
          rw [Jh] at e0
          rw [ZL] at h4
          have h6 : ¬ cmpL (lnk n k) (a, b, c) < 0 := by omega
          rw [ZL] at h6
          simp only at *
          omega
      rw [e, Ne, Jh] at h3
      simp only at h3
      simp only [WA, Bool.and_eq_false_iff, decide_eq_false_iff_not]
      omega
def X6 (n : Net) (s d : Int) : Bool := decide (n.thr * (n.noise + d) ≤ s * 1000)
def Un (n : Net) (i : Nat) : Bool := decide (0 ≤ YD n (lnk n i).2.1 (lnk n i).1) && (X6 n (mar n i) 0 && X6 n (mar n (YD n (lnk n i).2.1 (lnk n i).1).toNat) 0)
theorem YgF {n : Net} (h : Ok n) {d : Int} (h0 : 0 ≤ d) (h1 : d ≤ 8796093022208) : -9223372036854775808 ≤ n.thr * (n.noise + d) ∧ n.thr * (n.noise + d) ≤ 9223372036854775807 := by
  have h2 := h.t0; have h3 := h.t1; have h4 := h.z0; have h5 := h.z1
  have h6 : 0 ≤ n.thr * (n.noise + d) := Int.mul_nonneg (by omega) (by omega)
  have h7 : n.thr * (n.noise + d) ≤ 100000 * (n.noise + d) := Int.mul_le_mul_of_nonneg_right h3 (by omega)
  omega
theorem YeE {n : Net} (h : Ok n) {i : Nat} (hi : i < n.links.length) : 0 ≤ mar n i ∧ mar n i ≤ 68719476736 := by
  have hl := h.lk i hi
  refine ⟨hl.m0, Int.le_trans hl.m1 ?_⟩
  unfold powr
  have e1 : (lnk n i).1.toNat < n.power.length := by have := h.p0; have := hl.f1; have := hl.f0; omega
  rw [show n.power.getD (lnk n i).1.toNat [] = n.power[(lnk n i).1.toNat] by simp [List.getD, e1]]
  have hm := List.getElem_mem e1
  have e2 : (lnk n i).2.1.toNat < (n.power[(lnk n i).1.toNat]).length := by have := h.p1 _ hm; have := hl.t1; have := hl.t0; omega
  rw [show (n.power[(lnk n i).1.toNat]).getD (lnk n i).2.1.toNat 0 = (n.power[(lnk n i).1.toNat])[(lnk n i).2.1.toNat] by simp [List.getD, e2]]
  exact (h.p2 _ hm _ (List.getElem_mem e2)).2
theorem ZO {n : Net} {a b : Int} (h : 0 ≤ YD n a b) : (YD n a b).toNat < n.links.length := by
  rcases @VZ _ (WA a b) n.links 0 (by omega) with h1 | h1 <;> unfold YD at h ⊢ <;> omega
theorem Ud {n : Net} {a b : Int} (h : 0 ≤ YD n a b) : (lnk n (YD n a b).toNat).1 = a ∧ (lnk n (YD n a b).toNat).2.1 = b := by
  obtain ⟨l, h1, h2⟩ := @Uf _ (WA a b) n.links 0 (YD n a b).toNat (by omega) (by unfold YD at *; omega)
  rw [ZZ h1]
  simpa [WA] using h2
end Go.Nw
namespace Go.Proofs.YtmalhidldgfeoaaGreatDoor
open Go.RowKit Go.Eng Go.Nw
abbrev netB (g : Nat) (n : NetM) : HP := blk g (.cells #[.int .i64 n.nodes, .slice n.pA n.rows.length n.pcap, .int .i64 n.noise, .int .i64 n.thr, .slice n.lA n.links.length n.lcap, .slice n.mA n.margin.length n.mcap] 26 (0, 0))
def Zj : List Int → Int
  | [] => 0
  | a :: l => if a ≠ 0 then a else Zj l
theorem Ya6 (l : List Int) {k : Nat} {a : Int} (h : l[k]? = some a) : Zj (l.drop k) = if a ≠ 0 then a else Zj (l.drop (k + 1)) := by
  obtain ⟨hk, rfl⟩ := List.getElem?_eq_some_iff.1 h
  rw [List.drop_eq_getElem_cons hk, Zj]
theorem Ygi (l : List Int) (hlen : l.length ≤ 1000) {A : Option Addr} {cap B : Nat} {w0 : World} {H : List HP} {w : World} (hr : Rd B w0 H A (l.flatMap numF)) (hw : St B w0 H w) :
    Calls Tryz.prog 98 [.slice A l.length cap].toArray w (Post B w0 fun v K => v = .int .i64 (Zj l) ∧ K = H) := by
  refine Yd Tryz.func98 Tryz.ntmps98 rfl rfl hw ?_
  repeat' (first | apply (zs1 ?_) | apply (zs2 ?_) | (apply zg4; refine zs9 ?_) | apply (zs65 ?_) | apply (zs68 ?_) | apply (zs69 ?_) | apply (zs70 ?_) | apply (zs73 ?_) | fail)
  refine Yk (fun (k : Nat) => [(8, .int .i64 k), (7, .int .i64 l.length), (6, .slice A l.length cap), (3, .int .i64 0)]) (fun _ => H) (fun k => k ≤ l.length ∧ Zj l = Zj (l.drop k)) (fun k => l.length - k) 0 ⟨Nat.zero_le _, by simp⟩ ?_ (fun w hw => hw) ?_
  · exact zu
  rintro k ⟨hk, hi⟩ K hK
  by_cases hlt : k < l.length
  · obtain ⟨a, ha⟩ : ∃ a, l[k]? = some a := ⟨_, List.getElem?_eq_getElem hlt⟩
    rw [Ya6 l ha] at hi
    repeat' (first | apply (zs1 ?_) | apply (zs2 ?_) | (apply zg3; refine zs60 ?_) | (apply zg5; refine zs57 ?_) | (apply zg8; (refine zs16 ?_ ?_ <;> intro _ <;> try (exfalso; omega))) | (apply (zs17 ?_ ?_) <;> intro _ <;> try (exfalso; omega)) | (apply zg13; refine zs30 ?_) | apply (zs65 ?_) | apply (zs68 ?_) | apply (zs69 ?_) | apply (zs70 ?_) | (apply zg27; first | refine zs71 ?_ | refine zs72 ?_) | apply (zs73 ?_) | apply (zs74 ?_) | apply (zs76 ?_) | apply (zs77 ?_) | apply (zs78 ?_) | apply (zs79 ?_) | fail)
    · rename_i h
      rw [if_pos h] at hi
      ((repeat apply Yn); apply Yc; exact rfl; exact rfl; refine ⟨congrArg _ ?_, rfl⟩)
      rw [hi]
    · rename_i h
      rw [if_neg (by omega)] at hi
      repeat' (first | fail)
      apply hK (k + 1)
      · exact ⟨by omega, hi⟩
      · omega
      · exact zu
      · exact fun w hw => hw
  · repeat' (first | apply (zs1 ?_) | apply (zs2 ?_) | (apply (zs17 ?_ ?_) <;> intro _ <;> try (exfalso; omega)) | apply (zs65 ?_) | apply (zs68 ?_) | apply (zs69 ?_) | apply (zs70 ?_) | (apply zg27; refine zs72 ?_) | apply (zs74 ?_) | apply (zs75 ?_) | apply (zs80 ?_) | apply (zs81 ?_) | fail)
    ((repeat apply Yn); apply Yc; exact rfl; exact rfl; refine ⟨congrArg _ ?_, rfl⟩)
    rw [hi, List.drop_eq_nil_of_le (by omega)]; rfl
theorem Yhk (x y : Int) : Zj [x, y] = if x = 0 then y else x := by
  simp only [Zj]
  by_cases h : x = 0
  · by_cases h2 : y = 0 <;> simp [h, h2]
  · simp [h]
theorem Zi (a b : Lk) {B : Nat} {w0 : World} {H : List HP} {w : World} (hw : St B w0 H w) : Calls Tryz.prog 166 [lkV a, lkV b].toArray w (Post B w0 fun v K => v = .int .i64 (cmpL a b) ∧ K = H) := by
  refine Yd Tryz.func166 Tryz.ntmps166 rfl rfl hw ?_
  repeat' (first | apply (zs2 ?_) | (apply zg23; (refine zs52 ?_; intro _)) | apply (zs65 ?_) | apply (zs68 ?_) | apply (zs69 ?_) | apply (zs70 ?_) | fail)
  apply Zm [0, 1, 2, 3, 5, 6, 7, 8, 4, 9, 10, 11, 12] [] [true, true]
  kernel_rfl
  kernel_rfl
  exact zy
  (simp only [Yi, nthO]; rfl)
  exact rfl
  repeat' (first | ((first | apply Ya en99 | apply Yb en99); exact za; exact rfl; exact fun _ hw => (Wx _ _ hw)) | (apply zg2; refine zs6 ?_) | (apply zg3; refine zs7 ?_) | (apply zg26; (refine zs56 ?_; intro _)) | apply (zs65 ?_) | apply (zs87 ?_) | (apply Ym; (repeat (first | with_reducible exact Yh | (with_reducible apply Yg; (repeat (first | with_reducible exact Yf | with_reducible apply Ye)))))) | fail)
  rename_i g
  first | apply Ya en98 | apply Yb en98
  exact za
  exact rfl
  exact fun _ hw => (Ygi [cmpI a.1 b.1, cmpI a.2.1 b.2.1] (by simp) (Rd.blk (g := g) (cs := #[.int .i64 (cmpI a.1 b.1), .int .i64 (cmpI a.2.1 b.2.1)]) zm) hw)
  repeat' (first | apply (zs2 ?_) | apply (zs65 ?_) | (apply Yp; exact zp) | apply (zs68 ?_) | apply (zs74 ?_) | (apply Ym; (repeat (first | with_reducible exact Yh | (with_reducible apply Yg; (repeat (first | with_reducible exact Yf | with_reducible apply Ye)))))) | apply (zs93 ?_) | apply (zs94 ?_) | fail)
  ((repeat apply Yn); apply Yc; exact rfl; exact rfl; refine ⟨congrArg _ ?_, rfl⟩)
  rw [Yhk]; rfl
theorem Uy (n : NetM) (g : Nat) (a : Int) {B : Nat} {w0 : World} {H : List HP} {w : World} (hm : netB g n ∈ H) (hw : St B w0 H w) :
    Calls Tryz.prog 165 [.int .i64 a, .pointer (some ⟨g, 0, none⟩)].toArray w (Post B w0 fun v K => v = .bool (decide (0 ≤ a ∧ a < n.nodes)) ∧ K = H) := by
  refine Yd Tryz.func165 Tryz.ntmps165 rfl rfl hw ?_
  repeat' (first | apply (zs1 ?_) | apply (zs2 ?_) | (apply zg1; first | refine zs3 ?_ | refine zs4 ?_) | (apply zg2; refine zs6 ?_) | (apply zg3; refine zs7 ?_) | (apply zg6; first | refine zs11 ?_ | refine zs12 ?_) | (apply (zs17 ?_ ?_) <;> intro _ <;> try (exfalso; omega)) | (apply (zs20 ?_ ?_) <;> intro _ <;> try (exfalso; omega)) | apply (zs65 ?_) | apply (zs68 ?_) | apply (zs69 ?_) | apply (zs70 ?_) | apply (zs74 ?_) | fail)
  · apply Yc; exact rfl; exact rfl
    exact ⟨by rw [decide_eq_true (by omega)], rfl⟩
  · apply Yc; exact rfl; exact rfl
    exact ⟨by rw [decide_eq_false (by omega)], rfl⟩
  · apply Yc; exact rfl; exact rfl
    exact ⟨by rw [decide_eq_false (by omega)], rfl⟩
open Go.RowKit Go.Eng Go.Nw
theorem YbJ {n : Net} {a b : Int} {r : List Int} {p : Int} (h1 : n.power[a.toNat]? = some r) (h2 : r[b.toNat]? = some p) : powr n a b = p := by simp [powr, List.getD, h1, h2]
theorem W3 (n : NetM) (i : Nat) {B : Nat} {w0 : World} {H : List HP} {w : World} (hin : n.In B w0 H) (hi : i < n.links.length) (hml : n.margin.length = n.links.length) (ht : Jv n.net = 0) (hw : St B w0 H w) :
    Calls Tryz.prog 109 [n.val, .int .i64 i].toArray w (Post B w0 fun v K => v = .int .i64 (VA n.net i) ∧ K = H) := by
  refine Yd Tryz.func109 Tryz.ntmps109 rfl rfl hw ?_
  obtain ⟨hpw, hrw, hlk, hmg, hs1, hs2, hs3, hs4⟩ := hin
  obtain ⟨t1, t2, t3⟩ := Ycc ht
  obtain ⟨l, hl⟩ : ∃ l, n.links[i]? = some l := ⟨_, List.getElem?_eq_getElem hi⟩
  obtain ⟨z, hz⟩ : ∃ z, n.margin[i]? = some z := ⟨_, List.getElem?_eq_getElem (by omega)⟩
  have e1 : lnk n.net i = l := ZZ hl
  have e2 : mar n.net i = z := YaO hz
  have e3 : n.net.nodes = n.nodes := rfl
  have e4 : n.net.power.length = n.rows.length := by simp [NetM.net]
  rw [e4, e3] at t1
  unfold VA
  rw [e1, e2, e3]
  by_cases h1 : 0 ≤ l.1 ∧ l.1 < n.nodes
  rotate_left
  · skip
    repeat' (first | ((first | apply ZE (cs := [_]) | apply ZH (cs := [_])); exact rfl; exact Yc8; exact za; exact rfl; exact fun _ hw => (Uy n _ _ zm hw); all_goals (intro hB; (try simp only [decide_eq_true_eq, decide_eq_false_iff_not] at hB); try (exfalso; omega))) | apply (zs1 ?_) | apply (zs2 ?_) | (apply zg1; refine zs3 ?_) | (apply zg2; refine zs6 ?_) | (apply zg3; first | refine zs7 ?_ | refine zs61 ?_) | (apply zg5; refine zs57 ?_) | (apply zg6; refine zs11 ?_) | (apply zg20; refine zs48 ?_) | (apply zg22; refine zs51 ?_) | (apply zg23; (refine zs52 ?_; intro _)) | (apply zg24; (refine zs54 ?_; intro _)) | apply (zs65 ?_) | apply (zs68 ?_) | apply (zs69 ?_) | apply (zs70 ?_) | (apply zg27; refine zs71 ?_) | apply (zs73 ?_) | apply (zs74 ?_) | apply (zs77 ?_) | apply (zs78 ?_) | (apply zg29; (apply Yo; exact za ; exact rfl)) | fail)
    all_goals (((repeat apply Yn); apply Yc; exact rfl; exact rfl; refine ⟨congrArg _ ?_, rfl⟩); (repeat (first | refine Y0 (by omega) ?_ | refine YZ (by omega) ?_)); rfl)
  by_cases h2 : 0 ≤ l.2.1 ∧ l.2.1 < n.nodes
  rotate_left
  · skip
    repeat' (first | ((first | apply ZE (cs := [_]) | apply ZH (cs := [_])); exact rfl; exact Yc8; exact za; exact rfl; exact fun _ hw => (Uy n _ _ zm hw); all_goals (intro hB; (try simp only [decide_eq_true_eq, decide_eq_false_iff_not] at hB); try (exfalso; omega))) | apply (zs1 ?_) | apply (zs2 ?_) | (apply zg1; first | refine zs3 ?_ | refine zs4 ?_) | (apply zg2; refine zs6 ?_) | (apply zg3; first | refine zs7 ?_ | refine zs61 ?_) | (apply zg5; refine zs57 ?_) | (apply zg6; first | refine zs11 ?_ | refine zs12 ?_) | (apply zg20; first | refine zs47 ?_ | refine zs48 ?_) | (apply zg22; refine zs51 ?_) | (apply zg23; (refine zs52 ?_; intro _)) | (apply zg24; (refine zs54 ?_; intro _)) | apply (zs65 ?_) | apply (zs68 ?_) | apply (zs69 ?_) | apply (zs70 ?_) | (apply zg27; refine zs71 ?_) | apply (zs73 ?_) | apply (zs74 ?_) | apply (zs77 ?_) | apply (zs78 ?_) | (apply zg29; (apply Yo; exact za ; exact rfl)) | fail)
    all_goals (((repeat apply Yn); apply Yc; exact rfl; exact rfl; refine ⟨congrArg _ ?_, rfl⟩); (repeat (first | refine Y0 (by omega) ?_ | refine YZ (by omega) ?_)); rfl)
  obtain ⟨r, hr⟩ : ∃ r, n.rows[l.1.toNat]? = some r := ⟨_, List.getElem?_eq_getElem (by omega)⟩
  have hrm : r ∈ n.rows := List.mem_of_getElem? hr
  have hrr := hrw r hrm
  have hrs := hs2 r hrm
  have hrl : (r.xs.length : Int) = n.nodes := t2 r.xs (List.mem_map.2 ⟨r, hrm, rfl⟩)
  obtain ⟨p, hp⟩ : ∃ p, r.xs[l.2.1.toNat]? = some p := ⟨_, List.getElem?_eq_getElem (by omega)⟩
  rw [YbJ (n := n.net) (r := r.xs) (by simp [NetM.net, hr]) hp]
  by_cases h0 : 0 < i
  · obtain ⟨q, hq⟩ : ∃ q, n.links[((i : Int) - 1).toNat]? = some q := ⟨_, List.getElem?_eq_getElem (by omega)⟩
    rw [show lnk n.net (i - 1) = q from ZZ (by rw [show i - 1 = ((i : Int) - 1).toNat by omega]; exact hq)]
    repeat' (first | ((first | apply ZE (cs := [_]) | apply ZH (cs := [_])); exact rfl; exact Yc8; exact za; exact rfl; exact fun _ hw => (Uy n _ _ zm hw); all_goals (intro hB; (try simp only [decide_eq_true_eq, decide_eq_false_iff_not] at hB); try (exfalso; omega))) | ((first | apply Ya Yab | apply Yb Yab); exact za; exact rfl; exact fun _ hw => (Zi q l hw)) | apply (zs1 ?_) | apply (zs2 ?_) | (apply zg1; first | refine zs3 ?_ | refine zs4 ?_) | (apply zg2; refine zs6 ?_) | (apply zg3; first | refine zs7 ?_ | refine zs8 ?_ | refine zs60 ?_ | refine zs61 ?_) | (apply zg5; refine zs57 ?_) | (apply zg6; first | refine zs11 ?_ | refine zs12 ?_) | (apply zg7; (refine zs15 ?_ ?_ <;> intro _ <;> try (exfalso; omega))) | (apply (zs17 ?_ ?_) <;> intro _ <;> try (exfalso; omega)) | (apply (zs19 ?_ ?_) <;> intro _ <;> try (exfalso; omega)) | (apply (zs20 ?_ ?_) <;> intro _ <;> try (exfalso; omega)) | (apply zg14; refine zs31 ?_) | (apply zg20; refine zs47 ?_) | (apply zg22; refine zs51 ?_) | (apply zg23; (refine zs52 ?_; intro _)) | (apply zg24; (refine zs54 ?_; intro _)) | apply (zs65 ?_) | apply (zs66 ?_) | apply (zs68 ?_) | apply (zs69 ?_) | apply (zs70 ?_) | (apply zg27; first | refine zs71 ?_ | refine zs72 ?_) | apply (zs73 ?_) | apply (zs74 ?_) | apply (zs76 ?_) | apply (zs77 ?_) | apply (zs78 ?_) | apply (zs79 ?_) | (apply zg28; first | refine zs83 ?_ | refine zs84 ?_) | (apply zg29; (apply Yo; exact za ; exact rfl)) | fail)
    all_goals (((repeat apply Yn); apply Yc; exact rfl; exact rfl; refine ⟨congrArg _ ?_, rfl⟩); (repeat (first | refine Y0 (by omega) ?_ | refine YZ (by omega) ?_)); rfl)
  · skip
    repeat' (first | ((first | apply ZE (cs := [_]) | apply ZH (cs := [_])); exact rfl; exact Yc8; exact za; exact rfl; exact fun _ hw => (Uy n _ _ zm hw); all_goals (intro hB; (try simp only [decide_eq_true_eq, decide_eq_false_iff_not] at hB); try (exfalso; omega))) | ((first | apply Ya Yab | apply Yb Yab); exact za; exact rfl; exact fun _ hw => (Zi _ _ hw)) | apply (zs1 ?_) | apply (zs2 ?_) | (apply zg1; first | refine zs3 ?_ | refine zs4 ?_) | (apply zg2; refine zs6 ?_) | (apply zg3; first | refine zs7 ?_ | refine zs60 ?_ | refine zs61 ?_) | (apply zg5; refine zs57 ?_) | (apply zg6; first | refine zs11 ?_ | refine zs12 ?_) | (apply zg7; (refine zs15 ?_ ?_ <;> intro _ <;> try (exfalso; omega))) | (apply (zs17 ?_ ?_) <;> intro _ <;> try (exfalso; omega)) | (apply (zs19 ?_ ?_) <;> intro _ <;> try (exfalso; omega)) | (apply zg20; refine zs47 ?_) | (apply zg22; refine zs51 ?_) | (apply zg23; (refine zs52 ?_; intro _)) | (apply zg24; (refine zs54 ?_; intro _)) | apply (zs65 ?_) | apply (zs66 ?_) | apply (zs68 ?_) | apply (zs69 ?_) | apply (zs70 ?_) | (apply zg27; first | refine zs71 ?_ | refine zs72 ?_) | apply (zs73 ?_) | apply (zs74 ?_) | apply (zs76 ?_) | apply (zs77 ?_) | apply (zs78 ?_) | apply (zs79 ?_) | (apply zg28; first | refine zs83 ?_ | refine zs84 ?_) | (apply zg29; (apply Yo; exact za ; exact rfl)) | fail)
    all_goals (((repeat apply Yn); apply Yc; exact rfl; exact rfl; refine ⟨congrArg _ ?_, rfl⟩); (repeat (first | refine Y0 (by omega) ?_ | refine YZ (by omega) ?_)); rfl)
theorem YH (n : NetM) {B : Nat} {w0 : World} {H : List HP} {w : World} (hin : n.In B w0 H) (hw : St B w0 H w) :
    Calls Tryz.prog 50 [n.val].toArray w (Post B w0 fun v K => v = .int .i64 (Yy n.net) ∧ K = H) := by
  refine Yd Tryz.func50 Tryz.ntmps50 rfl rfl hw ?_
  have e3 : n.net.nodes = n.nodes := rfl
  have e5 : n.net.noise = n.noise := rfl
  have e6 : n.net.thr = n.thr := rfl
  have e7 : n.net.links = n.links := rfl
  have e8 : n.net.margin = n.margin := rfl
  have hs1 := hin.s1
  have hs3 := hin.s3
  have hs4 := hin.s4
  unfold Yy
  rw [e3, e5, e6, e7, e8]
  (apply Jr; apply Zq; apply XV; exact rfl; exact rfl; intro g)
  repeat' (first | ((first | apply Ya YgV | apply Yb YgV); exact za; exact rfl; exact fun _ hw => (WG n hin.cons hw)) | apply (zs1 ?_) | apply (zs2 ?_) | (apply zg1; first | refine zs3 ?_ | refine zs4 ?_) | (apply zg2; refine zs6 ?_) | (apply zg3; first | refine zs7 ?_ | refine zs8 ?_) | (apply zg4; refine zs9 ?_) | (apply zg6; first | refine zs11 ?_ | refine zs12 ?_) | (apply zg8; (refine zs16 ?_ ?_ <;> intro _ <;> try (exfalso; omega))) | (apply (zs17 ?_ ?_) <;> intro _ <;> try (exfalso; omega)) | (apply (zs19 ?_ ?_) <;> intro _ <;> try (exfalso; omega)) | apply (zs65 ?_) | apply (zs68 ?_) | apply (zs69 ?_) | apply (zs70 ?_) | (apply zg27; first | refine zs71 ?_ | refine zs72 ?_) | apply (zs73 ?_) | apply (zs74 ?_) | apply (zs76 ?_) | apply (zs77 ?_) | apply (zs78 ?_) | apply (zs79 ?_) | fail)
  any_goals (((repeat apply Yn); apply Yc; exact rfl; exact rfl; refine ⟨congrArg _ ?_, rfl⟩); (repeat (first | refine Y0 (by omega) ?_ | refine YZ (by omega) ?_)); rfl)
  have ht : Jv n.net = 0 := by assumption
  refine Yk (fun (k : Nat) => [(54, .int .i64 k), (53, .int .i64 n.links.length), (1, .pointer (some ⟨g, 0, none⟩))]) (fun _ => netB g n :: H) (fun k => k ≤ n.links.length ∧ ZI n.net n.links.length 0 = ZI n.net (n.links.length - k) k) (fun k => n.links.length - k) 0 ⟨Nat.zero_le _, rfl⟩ ?_ (fun w hw => hw) ?_
  · exact zu
  rintro k ⟨hk, hi⟩ K hK
  by_cases hlt : k < n.links.length
  · skip
    repeat' (first | ((first | apply Ya YgZ | apply Yb YgZ); exact za; exact rfl; exact fun _ hw => (W3 n k hin.cons hlt (by omega) ht hw)) | apply (zs1 ?_) | apply (zs2 ?_) | (apply zg3; refine zs8 ?_) | (apply zg8; (refine zs16 ?_ ?_ <;> intro _ <;> try (exfalso; omega))) | (apply (zs17 ?_ ?_) <;> intro _ <;> try (exfalso; omega)) | (apply zg13; refine zs30 ?_) | apply (zs65 ?_) | apply (zs68 ?_) | apply (zs69 ?_) | apply (zs70 ?_) | (apply zg27; first | refine zs71 ?_ | refine zs72 ?_) | apply (zs73 ?_) | apply (zs74 ?_) | apply (zs76 ?_) | apply (zs77 ?_) | apply (zs78 ?_) | apply (zs79 ?_) | fail)
    · ((repeat apply Yn); apply Yc; exact rfl; exact rfl; refine ⟨congrArg _ ?_, rfl⟩)
      (repeat (first | refine Y0 (by omega) ?_ | refine YZ (by omega) ?_))
      rw [hi]; exact (Ybd n.net hlt (by assumption)).symm
    · apply hK (k + 1)
      · exact ⟨by omega, by rw [hi]; exact Yb8 n.net hlt (by assumption)⟩
      · omega
      · exact zu
      · exact fun w hw => hw
  · repeat' (first | apply (zs2 ?_) | (apply (zs17 ?_ ?_) <;> intro _ <;> try (exfalso; omega)) | apply (zs65 ?_) | apply (zs68 ?_) | apply (zs69 ?_) | apply (zs70 ?_) | (apply zg27; refine zs72 ?_) | apply (zs74 ?_) | apply (zs75 ?_) | apply (zs80 ?_) | apply (zs81 ?_) | fail)
    ((repeat apply Yn); apply Yc; exact rfl; exact rfl; refine ⟨congrArg _ ?_, rfl⟩)
    (repeat (first | refine Y0 (by omega) ?_ | refine YZ (by omega) ?_))
    rw [hi, show n.links.length - k = 0 by omega]; rfl
open Go.RowKit Go.Eng Go.Nw
theorem Ycv (n : NetM) (t : Lk) {B : Nat} {w0 : World} {H : List HP} {w : World} (hin : n.In B w0 H) (hok : Ok n.net) (hw : St B w0 H w) :
    Calls Tryz.prog 214 [.slice n.lA n.links.length n.lcap, lkV t, .func (.func 166) #[] #[]].toArray w (Post B w0 fun v K => ∃ k : Nat,
      v = .tuple #[.int .i64 k, .bool (decide (k < n.links.length ∧ cmpL (lnk n.net k) t = 0))] ∧ k ≤ n.links.length ∧ (∀ j, j < k → cmpL (lnk n.net j) t < 0) ∧ (∀ j, k ≤ j → j < n.links.length → 0 ≤ cmpL (lnk n.net j) t) ∧ K = H) := by
  refine Yd Tryz.func214 Tryz.ntmps214 rfl rfl hw ?_
  obtain ⟨hpw, hrw, hlk, hmg, hs1, hs2, hs3, hs4⟩ := hin
  have hl8 : n.links.length ≤ 128 := hok.k0
  (apply Jr; apply Zq; apply XV; exact rfl; exact rfl; intro g)
  repeat' (first | apply (zs1 ?_) | apply (zs2 ?_) | (apply zg4; refine zs9 ?_) | apply (zs65 ?_) | apply (zs68 ?_) | apply (zs69 ?_) | apply (zs70 ?_) | apply (zs73 ?_) | fail)
  refine YfR (fun (lo hi : Nat) => [(9, .int .i64 lo), (10, .int .i64 hi), (8, .int .i64 n.links.length), (0, .slice n.lA n.links.length n.lcap), (2, .func (.func 166) #[] #[]), (4, .pointer (some ⟨g, 0, none⟩))]) (fun _ _ => blk g (.cells #[.int .i64 t.1, .int .i64 t.2.1, .int .i64 t.2.2] 172 (0, 0)) :: H)
    (fun lo hi => lo ≤ hi ∧ hi ≤ n.links.length ∧ (∀ j, j < lo → cmpL (lnk n.net j) t < 0) ∧ (∀ j, hi ≤ j → j < n.links.length → 0 ≤ cmpL (lnk n.net j) t)) (fun lo hi => hi - lo) 0 n.links.length ⟨by omega, by omega, fun j hj => by omega, fun j h1 h2 => by omega⟩ ?_ (fun w hw => hw) ?_
  · exact zu
  rintro lo hi ⟨h1, h2, h3, h4⟩ K hK
  by_cases hlt : lo < hi
  · obtain ⟨b, hb⟩ : ∃ b, n.links[(((lo : Int) + hi) / 2).toNat]? = some b := ⟨_, List.getElem?_eq_getElem (by omega)⟩
    have hm : (((lo : Int) + hi) / 2).toNat = (lo + hi) / 2 := by omega
    have eb : lnk n.net ((lo + hi) / 2) = b := by rw [← hm]; exact ZZ hb
    repeat' (first | ((first | apply YE (cs := []) | apply Y4 (cs := [])); exact rfl; exact Yab; exact za; exact rfl; exact fun _ hw => (Zi b t hw)) | apply (zs1 ?_) | apply (zs2 ?_) | (apply zg3; first | refine zs8 ?_ | refine zs61 ?_) | (apply zg5; refine zs57 ?_) | (apply (zs17 ?_ ?_) <;> intro _ <;> try (exfalso; omega)) | (apply zg13; refine zs30 ?_) | (apply zg18; refine zs38 ?_) | (apply zg19; first | refine zs44 ?_ | refine zs45 ?_) | apply (zs65 ?_) | apply (zs66 ?_) | apply (zs68 ?_) | apply (zs69 ?_) | apply (zs70 ?_) | (apply zg27; first | refine zs71 ?_ | refine zs72 ?_) | apply (zs73 ?_) | apply (zs76 ?_) | apply (zs79 ?_) | (apply zg28; refine zs84 ?_) | fail)
    · rename_i hc
      apply hK ((lo + hi) / 2 + 1) hi
      · refine ⟨by omega, by omega, fun j hj => ?_, h4⟩
        by_cases e : j = (lo + hi) / 2
        · rw [e, eb]; exact hc
        · have h5 := OF hok j ((lo + hi) / 2) (by omega) (by show _ < n.links.length; omega)
          rw [eb] at h5
          rw [ZL] at *
          omega
      · omega
      · exact zu
      · exact fun w hw => hw
    · rename_i hc
      apply hK lo ((lo + hi) / 2)
      · refine ⟨by omega, by omega, h3, fun j hj hjl => ?_⟩
        by_cases e : j = (lo + hi) / 2
        · rw [e, eb]; exact hc
        · have h5 := OF hok ((lo + hi) / 2) j (by omega) hjl
          rw [eb] at h5
          have h6 : ¬ cmpL b t < 0 := by omega
          have h7 : ¬ cmpL (lnk n.net j) t < 0 := by
            rw [ZL] at *
            omega
          omega
      · omega
      · exact zu
      · exact fun w hw => hw
  · obtain rfl : lo = hi := by omega
    by_cases hl : lo < n.links.length
    · obtain ⟨b, hb⟩ : ∃ b, n.links[lo]? = some b := ⟨_, List.getElem?_eq_getElem hl⟩
      have eb : lnk n.net lo = b := ZZ hb
      repeat' (first | ((first | apply YE (cs := []) | apply Y4 (cs := [])); exact rfl; exact Yab; exact za; exact rfl; exact fun _ hw => (Zi b t hw)) | apply (zs1 ?_) | apply (zs2 ?_) | (apply zg1; refine zs4 ?_) | (apply zg3; first | refine zs8 ?_ | refine zs61 ?_) | (apply zg5; refine zs57 ?_) | (apply zg6; refine zs11 ?_) | (apply zg7; (refine zs15 ?_ ?_ <;> intro _ <;> try (exfalso; omega))) | (apply (zs17 ?_ ?_) <;> intro _ <;> try (exfalso; omega)) | apply (zs65 ?_) | apply (zs66 ?_) | apply (zs68 ?_) | apply (zs69 ?_) | apply (zs70 ?_) | (apply zg27; refine zs72 ?_) | apply (zs74 ?_) | apply (zs75 ?_) | apply (zs80 ?_) | apply (zs81 ?_) | (apply zg28; refine zs84 ?_) | fail)
      all_goals (apply Yn; apply Yt; exact rfl; exact rfl; exact rfl; refine ⟨lo, ?_, h2, h3, h4, rfl⟩; rw [eb])
      · rw [decide_eq_true ⟨hl, by assumption⟩]
      · rw [decide_eq_false fun hc => absurd hc.2 (by assumption)]
    · repeat' (first | apply (zs1 ?_) | apply (zs2 ?_) | (apply zg1; refine zs3 ?_) | (apply zg6; refine zs12 ?_) | (apply (zs17 ?_ ?_) <;> intro _ <;> try (exfalso; omega)) | apply (zs65 ?_) | apply (zs66 ?_) | apply (zs68 ?_) | apply (zs69 ?_) | apply (zs70 ?_) | (apply zg27; refine zs72 ?_) | apply (zs74 ?_) | apply (zs75 ?_) | apply (zs80 ?_) | apply (zs81 ?_) | (apply zg28; refine zs84 ?_) | fail)
      apply Yn; apply Yt; exact rfl; exact rfl; exact rfl
      refine ⟨lo, ?_, h2, h3, h4, rfl⟩
      rw [decide_eq_false fun hc => hl hc.1]
theorem US (n : NetM) (a b : Int) {B : Nat} {w0 : World} {H : List HP} {w : World} (hin : n.In B w0 H) (hok : Ok n.net) (hw : St B w0 H w) :
    Calls Tryz.prog 155 [n.val, .int .i64 a, .int .i64 b].toArray w (Post B w0 fun v K => v = .int .i64 (YD n.net a b) ∧ K = H) := by
  refine Yd Tryz.func155 Tryz.ntmps155 rfl rfl hw ?_
  (apply Jr; apply Zq; apply XV; exact rfl; exact rfl; intro g)
  repeat' (first | apply (zs1 ?_) | apply (zs2 ?_) | (apply zg2; refine zs6 ?_) | (apply zg3; refine zs7 ?_) | (apply zg25; refine zs55 ?_) | apply (zs65 ?_) | apply (zs68 ?_) | apply (zs69 ?_) | apply (zs70 ?_) | fail)
  apply Ys _ YhW
  exact za
  exact rfl
  exact fun _ hw => (Ycv n (a, b, 0) hin.cons hok (hw))
  rintro _ _ ⟨k, rfl, hk, h1, h2, rfl⟩
  have hf := Ybs hok hk h1 h2
  rw [hf]
  by_cases hc : k < n.links.length ∧ cmpL (lnk n.net k) (a, b, 0) = 0
  · rw [decide_eq_true hc]
    repeat' (first | apply (zs1 ?_) | apply (zs2 ?_) | apply (zs13 ?_) | (apply zg20; refine zs47 ?_) | apply (zs65 ?_) | apply (zs68 ?_) | apply (zs69 ?_) | apply (zs70 ?_) | (apply zg27; refine zs72 ?_) | apply (zs74 ?_) | apply (zs76 ?_) | fail)
    ((repeat apply Yn); apply Yc; exact rfl; exact rfl; refine ⟨congrArg _ ?_, rfl⟩)
    exact (if_pos hc).symm
  · rw [decide_eq_false hc]
    repeat' (first | apply (zs1 ?_) | apply (zs2 ?_) | apply (zs13 ?_) | (apply zg20; refine zs48 ?_) | apply (zs65 ?_) | apply (zs68 ?_) | apply (zs69 ?_) | apply (zs70 ?_) | (apply zg27; refine zs71 ?_) | apply (zs74 ?_) | apply (zs77 ?_) | fail)
    ((repeat apply Yn); apply Yc; exact rfl; exact rfl; refine ⟨congrArg _ ?_, rfl⟩)
    exact (if_neg hc).symm
def X7 (n : Net) (a b : Int) : Int := if Yy n ≠ 0 then -1 else YD n a b
theorem XP (n : NetM) (a b : Int) {B : Nat} {w0 : World} {H : List HP} {w : World} (hin : n.In B w0 H) (hw : St B w0 H w) :
    Calls Tryz.prog 95 [n.val, .int .i64 a, .int .i64 b].toArray w (Post B w0 fun v K => v = .int .i64 (X7 n.net a b) ∧ K = H) := by
  refine Yd Tryz.func95 Tryz.ntmps95 rfl rfl hw ?_
  unfold X7
  repeat' (first | ((first | apply Ya en50 | apply Yb en50); exact za; exact rfl; exact fun _ hw => (YH n hin.cons hw)) | ((first | apply Ya Yal | apply Yb Yal); exact za; exact rfl; exact fun _ hw => (US n _ _ hin.cons (Y2 (by assumption)) hw)) | apply (zs1 ?_) | apply (zs2 ?_) | (apply zg3; refine zs8 ?_) | (apply zg8; (refine zs16 ?_ ?_ <;> intro _ <;> try (exfalso; omega))) | (apply zg23; (refine zs52 ?_; intro _)) | apply (zs65 ?_) | apply (zs68 ?_) | apply (zs69 ?_) | apply (zs70 ?_) | (apply zg27; first | refine zs71 ?_ | refine zs72 ?_) | apply (zs74 ?_) | apply (zs76 ?_) | apply (zs77 ?_) | fail)
  all_goals (((repeat apply Yn); apply Yc; exact rfl; exact rfl; refine ⟨congrArg _ ?_, rfl⟩); (repeat (first | refine Y0 (by omega) ?_ | refine YZ (by omega) ?_)); rfl)
theorem OB (n : NetM) (s d : Int) {B : Nat} {w0 : World} {H : List HP} {w : World} (hok : Ok n.net) (hs : 0 ≤ s ∧ s ≤ 8796093022208) (hd : 0 ≤ d ∧ d ≤ 8796093022208) (hw : St B w0 H w) :
    Calls Tryz.prog 171 [n.val, .int .i64 s, .int .i64 d].toArray w (Post B w0 fun v K => v = .bool (X6 n.net s d) ∧ K = H) := by
  refine Yd Tryz.func171 Tryz.ntmps171 rfl rfl hw ?_
  have hb : -9223372036854775808 ≤ n.thr * (n.noise + d) ∧ n.thr * (n.noise + d) ≤ 9223372036854775807 := YgF hok hd.1 hd.2
  have hz0 : 0 ≤ n.noise := hok.z0
  have hz1 : n.noise ≤ 68719476736 := hok.z1
  unfold X6
  show VC Tryz.prog _ B w0 _ (bodyPost Tryz.prog _ (Post B w0 fun v K => v = .bool (decide (n.thr * (n.noise + d) ≤ s * 1000)) ∧ K = H)) _ _
  repeat' (first | apply (zs1 ?_) | apply (zs2 ?_) | (apply zg2; refine zs6 ?_) | (apply zg3; refine zs7 ?_) | (apply (zs20 ?_ ?_) <;> intro _ <;> try (exfalso; omega)) | (apply zg13; refine zs30 ?_) | (apply zg15; refine zs32 ?_) | (apply zg23; (refine zs52 ?_; intro _)) | apply (zs65 ?_) | apply (zs68 ?_) | apply (zs69 ?_) | apply (zs70 ?_) | apply (zs74 ?_) | fail)
  · (repeat apply Yn); apply Yc; exact rfl; exact rfl
    exact ⟨by rw [decide_eq_true (by assumption)], rfl⟩
  · (repeat apply Yn); apply Yc; exact rfl; exact rfl
    exact ⟨by rw [decide_eq_false (by omega)], rfl⟩
def JX (n : Net) (s d : Int) : Bool := decide (Yy n = 0) && (decide (0 ≤ s ∧ 0 ≤ d ∧ s ≤ 8796093022208 ∧ d ≤ 8796093022208) && X6 n s d)
theorem OE (n : NetM) (s d : Int) {B : Nat} {w0 : World} {H : List HP} {w : World} (hin : n.In B w0 H) (hw : St B w0 H w) :
    Calls Tryz.prog 115 [n.val, .int .i64 s, .int .i64 d].toArray w (Post B w0 fun v K => v = .bool (JX n.net s d) ∧ K = H) := by
  refine Yd Tryz.func115 Tryz.ntmps115 rfl rfl hw ?_
  unfold JX
  by_cases h0 : Yy n.net = 0
  rotate_left
  · rw [decide_eq_false h0]
    repeat' (first | ((first | apply Ya en50 | apply Yb en50); exact za; exact rfl; exact fun _ hw => (YH n hin.cons hw)) | apply (zs1 ?_) | apply (zs2 ?_) | (apply zg1; refine zs3 ?_) | (apply zg3; refine zs8 ?_) | (apply zg6; refine zs11 ?_) | (apply zg8; (refine zs16 ?_ ?_ <;> intro _ <;> try (exfalso; omega))) | (apply zg23; (refine zs52 ?_; intro _)) | apply (zs65 ?_) | apply (zs68 ?_) | apply (zs69 ?_) | apply (zs70 ?_) | (apply zg27; refine zs71 ?_) | apply (zs74 ?_) | apply (zs77 ?_) | fail)
    (repeat apply Yn); apply Yc; exact rfl; exact rfl
    exact ⟨rfl, rfl⟩
  rw [decide_eq_true h0]
  by_cases h1 : 0 ≤ s ∧ 0 ≤ d ∧ s ≤ 8796093022208 ∧ d ≤ 8796093022208
  rotate_left
  · rw [decide_eq_false h1]
    repeat' (first | ((first | apply Ya en50 | apply Yb en50); exact za; exact rfl; exact fun _ hw => (YH n hin.cons hw)) | apply (zs1 ?_) | apply (zs2 ?_) | (apply zg1; first | refine zs3 ?_ | refine zs4 ?_) | (apply zg3; refine zs8 ?_) | (apply zg6; first | refine zs11 ?_ | refine zs12 ?_) | (apply zg8; (refine zs16 ?_ ?_ <;> intro _ <;> try (exfalso; omega))) | (apply (zs17 ?_ ?_) <;> intro _ <;> try (exfalso; omega)) | (apply (zs19 ?_ ?_) <;> intro _ <;> try (exfalso; omega)) | (apply (zs25 ?_ ?_) <;> intro _ <;> try (exfalso; omega)) | (apply zg23; (refine zs52 ?_; intro _)) | (apply (zs62 ?_ ?_) <;> intro _ <;> try (exfalso; omega)) | apply (zs65 ?_) | apply (zs68 ?_) | apply (zs69 ?_) | apply (zs70 ?_) | (apply zg27; refine zs71 ?_) | apply (zs74 ?_) | apply (zs77 ?_) | fail)
    all_goals ((repeat apply Yn); apply Yc; exact rfl; exact rfl; exact ⟨rfl, rfl⟩)
  rw [decide_eq_true h1]
  repeat' (first | ((first | apply Ya en50 | apply Yb en50); exact za; exact rfl; exact fun _ hw => (YH n hin.cons hw)) | ((first | apply Ya Ydy | apply Yb Ydy); exact za; exact rfl; exact fun _ hw => (OB n _ _ (Y2 h0) (by omega) (by omega) hw)) | apply (zs1 ?_) | apply (zs2 ?_) | (apply zg1; refine zs4 ?_) | (apply zg3; refine zs8 ?_) | (apply zg6; refine zs12 ?_) | (apply zg8; (refine zs16 ?_ ?_ <;> intro _ <;> try (exfalso; omega))) | (apply (zs17 ?_ ?_) <;> intro _ <;> try (exfalso; omega)) | (apply (zs19 ?_ ?_) <;> intro _ <;> try (exfalso; omega)) | (apply (zs25 ?_ ?_) <;> intro _ <;> try (exfalso; omega)) | (apply zg23; (refine zs52 ?_; intro _)) | (apply (zs62 ?_ ?_) <;> intro _ <;> try (exfalso; omega)) | apply (zs65 ?_) | apply (zs68 ?_) | apply (zs69 ?_) | apply (zs70 ?_) | (apply zg27; refine zs72 ?_) | apply (zs74 ?_) | apply (zs76 ?_) | fail)
  all_goals ((repeat apply Yn); apply Yc; exact rfl; exact rfl; exact ⟨rfl, rfl⟩)
theorem YbL (n : NetM) (i : Nat) {B : Nat} {w0 : World} {H : List HP} {w : World} (hin : n.In B w0 H) (hok : Ok n.net) (hi : i < n.links.length) (hw : St B w0 H w) :
    Calls Tryz.prog 169 [n.val, .int .i64 i].toArray w (Post B w0 fun v K => v = .bool (Un n.net i) ∧ K = H) := by
  refine Yd Tryz.func169 Tryz.ntmps169 rfl rfl hw ?_
  obtain ⟨hpw, hrw, hlk, hmg, hs1, hs2, hs3, hs4⟩ := id hin
  have hml : n.margin.length = n.links.length := hok.k1
  obtain ⟨l, hl⟩ : ∃ l, n.links[i]? = some l := ⟨_, List.getElem?_eq_getElem hi⟩
  obtain ⟨z, hz⟩ : ∃ z, n.margin[i]? = some z := ⟨_, List.getElem?_eq_getElem (by omega)⟩
  have e1 : lnk n.net i = l := ZZ hl
  have e2 : mar n.net i = z := YaO hz
  have hzb := YeE hok hi
  unfold Un
  rw [e2] at hzb
  rw [e1, e2]
  by_cases hb : 0 ≤ YD n.net l.2.1 l.1
  · have hlt : (YD n.net l.2.1 l.1).toNat < n.links.length := ZO hb
    obtain ⟨y, hy⟩ : ∃ y, n.margin[(YD n.net l.2.1 l.1).toNat]? = some y := ⟨_, List.getElem?_eq_getElem (by omega)⟩
    have e3 : mar n.net (YD n.net l.2.1 l.1).toNat = y := YaO hy
    have hyb := YeE hok hlt
    rw [e3] at hyb
    rw [e3, decide_eq_true hb]
    repeat' (first | ((first | apply Ya Yal | apply Yb Yal); exact za; exact rfl; exact fun _ hw => (US n _ _ hin.cons hok hw)) | ((first | apply Xq Ydy | apply Xp Ydy); exact za; exact rfl; exact fun _ hw => (OB n _ _ hok (by omega) (by omega) hw); all_goals (intro hB; (try simp only [decide_eq_true_eq, decide_eq_false_iff_not] at hB); try (exfalso; omega))) | apply (zs1 ?_) | apply (zs2 ?_) | (apply zg1; first | refine zs3 ?_ | refine zs4 ?_) | (apply zg2; first | refine zs6 ?_ | refine zs58 ?_) | (apply zg3; first | refine zs7 ?_ | refine zs8 ?_ | refine zs59 ?_ | refine zs60 ?_) | (apply zg5; refine zs57 ?_) | (apply zg6; first | refine zs11 ?_ | refine zs12 ?_) | (apply (zs20 ?_ ?_) <;> intro _ <;> try (exfalso; omega)) | (apply zg23; (refine zs52 ?_; intro _)) | apply (zs65 ?_) | apply (zs66 ?_) | apply (zs68 ?_) | apply (zs69 ?_) | apply (zs70 ?_) | apply (zs74 ?_) | (apply zg28; refine zs84 ?_) | fail)
    all_goals ((repeat apply Yn); apply Yc; exact rfl; exact rfl; refine ⟨?_, rfl⟩; simp_all)
  · rw [decide_eq_false hb]
    repeat' (first | ((first | apply Ya Yal | apply Yb Yal); exact za; exact rfl; exact fun _ hw => (US n _ _ hin.cons hok hw)) | apply (zs1 ?_) | apply (zs2 ?_) | (apply zg1; refine zs3 ?_) | (apply zg2; first | refine zs6 ?_ | refine zs58 ?_) | (apply zg3; first | refine zs7 ?_ | refine zs8 ?_ | refine zs59 ?_) | (apply zg5; refine zs57 ?_) | (apply zg6; refine zs12 ?_) | (apply (zs20 ?_ ?_) <;> intro _ <;> try (exfalso; omega)) | (apply zg23; (refine zs52 ?_; intro _)) | apply (zs65 ?_) | apply (zs66 ?_) | apply (zs68 ?_) | apply (zs69 ?_) | apply (zs70 ?_) | apply (zs74 ?_) | (apply zg28; refine zs84 ?_) | fail)
    all_goals ((repeat apply Yn); apply Yc; exact rfl; exact rfl; exact ⟨rfl, rfl⟩)
def Vs (n : Net) (i : Int) : Bool := decide (Yy n = 0) && (decide (0 ≤ i ∧ i < n.links.length) && Un n i.toNat)
theorem Wc (n : NetM) (i : Int) {B : Nat} {w0 : World} {H : List HP} {w : World} (hin : n.In B w0 H) (hw : St B w0 H w) :
    Calls Tryz.prog 113 [n.val, .int .i64 i].toArray w (Post B w0 fun v K => v = .bool (Vs n.net i) ∧ K = H) := by
  refine Yd Tryz.func113 Tryz.ntmps113 rfl rfl hw ?_
  have hs3 := hin.s3
  have e7 : n.net.links = n.links := rfl
  unfold Vs
  rw [e7]
  by_cases h0 : Yy n.net = 0
  rotate_left
  · rw [decide_eq_false h0]
    repeat' (first | ((first | apply Ya en50 | apply Yb en50); exact za; exact rfl; exact fun _ hw => (YH n hin.cons hw)) | apply (zs1 ?_) | apply (zs2 ?_) | (apply zg1; refine zs3 ?_) | (apply zg3; refine zs8 ?_) | (apply zg6; refine zs12 ?_) | (apply zg7; (refine zs15 ?_ ?_ <;> intro _ <;> try (exfalso; omega))) | (apply zg23; (refine zs52 ?_; intro _)) | apply (zs65 ?_) | apply (zs68 ?_) | apply (zs69 ?_) | apply (zs70 ?_) | apply (zs74 ?_) | fail)
    all_goals ((repeat apply Yn); apply Yc; exact rfl; exact rfl; exact ⟨rfl, rfl⟩)
  rw [decide_eq_true h0]
  by_cases h1 : 0 ≤ i ∧ i < n.links.length
  rotate_left
  · rw [decide_eq_false h1]
    repeat' (first | ((first | apply Ya en50 | apply Yb en50); exact za; exact rfl; exact fun _ hw => (YH n hin.cons hw)) | apply (zs1 ?_) | apply (zs2 ?_) | (apply zg1; first | refine zs3 ?_ | refine zs4 ?_) | (apply zg2; refine zs6 ?_) | (apply zg3; first | refine zs7 ?_ | refine zs8 ?_) | (apply zg4; refine zs9 ?_) | (apply zg6; first | refine zs11 ?_ | refine zs12 ?_) | (apply zg7; (refine zs15 ?_ ?_ <;> intro _ <;> try (exfalso; omega))) | (apply (zs17 ?_ ?_) <;> intro _ <;> try (exfalso; omega)) | (apply (zs20 ?_ ?_) <;> intro _ <;> try (exfalso; omega)) | (apply zg23; (refine zs52 ?_; intro _)) | apply (zs65 ?_) | apply (zs68 ?_) | apply (zs69 ?_) | apply (zs70 ?_) | apply (zs74 ?_) | fail)
    all_goals ((repeat apply Yn); apply Yc; exact rfl; exact rfl; exact ⟨rfl, rfl⟩)
  rw [decide_eq_true h1]
  obtain ⟨k, rfl⟩ : ∃ k : Nat, i = k := ⟨i.toNat, by omega⟩
  repeat' (first | ((first | apply Ya en50 | apply Yb en50); exact za; exact rfl; exact fun _ hw => (YH n hin.cons hw)) | ((first | apply Ya YgS | apply Yb YgS); exact za; exact rfl; exact fun _ hw => (YbL n _ hin.cons (Y2 h0) (by omega) hw)) | apply (zs1 ?_) | apply (zs2 ?_) | (apply zg1; refine zs4 ?_) | (apply zg2; refine zs6 ?_) | (apply zg3; first | refine zs7 ?_ | refine zs8 ?_) | (apply zg4; refine zs9 ?_) | (apply zg6; refine zs11 ?_) | (apply zg7; (refine zs15 ?_ ?_ <;> intro _ <;> try (exfalso; omega))) | (apply (zs17 ?_ ?_) <;> intro _ <;> try (exfalso; omega)) | (apply (zs20 ?_ ?_) <;> intro _ <;> try (exfalso; omega)) | (apply zg23; (refine zs52 ?_; intro _)) | apply (zs65 ?_) | apply (zs68 ?_) | apply (zs69 ?_) | apply (zs70 ?_) | apply (zs74 ?_) | fail)
  all_goals ((repeat apply Yn); apply Yc; exact rfl; exact rfl; exact ⟨rfl, rfl⟩)
open Go.RowKit Go.Eng Go.Nw
def YT (n : Net) (a b : Int) : Bool := decide (0 ≤ YD n a b) && (decide (0 ≤ YD n b a) && (X6 n (mar n (YD n a b).toNat) 0 && X6 n (mar n (YD n b a).toNat) 0))
theorem YdC {n : Net} (h : Ok n) {i : Nat} (hi : i < n.links.length) : YD n (lnk n i).1 (lnk n i).2.1 = i := by
  have h1 : ∀ j, j < i → cmpL (lnk n j) ((lnk n i).1, (lnk n i).2.1, (lnk n i).2.2) < 0 := fun j hj => OF h j i hj hi
  have h2 : ∀ j, i ≤ j → j < n.links.length → 0 ≤ cmpL (lnk n j) ((lnk n i).1, (lnk n i).2.1, (lnk n i).2.2) := fun j hj hl => by
    by_cases e : i = j
    · subst e
      have : cmpL (lnk n i) ((lnk n i).1, (lnk n i).2.1, (lnk n i).2.2) = 0 := Jh.2 ⟨rfl, rfl⟩
      omega
    · have h3 := OF h i j (by omega) hl
      have h4 : ¬ cmpL (lnk n j) ((lnk n i).1, (lnk n i).2.1, (lnk n i).2.2) < 0 := by
        rw [ZL] at *
        simp only
        omega
      omega
  rw [Ybs h (Nat.le_of_lt hi) h1 h2, if_pos ⟨hi, Jh.2 ⟨rfl, rfl⟩⟩]
theorem Wv {n : Net} (h : Ok n) {i : Nat} (hi : i < n.links.length) : Un n i = YT n (lnk n i).1 (lnk n i).2.1 := by
  unfold Un YT
  rw [YdC h hi]
  simp
open Go.RowKit Go.Eng Go.Nw
def YM (c : Cel) : Int := c.2.2.1
def toC (c : Cel) : Int := c.2.2.2.1
def V8 (c : Cel) : Int := c.2.2.2.2
def J3 (a b : Cel) : Bool := decide (YM a = YM b ∨ YM a = toC b ∨ toC a = YM b ∨ toC a = toC b)
def JM (n : Net) (l : List Flw) (s : Sch) (i : Nat) : Int :=
  if XE s (Yl s i) = false then 2
  else if YT n (YM (Yl s i)) (toC (Yl s i)) = false ∨ Jg l (V8 (Yl s i)) < 0 then 7
  else if 0 < i ∧ Zg (Yl s (i - 1)) (Yl s i) = false then 5 else 0
def ZN (s : Sch) (i : Nat) : Bool := (List.range i).any fun k => decide ((Yl s k).1 = (Yl s i).1) && J3 (Yl s i) (Yl s k)
def Y3 (c d : Cel) : Bool := decide (d.1 = c.1 ∧ d.2.1 = c.2.1)
def UE (s : Sch) (i : Nat) : List Cel := s.cells.filter (Y3 (Yl s i))
def YW (s : Sch) (i : Nat) : Nat := ((s.cells.take i).filter (Y3 (Yl s i))).length
def celL (l : List Cel) (i : Nat) : Cel := l.getD i (0, 0, 0, 0, 0)
def powN (n : Net) (a b : Int) : Int := if insE a n.nodes = true ∧ insE b n.nodes = true then powr n a b else 0
def Xm (n : Net) (l : List Cel) (j : Nat) (node : Int) : Nat → Int
  | 0 => 0
  | k + 1 => Xm n l j node k + if k = j then 0 else powN n (YM (celL l k)) node + powN n (toC (celL l k)) node
def Vg (n : Net) (c : Cel) : Bool := !(insE (YM c) n.nodes) || !(insE (toC c) n.nodes)
def J0 (n : Net) (l : List Cel) (i node : Int) : Int :=
  if Yy n ≠ 0 ∨ i < 0 ∨ l.length ≤ i ∨ insE node n.nodes = false ∨ l.any (Vg n) = true then 0 else Xm n l i.toNat node l.length
def Zy (n : Net) (s : Sch) (i : Nat) : Bool :=
  !(JX n (mar n (YD n (YM (Yl s i)) (toC (Yl s i))).toNat) (J0 n (UE s i) (YW s i) (toC (Yl s i)))) || !(JX n (mar n (YD n (toC (Yl s i)) (YM (Yl s i))).toNat) (J0 n (UE s i) (YW s i) (YM (Yl s i))))
def XR (n : Net) (l : List Flw) (s : Sch) : Int :=
  if Yy n ≠ 0 then 1 else if (YR n.nodes l).2 ≠ 0 then 1 else if Zs s = false then 2
  else if (l.any fun f => decide (s.len.tmod f.2.2.2.1 ≠ 0)) = true then 11 else if 512 < s.cells.length then 8 else 0
def Z0 (n : Net) (l : List Flw) (s : Sch) : Int × Int := Yz (JM n l s) s.cells.length 0
def J4 (s : Sch) : Int × Int := Yz (fun i => if ZN s i = true then 6 else 0) s.cells.length 0
def Yao (n : Net) (s : Sch) : Int × Int := Yz (fun i => if Zy n s i = true then 16 else 0) s.cells.length 0
def schE (n : Net) (l : List Flw) (s : Sch) : Int × Int :=
  if XR n l s ≠ 0 then (-1, XR n l s) else if (Z0 n l s).2 ≠ 0 then Z0 n l s else if (J4 s).2 ≠ 0 then J4 s else Yao n s
theorem VX {n : Net} (h : Ok n) {u v : Int} (hg : YT n u v = true) : (0 ≤ u ∧ u < n.nodes) ∧ (0 ≤ v ∧ v < n.nodes) ∧ u ≠ v ∧ 0 ≤ YD n u v ∧ 0 ≤ YD n v u := by
  unfold YT at hg
  simp only [Bool.and_eq_true, decide_eq_true_eq] at hg
  obtain ⟨h1, h2, _⟩ := hg
  obtain ⟨k1, k2⟩ := Ud h1
  have := h.lk _ (ZO h1)
  have a1 := this.f0; have a2 := this.f1; have a3 := this.t0; have a4 := this.t1; have a5 := this.ne
  rw [k1] at a1 a2 a5
  rw [k2] at a3 a4 a5
  exact ⟨⟨a1, a2⟩, ⟨a3, a4⟩, a5, h1, h2⟩
theorem YfW {n : Net} (h : Yy n = 0) (a b : Int) : Vs n (X7 n a b) = YT n a b := by
  have hok := Y2 h
  unfold Vs X7
  rw [if_neg (by omega), decide_eq_true h, Bool.true_and]
  by_cases h0 : 0 ≤ YD n a b
  · have hl := ZO h0
    rw [Wv hok hl, (Ud h0).1, (Ud h0).2, decide_eq_true (by omega), Bool.true_and]
  · rw [decide_eq_false (by omega), Bool.false_and]
    unfold YT
    rw [decide_eq_false h0, Bool.false_and]
theorem YfE {s : Sch} {i : Nat} (h : i < s.cells.length) : (UE s i)[YW s i]? = some (Yl s i) := by
  have h1 := YC h
  obtain ⟨h2, h3⟩ := List.getElem?_eq_some_iff.1 h1
  have hsp : s.cells = s.cells.take i ++ Yl s i :: s.cells.drop (i + 1) := by
    rw [← h3, List.getElem_cons_drop, List.take_append_drop]
  unfold UE YW
  have hp : Y3 (Yl s i) (Yl s i) = true := by unfold Y3; simp
  have hf : s.cells.filter (Y3 (Yl s i)) = (s.cells.take i).filter (Y3 (Yl s i)) ++ Yl s i :: (s.cells.drop (i + 1)).filter (Y3 (Yl s i)) := by
    conv => lhs; rw [hsp]
    rw [List.filter_append, List.filter_cons, if_pos hp]
  rw [hf, List.getElem?_append_right (Nat.le_refl _), Nat.sub_self]
  rfl
theorem Yha {n : Net} (h : Ok n) {a b : Int} (ha : 0 ≤ a ∧ a < n.nodes) (hb : 0 ≤ b ∧ b < n.nodes) : 0 ≤ powr n a b ∧ powr n a b ≤ 68719476736 := by
  have hp := h.p0
  obtain ⟨r, hr⟩ : ∃ r, n.power[a.toNat]? = some r := ⟨_, List.getElem?_eq_getElem (by omega)⟩
  have hrm := List.mem_of_getElem? hr
  have hl := h.p1 r hrm
  obtain ⟨p, hpe⟩ : ∃ p, r[b.toNat]? = some p := ⟨_, List.getElem?_eq_getElem (by omega)⟩
  have := h.p2 r hrm p (List.mem_of_getElem? hpe)
  have e1 : n.power.getD a.toNat [] = r := by rw [List.getD_eq_getElem?_getD, hr]; rfl
  have e2 : r.getD b.toNat 0 = p := by rw [List.getD_eq_getElem?_getD, hpe]; rfl
  unfold powr
  rw [e1, e2]
  exact this
theorem Jl {n : Net} (h : Ok n) (a b : Int) : 0 ≤ powN n a b ∧ powN n a b ≤ 68719476736 := by
  unfold powN
  split
  · rename_i hc
    unfold insE at hc
    simp only [decide_eq_true_eq] at hc
    exact Yha h hc.1 hc.2
  · omega
theorem Ydp {n : Net} (h : Ok n) (l : List Cel) (j : Nat) (node : Int) : ∀ k : Nat, 0 ≤ Xm n l j node k ∧ Xm n l j node k ≤ (k : Int) * 137438953472
  | 0 => by simp [Xm]
  | k + 1 => by
    have h1 := Ydp h l j node k
    have h2 := Jl h (YM (celL l k)) node
    have h3 := Jl h (toC (celL l k)) node
    unfold Xm
    split <;> omega
open Go.RowKit Go.Eng Go.Nw
def movC (d : Int) (c : Cel) : Cel := (c.1 + d, c.2)
def repC (s : Sch) (k : Nat) : List Cel := (List.range k).flatMap fun i : Nat => s.cells.map (movC ((i : Int) * s.len))
open Go.RowKit Go.Eng Go.Nw
theorem Ye2 {l : List Flw} {id : Int} (h : 0 ≤ Jg l id) : ∃ f ∈ l, f.1 = id := by
  unfold Jg at h
  have := (Jo (fun f : Flw => decide (f.1 = id)) l 0 (Int.le_refl _)).1 h
  obtain ⟨f, hf, hp⟩ := List.any_eq_true.1 this
  exact ⟨f, hf, of_decide_eq_true hp⟩
theorem Q4 {nodes : Int} {l : List Flw} (h : (YR nodes l).2 = 0) : ∀ f ∈ l, 0 ≤ f.1 ∧ f.1 ≤ 255 ∧ 1 ≤ f.2.2.2.1 ∧ f.2.2.2.1 ≤ 512 := by
  intro f hf
  obtain ⟨i, hi⟩ := List.mem_iff_getElem?.1 hf
  have hl := (List.getElem?_eq_some_iff.1 hi).1
  unfold YR at h
  split at h
  · cases h
  split at h
  · cases h
  have := Xf.1 h i (Nat.zero_le _) (by omega)
  unfold YO at this
  have e : Zd l i = f := by unfold Zd; rw [List.getD_eq_getElem?_getD, hi]; rfl
  rw [e] at this
  split at this
  · rename_i h1; exact absurd this h1
  · rename_i h1
    have h2 : XK nodes f = 0 := Decidable.not_not.1 h1
    unfold XK at h2
    split at h2
    · cases h2
    split at h2
    · cases h2
    omega
structure Val (n : Net) (l : List Flw) (s : Sch) : Prop where
  whole : XR n l s = 0
  cells : (Z0 n l s).2 = 0
  twice : (J4 s).2 = 0
  dist : (Yao n s).2 = 0
theorem YfP {n : Net} {l : List Flw} {s : Sch} (h : XR n l s = 0) : Yy n = 0 ∧ (YR n.nodes l).2 = 0 ∧ Zs s = true ∧ (∀ f ∈ l, s.len.tmod f.2.2.2.1 = 0) ∧ s.cells.length ≤ 512 := by
  unfold XR at h
  by_cases h1 : Yy n = 0
  rotate_left
  · rw [if_pos h1] at h; cases h
  rw [if_neg (fun e => e h1)] at h
  by_cases h2 : (YR n.nodes l).2 = 0
  rotate_left
  · rw [if_pos h2] at h; cases h
  rw [if_neg (fun e => e h2)] at h
  cases h3 : Zs s with
  | false => rw [h3, if_pos rfl] at h; cases h
  | true =>
    rw [h3, if_neg (by decide)] at h
    split at h
    · cases h
    rename_i h4
    split at h
    · cases h
    refine ⟨h1, h2, rfl, fun f hf => ?_, by omega⟩
    have := List.any_eq_false.1 (Bool.eq_false_iff.2 h4) f hf
    simpa using this
theorem Val.frm {n : Net} {l : List Flw} {s : Sch} (h : Val n l s) : Frm s := by
  obtain ⟨h1, h2, h3, h4, h5⟩ := YfP h.whole
  have hok := Y2 h1
  have k1 := Xf.1 h.cells
  have hids := Q4 h2
  have hn := hok.n1
  have hcell : ∀ i, i < s.cells.length → XE s (Yl s i) = true ∧ YT n (YM (Yl s i)) (toC (Yl s i)) = true ∧ 0 ≤ Jg l (V8 (Yl s i)) ∧ (0 < i → Zg (Yl s (i - 1)) (Yl s i) = true) := fun i hi => by
    have := k1 i (Nat.zero_le _) (by omega)
    unfold JM at this
    cases hp : XE s (Yl s i) with
    | false => rw [hp, if_pos rfl] at this; cases this
    | true =>
      rw [hp, if_neg (by decide)] at this
      split at this
      · cases this
      rename_i h6
      split at this
      · cases this
      rename_i h7
      refine ⟨rfl, ?_, ?_, fun h0 => ?_⟩
      · cases hg : YT n (YM (Yl s i)) (toC (Yl s i)) with
        | true => rfl
        | false => exact absurd (.inl hg) h6
      · exact Int.not_lt.1 fun hlt => h6 (.inr hlt)
      · cases hc : Zg (Yl s (i - 1)) (Yl s i) with
        | true => rfl
        | false => exact absurd ⟨h0, hc⟩ h7
  refine ⟨h3, h5, fun c hc => ?_, ?_⟩
  · obtain ⟨i, hi⟩ := List.mem_iff_getElem?.1 hc
    obtain ⟨a1, a2, a3, _⟩ := hcell i (List.getElem?_eq_some_iff.1 hi).1
    rw [XU hi] at a1 a2 a3
    have hg := VX hok a2
    obtain ⟨f, hf, hfe⟩ := Ye2 a3
    have hid := hids f hf
    unfold YM toC V8 at *
    unfold ZV insE
    rw [a1, decide_eq_true (by omega), decide_eq_true (by omega), decide_eq_true (by omega)]
    rfl
  · refine Uj (lt := Zg) (fun h1 h2 => Yai h1 h2) fun i a b ha hb => ?_
    have := (hcell (i + 1) (List.getElem?_eq_some_iff.1 hb).1).2.2.2 (by omega)
    rw [Nat.add_sub_cancel, XU ha, XU hb] at this
    exact this
open Go.RowKit Go.Eng Go.Nw
def cpN (n : Net) (node : Int) (d : Cel) : Int := powN n (YM d) node + powN n (toC d) node
def sumC (n : Net) (node : Int) (l : List Cel) : Int := (l.map (cpN n node)).sum
theorem UV (n : Net) (node : Int) (d : Cel) (l : List Cel) : sumC n node (d :: l) = cpN n node d + sumC n node l := by unfold sumC; rw [List.map_cons, List.sum_cons]
theorem Yfc {n : Net} (h : Ok n) (node : Int) {l m : List Cel} (hs : l.Sublist m) : sumC n node l ≤ sumC n node m := by
  induction hs with
  | slnil => exact Int.le_refl _
  | @cons l m d _ ih =>
    rw [UV]
    have h1 := Jl h (YM d) node
    have h2 := Jl h (toC d) node
    unfold cpN
    omega
  | cons_cons d _ ih => rw [UV, UV]; omega
def Oe (n : Net) (l : List Cel) (c : Cel) (node : Int) : Int := sumC n node (l.filter fun d => Y3 c d && decide (d ≠ c))
def UU (n : Net) (l : List Cel) (c : Cel) : Bool := X6 n (mar n (YD n (YM c) (toC c)).toNat) (Oe n l c (toC c)) && X6 n (mar n (YD n (toC c) (YM c)).toNat) (Oe n l c (YM c))
structure Sem (n : Net) (l : List Flw) (s : Sch) : Prop where
  ck : Yy n = 0
  fl : (YR n.nodes l).2 = 0
  per : ∀ f ∈ l, s.len.tmod f.2.2.2.1 = 0
  frm : Frm s
  good : ∀ c ∈ s.cells, YT n (YM c) (toC c) = true ∧ 0 ≤ Jg l (V8 c)
  once : s.cells.Pairwise fun a b => a.1 = b.1 → J3 a b = false
  clear : ∀ c ∈ s.cells, UU n s.cells c = true
theorem OR {n : Net} (h : Ok n) {s d e : Int} (he : e ≤ d) (hd : X6 n s d = true) : X6 n s e = true := by
  unfold X6 at hd ⊢
  have h1 := of_decide_eq_true hd
  have h2 := h.t0
  have h3 : n.thr * (n.noise + e) ≤ n.thr * (n.noise + d) := Int.mul_le_mul_of_nonneg_left (by omega) (by omega)
  exact decide_eq_true (by omega)
theorem Sem.sub {n : Net} {l : List Flw} {s t : Sch} (h : Sem n l s) (h1 : t.len = s.len) (h2 : t.off = s.off) (hs : t.cells.Sublist s.cells) : Sem n l t := by
  have hok := Y2 h.ck
  have hlen := hs.length_le
  have hfew := h.frm.few
  refine ⟨h.ck, h.fl, by rw [h1]; exact h.per, ⟨?_, by omega, fun c hc => ?_, h.frm.ord.sublist hs⟩, fun c hc => h.good c (hs.subset hc), h.once.sublist hs, fun c hc => ?_⟩
  · have := h.frm.sized
    unfold Zs at this ⊢
    rw [h1, h2]; exact this
  · have := h.frm.formed c (hs.subset hc)
    unfold ZV XE at this ⊢
    rw [h1, h2]; exact this
  · have := h.clear c (hs.subset hc)
    unfold UU at this ⊢
    simp only [Bool.and_eq_true] at this ⊢
    have hd : ∀ node, Oe n t.cells c node ≤ Oe n s.cells c node := fun node => Yfc hok node (hs.filter _)
    exact ⟨OR hok (hd _) this.1, OR hok (hd _) this.2⟩
open Go.RowKit Go.Eng Go.Nw
def YfX (n : Net) (l : List Flw) (s : Sch) : Prop := ∀ c ∈ s.cells, YT n (YM c) (toC c) = true ∧ 0 ≤ Jg l (V8 c)
def Yfh (s : Sch) : Prop := s.cells.Pairwise fun a b => a.1 = b.1 → J3 a b = false
def YcN (n : Net) (s : Sch) : Prop := ∀ c ∈ s.cells, UU n s.cells c = true
theorem YfS (s : Sch) (k : Nat) : repC s (k + 1) = repC s k ++ s.cells.map (movC ((k : Int) * s.len)) := by
  unfold repC
  rw [List.range_succ, List.flatMap_append]
  simp
theorem WV {s : Sch} {k : Nat} {x : Cel} : x ∈ repC s k ↔ ∃ i, i < k ∧ ∃ c ∈ s.cells, x = movC ((i : Int) * s.len) c := by
  unfold repC
  simp only [List.mem_flatMap, List.mem_range, List.mem_map]
  constructor
  · rintro ⟨i, hi, c, hc, rfl⟩; exact ⟨i, hi, c, hc, rfl⟩
  · rintro ⟨i, hi, c, hc, rfl⟩; exact ⟨i, hi, c, hc, rfl⟩
theorem YbA {i j : Nat} {L : Int} (hL : 0 ≤ L) (h : i < j) : (i : Int) * L + L ≤ (j : Int) * L := by
  have h1 : ((i : Int) + 1) * L ≤ (j : Int) * L := Int.mul_le_mul_of_nonneg_right (by omega) hL
  rw [Int.add_mul] at h1
  omega
theorem Ydu {s : Sch} (hf : Frm s) {c : Cel} (hc : c ∈ s.cells) : 0 ≤ c.1 ∧ c.1 < s.len := by
  have := hf.formed c hc
  unfold ZV XE insE at this
  simp only [Bool.and_eq_true, decide_eq_true_eq] at this
  exact this.1.1.1.1
theorem QW {s : Sch} (hf : Frm s) {c d : Cel} (hc : c ∈ s.cells) (hd : d ∈ s.cells) {i j : Nat} (h : c.1 + (i : Int) * s.len = d.1 + (j : Int) * s.len) : i = j ∧ c.1 = d.1 := by
  have h1 := Ydu hf hc
  have h2 := Ydu hf hd
  rcases Nat.lt_trichotomy i j with h3 | h3 | h3
  · have := YbA (L := s.len) (by omega) h3; omega
  · subst h3; exact ⟨rfl, by omega⟩
  · have := YbA (L := s.len) (by omega) h3; omega
structure Rep (s t : Sch) (k : Nat) : Prop where
  k1 : 1 ≤ k
  frm : Frm s
  len : t.len = s.len * k
  off : t.off = s.off
  cells : t.cells = repC s k
  l512 : s.len * k ≤ 512
  c512 : s.cells.length * k ≤ 512
theorem OJ {s : Sch} {p q : Cel → Bool} {j0 : Nat} (hq : ∀ d ∈ s.cells, p (movC ((j0 : Int) * s.len) d) = q d) : ∀ {m : Nat}, (∀ j, j < m → j ≠ j0 → ∀ d ∈ s.cells, p (movC ((j : Int) * s.len) d) = false) → (repC s m).filter p = if j0 < m then (s.cells.filter q).map (movC ((j0 : Int) * s.len)) else []
  | 0, _ => by simp [repC]
  | m + 1, h => by
    rw [YfS, List.filter_append, OJ hq fun j hj => h j (by omega), List.filter_map]
    by_cases e : m = j0
    · subst e
      rw [if_neg (by omega), if_pos (by omega), List.nil_append]
      congr 1
      exact List.filter_congr fun d hd => hq d hd
    · have hz : s.cells.filter (p ∘ movC ((m : Int) * s.len)) = [] := by
        rw [List.filter_eq_nil_iff]
        intro d hd
        show ¬ p (movC ((m : Int) * s.len) d) = true
        rw [h m (by omega) e d hd]; simp
      rw [hz, List.map_nil, List.append_nil]
      by_cases h2 : j0 < m
      · rw [if_pos h2, if_pos (by omega)]
      · rw [if_neg h2, if_neg (by omega)]
theorem Ygv (n : Net) (node d : Int) (l : List Cel) : sumC n node (l.map (movC d)) = sumC n node l := by
  unfold sumC
  rw [List.map_map]
  rfl
theorem Rep.dist {s t : Sch} {k : Nat} (h : Rep s t k) (n : Net) {i : Nat} (hi : i < k) {c : Cel} (hc : c ∈ s.cells) (node : Int) : Oe n t.cells (movC ((i : Int) * s.len) c) node = Oe n s.cells c node := by
  unfold Oe
  rw [h.cells, OJ (j0 := i) (q := fun d => Y3 c d && decide (d ≠ c)), if_pos hi, Ygv]
  · intro d hd
    have h2 : (movC ((i : Int) * s.len) d ≠ movC ((i : Int) * s.len) c) ↔ d ≠ c := by
      constructor
      · intro h3 e; subst e; exact h3 rfl
      · intro h3 e
        apply h3
        obtain ⟨d1, d2⟩ := d
        obtain ⟨c1, c2⟩ := c
        unfold movC at e
        injection e with e1 e2
        simp only at e1 e2
        subst e2
        have : d1 = c1 := by omega
        rw [this]
    show (Y3 _ _ && decide _) = (Y3 _ _ && decide _)
    rw [decide_eq_decide.2 h2]
    congr 1
    unfold Y3 movC
    rw [decide_eq_decide]
    simp only
    omega
  · intro j hj hne d hd
    have : Y3 (movC ((i : Int) * s.len) c) (movC ((j : Int) * s.len) d) = false := by
      unfold Y3 movC
      refine decide_eq_false ?_
      rintro ⟨h3, _⟩
      exact hne (QW h.frm hd hc h3).1
    rw [this]; rfl
theorem Rep.good {s t : Sch} {k : Nat} (h : Rep s t k) (n : Net) (l : List Flw) : YfX n l t ↔ YfX n l s := by
  unfold YfX
  rw [h.cells]
  constructor
  · intro hg c hc
    exact hg (movC (((0 : Nat) : Int) * s.len) c) (WV.2 ⟨0, h.k1, c, hc, rfl⟩)
  · intro hg x hx
    obtain ⟨i, _, c, hc, rfl⟩ := WV.1 hx
    exact hg c hc
theorem Rep.once {s t : Sch} {k : Nat} (h : Rep s t k) : Yfh t ↔ Yfh s := by
  unfold Yfh
  rw [h.cells]
  unfold repC
  rw [List.pairwise_flatMap]
  constructor
  · rintro ⟨h1, _⟩
    have := h1 0 (List.mem_range.2 h.k1)
    rw [List.pairwise_map] at this
    exact this.imp fun {a b} hab e => hab (by simp only [movC]; omega)
  · intro ho
    refine ⟨fun i _ => ?_, ?_⟩
    · rw [List.pairwise_map]
      exact ho.imp fun {a b} hab e => hab (by simp only [movC] at e; omega)
    · refine List.pairwise_lt_range.imp fun {i j} hij x hx y hy e => ?_
      obtain ⟨a, ha, rfl⟩ := List.mem_map.1 hx
      obtain ⟨b, hb, rfl⟩ := List.mem_map.1 hy
      have := (QW h.frm ha hb e).1
      omega
theorem Rep.clear {s t : Sch} {k : Nat} (h : Rep s t k) (n : Net) : YcN n t ↔ YcN n s := by
  have hc : ∀ i, i < k → ∀ c ∈ s.cells, UU n t.cells (movC ((i : Int) * s.len) c) = UU n s.cells c := fun i hi c hc => by
    unfold UU
    have e1 : YM (movC ((i : Int) * s.len) c) = YM c := rfl
    have e2 : toC (movC ((i : Int) * s.len) c) = toC c := rfl
    rw [e1, e2, h.dist n hi hc, h.dist n hi hc]
  unfold YcN
  constructor
  · intro hg c hcm
    rw [← hc 0 h.k1 c hcm]
    exact hg _ (by rw [h.cells]; exact WV.2 ⟨0, h.k1, c, hcm, rfl⟩)
  · intro hg x hx
    rw [h.cells] at hx
    obtain ⟨i, hi, c, hcm, rfl⟩ := WV.1 hx
    rw [hc i hi c hcm]
    exact hg c hcm
end Go.Proofs.YtmalhidldgfeoaaGreatDoor
namespace Go.Proofs
open Go.Shelf
def Tryz.lays169_ren : Go.Shelf.Ren := ⟨fun | 169 => 78 | n => n, fun | 70 => 129 | 9 => 9 | 0 => 0 | 72 => 132 | 37 => 130 | 127 => 207 | 3 => 3 | 5 => 5 | n => n, fun | n => n⟩
theorem Tryz.lays169 : Go.Proofs.Lays.n169 Tryz.prog Tryz.lays169_ren := {
  mixed := by kernel_rfl
  f169 := Tryz.func78.trans (congrArg some (by kernel_rfl))
  t0 := Tryz.underlying0
  a0 := Tryz.isAgg0
  z0 := Tryz.sizeOf0
  v0 := Tryz.zeroValue0
  t3 := Tryz.underlying3
  a3 := Tryz.isAgg3
  z3 := Tryz.sizeOf3
  v3 := Tryz.zeroValue3
  t9 := Tryz.underlying9
  a9 := Tryz.isAgg9
  z9 := Tryz.sizeOf9
  v9 := Tryz.zeroValue9
  t37 := Tryz.underlying130
  a37 := Tryz.isAgg130
  z37 := Tryz.sizeOf130
  v37 := Tryz.zeroValue130
  t70 := Tryz.underlying129
  a70 := Tryz.isAgg129
  z70 := Tryz.sizeOf129
  v70 := Tryz.zeroValue129
  t72 := Tryz.underlying132
  a72 := Tryz.isAgg132
  z72 := Tryz.sizeOf132
  v72 := Tryz.zeroValue132
  t127 := Tryz.underlying207
  a127 := Tryz.isAgg207
  z127 := Tryz.sizeOf207
  v127 := Tryz.zeroValue207 }
theorem Tryz.Builder_Extra_169 : Builder.Extra Tryz.prog Tryz.lays169_ren := {
  sizeBuilder := by kernel_rfl
  liesBuilder := by kernel_rfl
  t5 := Tryz.underlying5
  a5 := Tryz.isAgg5
  z5 := Tryz.sizeOf5
  v5 := Tryz.zeroValue5
  infoByte := by kernel_rfl
  cellsByte := by kernel_rfl
  sizeByte := by kernel_rfl
  neB5 := by decide }
open Go.RowKit in
theorem Tryz.Builder_String_any (B b : Nat) (l : List UInt8) (w : World) (h : Lib.IsBuilder 132 5 B b (Lib.byteCells l) w) (hBw : B ≤ w.heap.size) :
    Calls Tryz.prog 78 #[.pointer (some ⟨b, 0, none⟩)] w fun e w' => e = .returned (.string ⟨l.toArray⟩) ∧ Below B w w' := Any.Builder_String_any Tryz.lays169 Tryz.Builder_Extra_169 B b l w h hBw
def Tryz.laysM171_ren : Go.Shelf.Ren := ⟨fun | 171 => 137 | 243 => 197 | 246 => 239 | 283 => 275 | 284 => 276 | 285 => 277 | 286 => 278 | 129 => 224 | 317 => 295 | 318 => 296 | 319 => 297 | 320 => 298 | 337 => 304 | 338 => 305 | n => n, fun | 3 => 3 | 9 => 9 | 2 => 2 | 4 => 4 | 171 => 315 | 0 => 0 | 53 => 277 | 37 => 130 | 5 => 5 | 173 => 317 | 212 => 334 | 51 => 275 | 20 => 20 | 213 => 335 | 46 => 197 | 232 => 347 | 233 => 348 | n => n, fun | 17 => 3 | 18 => 6 | 19 => 7 | n => n⟩
theorem Tryz.laysM171 : Go.Proofs.LaysM.n171 Tryz.prog Tryz.laysM171_ren := {
  mixed := by kernel_rfl
  f129 := Tryz.func224.trans (congrArg some (by kernel_rfl))
  f171 := Tryz.func137.trans (congrArg some (by kernel_rfl))
  f243 := Tryz.func197.trans (congrArg some (by kernel_rfl))
  f246 := Tryz.func239.trans (congrArg some (by kernel_rfl))
  f283 := Tryz.func275.trans (congrArg some (by kernel_rfl))
  f284 := Tryz.func276.trans (congrArg some (by kernel_rfl))
  f285 := Tryz.func277.trans (congrArg some (by kernel_rfl))
  f286 := Tryz.func278.trans (congrArg some (by kernel_rfl))
  f317 := Tryz.func295.trans (congrArg some (by kernel_rfl))
  f318 := Tryz.func296.trans (congrArg some (by kernel_rfl))
  f319 := Tryz.func297.trans (congrArg some (by kernel_rfl))
  f320 := Tryz.func298.trans (congrArg some (by kernel_rfl))
  f337 := Tryz.func304.trans (congrArg some (by kernel_rfl))
  f338 := Tryz.func305.trans (congrArg some (by kernel_rfl))
  t0 := Tryz.underlying0
  a0 := Tryz.isAgg0
  z0 := Tryz.sizeOf0
  v0 := Tryz.zeroValue0
  t2 := Tryz.underlying2
  a2 := Tryz.isAgg2
  z2 := Tryz.sizeOf2
  v2 := Tryz.zeroValue2
  t3 := Tryz.underlying3
  a3 := Tryz.isAgg3
  z3 := Tryz.sizeOf3
  v3 := Tryz.zeroValue3
  t4 := Tryz.underlying4
  a4 := Tryz.isAgg4
  z4 := Tryz.sizeOf4
  v4 := Tryz.zeroValue4
  t5 := Tryz.underlying5
  a5 := Tryz.isAgg5
  z5 := Tryz.sizeOf5
  v5 := Tryz.zeroValue5
  t9 := Tryz.underlying9
  a9 := Tryz.isAgg9
  z9 := Tryz.sizeOf9
  v9 := Tryz.zeroValue9
  t20 := Tryz.underlying20
  a20 := Tryz.isAgg20
  z20 := Tryz.sizeOf20
  v20 := Tryz.zeroValue20
  t37 := Tryz.underlying130
  a37 := Tryz.isAgg130
  z37 := Tryz.sizeOf130
  v37 := Tryz.zeroValue130
  t46 := Tryz.underlying197
  a46 := Tryz.isAgg197
  z46 := Tryz.sizeOf197
  v46 := Tryz.zeroValue197
  t51 := Tryz.underlying275
  a51 := Tryz.isAgg275
  z51 := Tryz.sizeOf275
  v51 := Tryz.zeroValue275
  t53 := Tryz.underlying277
  a53 := Tryz.isAgg277
  z53 := Tryz.sizeOf277
  v53 := Tryz.zeroValue277
  t171 := Tryz.underlying315
  a171 := Tryz.isAgg315
  z171 := Tryz.sizeOf315
  v171 := Tryz.zeroValue315
  t173 := Tryz.underlying317
  a173 := Tryz.isAgg317
  z173 := Tryz.sizeOf317
  v173 := Tryz.zeroValue317
  t212 := Tryz.underlying334
  a212 := Tryz.isAgg334
  z212 := Tryz.sizeOf334
  v212 := Tryz.zeroValue334
  t213 := Tryz.underlying335
  a213 := Tryz.isAgg335
  z213 := Tryz.sizeOf335
  t232 := Tryz.underlying347
  a232 := Tryz.isAgg347
  z232 := Tryz.sizeOf347
  v232 := Tryz.zeroValue347
  t233 := Tryz.underlying348
  a233 := Tryz.isAgg348
  z233 := Tryz.sizeOf348
  v233 := Tryz.zeroValue348
  g17 := by kernel_rfl
  g18 := by kernel_rfl
  g19 := by kernel_rfl
  i0 := by kernel_rfl
  i2 := by kernel_rfl
  i3 := by kernel_rfl
  i4 := by kernel_rfl
  i5 := by kernel_rfl
  i9 := by kernel_rfl
  i20 := by kernel_rfl
  i37 := by kernel_rfl
  i46 := by kernel_rfl
  i51 := by kernel_rfl
  i53 := by kernel_rfl
  i171 := by kernel_rfl
  i173 := by kernel_rfl
  i212 := by kernel_rfl
  i232 := by kernel_rfl
  i233 := by kernel_rfl
  m17 := by kernel_rfl
  m18 := by kernel_rfl
  m19 := by kernel_rfl }
open Go.RowKit Go.Sort Go.Lib in
theorem Tryz.strconv_Itoa (n : Int) (h0 : -9223372036854775808 ≤ n) (h1 : n ≤ 9223372036854775807) (w : World) (htab : Lib.TabIs Tryz.prog w "internal/strconv.uint64pow10" .u64 Lib.pow10Tab) :
    Calls Tryz.prog 137 #[.int .i64 n] w fun e w' => e = .returned (.string ⟨(Lib.itoa n).toArray⟩) ∧ ∃ k os, w' = grow (w.drewN k) os := Any.strconv_Itoa Tryz.laysM171 n h0 h1 w htab
def Tryz.laysC172_ren : Go.Shelf.Ren := ⟨fun | 172 => 159 | 244 => 225 | 245 => 226 | 247 => 266 | 279 => 267 | 280 => 268 | 281 => 269 | 282 => 270 | 287 => 292 | 316 => 293 | 171 => 137 | 205 => 294 | 321 => 302 | 322 => 303 | 243 => 197 | 246 => 239 | 283 => 275 | 284 => 276 | 285 => 277 | 286 => 278 | 129 => 224 | 317 => 295 | 318 => 296 | 319 => 297 | 320 => 298 | 337 => 304 | 338 => 305 | n => n, fun | 9 => 9 | 3 => 3 | 75 => 134 | 76 => 135 | 4 => 4 | 5 => 5 | 167 => 308 | 37 => 130 | 0 => 0 | 85 => 309 | 2 => 2 | 168 => 311 | 53 => 277 | 175 => 327 | 46 => 197 | 210 => 331 | 127 => 207 | 145 => 346 | 143 => 344 | 21 => 21 | 171 => 315 | 173 => 317 | 212 => 334 | 51 => 275 | 20 => 20 | 213 => 335 | 232 => 347 | 233 => 348 | 80 => 138 | n => n, fun | 15 => 1 | 16 => 2 | 17 => 3 | 18 => 6 | 19 => 7 | n => n⟩
theorem Tryz.laysC172 : Go.Proofs.LaysC.n172 Tryz.prog Tryz.laysC172_ren := {
  mixed := by kernel_rfl
  f129 := Tryz.func224.trans (congrArg some (by kernel_rfl))
  f171 := Tryz.func137.trans (congrArg some (by kernel_rfl))
  f172 := Tryz.func159.trans (congrArg some (by kernel_rfl))
  f205 := Tryz.func294.trans (congrArg some (by kernel_rfl))
  f243 := Tryz.func197.trans (congrArg some (by kernel_rfl))
  f244 := Tryz.func225.trans (congrArg some (by kernel_rfl))
  f245 := Tryz.func226.trans (congrArg some (by kernel_rfl))
  f246 := Tryz.func239.trans (congrArg some (by kernel_rfl))
  f247 := Tryz.func266.trans (congrArg some (by kernel_rfl))
  f279 := Tryz.func267.trans (congrArg some (by kernel_rfl))
  f280 := Tryz.func268.trans (congrArg some (by kernel_rfl))
  f281 := Tryz.func269.trans (congrArg some (by kernel_rfl))
  f282 := Tryz.func270.trans (congrArg some (by kernel_rfl))
  f283 := Tryz.func275.trans (congrArg some (by kernel_rfl))
  f284 := Tryz.func276.trans (congrArg some (by kernel_rfl))
  f285 := Tryz.func277.trans (congrArg some (by kernel_rfl))
  f286 := Tryz.func278.trans (congrArg some (by kernel_rfl))
  f287 := Tryz.func292.trans (congrArg some (by kernel_rfl))
  f316 := Tryz.func293.trans (congrArg some (by kernel_rfl))
  f317 := Tryz.func295.trans (congrArg some (by kernel_rfl))
  f318 := Tryz.func296.trans (congrArg some (by kernel_rfl))
  f319 := Tryz.func297.trans (congrArg some (by kernel_rfl))
  f320 := Tryz.func298.trans (congrArg some (by kernel_rfl))
  f321 := Tryz.func302.trans (congrArg some (by kernel_rfl))
  f322 := Tryz.func303.trans (congrArg some (by kernel_rfl))
  f337 := Tryz.func304.trans (congrArg some (by kernel_rfl))
  f338 := Tryz.func305.trans (congrArg some (by kernel_rfl))
  t0 := Tryz.underlying0
  a0 := Tryz.isAgg0
  z0 := Tryz.sizeOf0
  v0 := Tryz.zeroValue0
  t2 := Tryz.underlying2
  a2 := Tryz.isAgg2
  z2 := Tryz.sizeOf2
  v2 := Tryz.zeroValue2
  t3 := Tryz.underlying3
  a3 := Tryz.isAgg3
  z3 := Tryz.sizeOf3
  v3 := Tryz.zeroValue3
  t4 := Tryz.underlying4
  a4 := Tryz.isAgg4
  z4 := Tryz.sizeOf4
  v4 := Tryz.zeroValue4
  t5 := Tryz.underlying5
  a5 := Tryz.isAgg5
  z5 := Tryz.sizeOf5
  v5 := Tryz.zeroValue5
  t9 := Tryz.underlying9
  a9 := Tryz.isAgg9
  z9 := Tryz.sizeOf9
  v9 := Tryz.zeroValue9
  t20 := Tryz.underlying20
  a20 := Tryz.isAgg20
  z20 := Tryz.sizeOf20
  v20 := Tryz.zeroValue20
  t21 := Tryz.underlying21
  a21 := Tryz.isAgg21
  z21 := Tryz.sizeOf21
  v21 := Tryz.zeroValue21
  t37 := Tryz.underlying130
  a37 := Tryz.isAgg130
  z37 := Tryz.sizeOf130
  v37 := Tryz.zeroValue130
  t46 := Tryz.underlying197
  a46 := Tryz.isAgg197
  z46 := Tryz.sizeOf197
  v46 := Tryz.zeroValue197
  t51 := Tryz.underlying275
  a51 := Tryz.isAgg275
  z51 := Tryz.sizeOf275
  v51 := Tryz.zeroValue275
  t53 := Tryz.underlying277
  a53 := Tryz.isAgg277
  z53 := Tryz.sizeOf277
  v53 := Tryz.zeroValue277
  t75 := Tryz.underlying134
  a75 := Tryz.isAgg134
  z75 := Tryz.sizeOf134
  v75 := Tryz.zeroValue134
  t76 := Tryz.underlying135
  a76 := Tryz.isAgg135
  z76 := Tryz.sizeOf135
  v76 := Tryz.zeroValue135
  t85 := Tryz.underlying309
  a85 := Tryz.isAgg309
  z85 := Tryz.sizeOf309
  v85 := Tryz.zeroValue309
  t127 := Tryz.underlying207
  a127 := Tryz.isAgg207
  z127 := Tryz.sizeOf207
  v127 := Tryz.zeroValue207
  t143 := Tryz.underlying344
  a143 := Tryz.isAgg344
  z143 := Tryz.sizeOf344
  v143 := Tryz.zeroValue344
  t145 := Tryz.underlying346
  a145 := Tryz.isAgg346
  z145 := Tryz.sizeOf346
  v145 := Tryz.zeroValue346
  t167 := Tryz.underlying308
  a167 := Tryz.isAgg308
  z167 := Tryz.sizeOf308
  v167 := Tryz.zeroValue308
  t168 := Tryz.underlying311
  a168 := Tryz.isAgg311
  z168 := Tryz.sizeOf311
  v168 := Tryz.zeroValue311
  t171 := Tryz.underlying315
  a171 := Tryz.isAgg315
  z171 := Tryz.sizeOf315
  v171 := Tryz.zeroValue315
  t173 := Tryz.underlying317
  a173 := Tryz.isAgg317
  z173 := Tryz.sizeOf317
  v173 := Tryz.zeroValue317
  t175 := Tryz.underlying327
  a175 := Tryz.isAgg327
  z175 := Tryz.sizeOf327
  v175 := Tryz.zeroValue327
  t210 := Tryz.underlying331
  a210 := Tryz.isAgg331
  z210 := Tryz.sizeOf331
  v210 := Tryz.zeroValue331
  t212 := Tryz.underlying334
  a212 := Tryz.isAgg334
  z212 := Tryz.sizeOf334
  v212 := Tryz.zeroValue334
  t213 := Tryz.underlying335
  a213 := Tryz.isAgg335
  z213 := Tryz.sizeOf335
  t232 := Tryz.underlying347
  a232 := Tryz.isAgg347
  z232 := Tryz.sizeOf347
  v232 := Tryz.zeroValue347
  t233 := Tryz.underlying348
  a233 := Tryz.isAgg348
  z233 := Tryz.sizeOf348
  v233 := Tryz.zeroValue348
  g15 := by kernel_rfl
  g16 := by kernel_rfl
  g17 := by kernel_rfl
  g18 := by kernel_rfl
  g19 := by kernel_rfl
  t80 := Tryz.underlying138
  a80 := Tryz.isAgg138
  z80 := Tryz.sizeOf138
  v80 := Tryz.zeroValue138
  i0 := by kernel_rfl
  i2 := by kernel_rfl
  i3 := by kernel_rfl
  i4 := by kernel_rfl
  i5 := by kernel_rfl
  i9 := by kernel_rfl
  i20 := by kernel_rfl
  i21 := by kernel_rfl
  i37 := by kernel_rfl
  i46 := by kernel_rfl
  i51 := by kernel_rfl
  i53 := by kernel_rfl
  i75 := by kernel_rfl
  i76 := by kernel_rfl
  i80 := by kernel_rfl
  i85 := by kernel_rfl
  i127 := by kernel_rfl
  i143 := by kernel_rfl
  i145 := by kernel_rfl
  i167 := by kernel_rfl
  i168 := by kernel_rfl
  i171 := by kernel_rfl
  i173 := by kernel_rfl
  i175 := by kernel_rfl
  i210 := by kernel_rfl
  i212 := by kernel_rfl
  i232 := by kernel_rfl
  i233 := by kernel_rfl
  m15 := by kernel_rfl
  m16 := by kernel_rfl
  m17 := by kernel_rfl
  m18 := by kernel_rfl
  m19 := by kernel_rfl
  c0 := by kernel_rfl
  c2 := by kernel_rfl
  c3 := by kernel_rfl
  c4 := by kernel_rfl
  c5 := by kernel_rfl
  c9 := by kernel_rfl
  c20 := by kernel_rfl
  c21 := by kernel_rfl
  c37 := by kernel_rfl
  c46 := by kernel_rfl
  c51 := by kernel_rfl
  c53 := by kernel_rfl
  c75 := by kernel_rfl
  c76 := by kernel_rfl
  c80 := by kernel_rfl
  c85 := by kernel_rfl
  c127 := by kernel_rfl
  c143 := by kernel_rfl
  c145 := by kernel_rfl
  c167 := by kernel_rfl
  c168 := by kernel_rfl
  c171 := by kernel_rfl
  c173 := by kernel_rfl
  c175 := by kernel_rfl
  c210 := by kernel_rfl
  c212 := by kernel_rfl
  c213 := by kernel_rfl
  c232 := by kernel_rfl
  c233 := by kernel_rfl }
open Go.RowKit in
theorem Tryz.strconv_Atoi_ok (s : ByteArray) (hmax : s.size ≤ 9223372036854775806) (v : Int) (h : Lib.atoiAll s.data.toList = .ok v) (w : World) :
    Calls Tryz.prog 159 #[.string s] w fun e w' => e = .returned (.tuple #[.int .i64 v, .nilIface]) ∧ (w' = w ∨ ∃ t, w' = Lib.bytesWorld w 5 t) := Any.strconv_Atoi_ok Tryz.laysC172 s hmax v h w
open Go.RowKit in
theorem Tryz.strconv_Atoi_range_var (s : ByteArray) (hlim : s.size ≤ 281474976710656) (h : Lib.atoiAll s.data.toList = .range) (tp : TypeId) (p : Value) (w : World) (hvar : w.var? Tryz.prog "strconv.ErrRange" = some #[.iface tp p]) :
    Calls Tryz.prog 159 #[.string s] w fun e w' => ∃ N, e = .returned (.tuple #[.int .i64 (Lib.atoiSat s.data.toList), .iface 311 (.pointer (some ⟨N, 0, none⟩))]) ∧ w.heap.size ≤ N ∧ w'.heap[N]? = some (.cells #[.string ⟨#[65, 116, 111, 105]⟩, .string s, .iface tp p] 331 (0, 0)) ∧ Below w.heap.size w w' := Any.strconv_Atoi_range_var Tryz.laysC172 s hlim h tp p w hvar
def Tryz.lays146_ren : Go.Shelf.Ren := ⟨fun | 146 => 81 | 221 => 141 | 268 => 198 | 138 => 199 | 143 => 200 | 195 => 240 | 197 => 241 | 218 => 242 | 219 => 243 | 260 => 279 | 217 => 280 | 225 => 281 | 224 => 282 | 267 => 283 | 266 => 299 | 314 => 300 | n => n, fun | 9 => 9 | 31 => 140 | 3 => 3 | 4 => 4 | 0 => 0 | 105 => 286 | 21 => 21 | 5 => 5 | 46 => 197 | 119 => 336 | 139 => 339 | 138 => 338 | 146 => 340 | 51 => 275 | n => n, fun | 1 => 0 | 3 => 4 | 4 => 5 | n => n⟩
theorem Tryz.lays146 : Go.Proofs.Lays.n146 Tryz.prog Tryz.lays146_ren := {
  mixed := by kernel_rfl
  f138 := Tryz.func199.trans (congrArg some (by kernel_rfl))
  f143 := Tryz.func200.trans (congrArg some (by kernel_rfl))
  f146 := Tryz.func81.trans (congrArg some (by kernel_rfl))
  f195 := Tryz.func240.trans (congrArg some (by kernel_rfl))
  f197 := Tryz.func241.trans (congrArg some (by kernel_rfl))
  f217 := Tryz.func280.trans (congrArg some (by kernel_rfl))
  f218 := Tryz.func242.trans (congrArg some (by kernel_rfl))
  f219 := Tryz.func243.trans (congrArg some (by kernel_rfl))
  f221 := Tryz.func141.trans (congrArg some (by kernel_rfl))
  f224 := Tryz.func282.trans (congrArg some (by kernel_rfl))
  f225 := Tryz.func281.trans (congrArg some (by kernel_rfl))
  f260 := Tryz.func279.trans (congrArg some (by kernel_rfl))
  f266 := Tryz.func299.trans (congrArg some (by kernel_rfl))
  f267 := Tryz.func283.trans (congrArg some (by kernel_rfl))
  f268 := Tryz.func198.trans (congrArg some (by kernel_rfl))
  f314 := Tryz.func300.trans (congrArg some (by kernel_rfl))
  t0 := Tryz.underlying0
  a0 := Tryz.isAgg0
  z0 := Tryz.sizeOf0
  v0 := Tryz.zeroValue0
  t3 := Tryz.underlying3
  a3 := Tryz.isAgg3
  z3 := Tryz.sizeOf3
  v3 := Tryz.zeroValue3
  t4 := Tryz.underlying4
  a4 := Tryz.isAgg4
  z4 := Tryz.sizeOf4
  v4 := Tryz.zeroValue4
  t5 := Tryz.underlying5
  a5 := Tryz.isAgg5
  z5 := Tryz.sizeOf5
  v5 := Tryz.zeroValue5
  t9 := Tryz.underlying9
  a9 := Tryz.isAgg9
  z9 := Tryz.sizeOf9
  v9 := Tryz.zeroValue9
  t21 := Tryz.underlying21
  a21 := Tryz.isAgg21
  z21 := Tryz.sizeOf21
  v21 := Tryz.zeroValue21
  t31 := Tryz.underlying140
  a31 := Tryz.isAgg140
  z31 := Tryz.sizeOf140
  v31 := Tryz.zeroValue140
  t46 := Tryz.underlying197
  a46 := Tryz.isAgg197
  z46 := Tryz.sizeOf197
  v46 := Tryz.zeroValue197
  t51 := Tryz.underlying275
  a51 := Tryz.isAgg275
  z51 := Tryz.sizeOf275
  v51 := Tryz.zeroValue275
  t105 := Tryz.underlying286
  a105 := Tryz.isAgg286
  z105 := Tryz.sizeOf286
  v105 := Tryz.zeroValue286
  t119 := Tryz.underlying336
  a119 := Tryz.isAgg336
  z119 := Tryz.sizeOf336
  t138 := Tryz.underlying338
  a138 := Tryz.isAgg338
  z138 := Tryz.sizeOf338
  v138 := Tryz.zeroValue338
  t139 := Tryz.underlying339
  a139 := Tryz.isAgg339
  z139 := Tryz.sizeOf339
  v139 := Tryz.zeroValue339
  t146 := Tryz.underlying340
  a146 := Tryz.isAgg340
  z146 := Tryz.sizeOf340
  v146 := Tryz.zeroValue340
  g1 := by kernel_rfl
  g3 := by kernel_rfl
  g4 := by kernel_rfl }
open Go.RowKit Go.Lib in
theorem Tryz.strings_Split (s sep : ByteArray) (m : Int) (w : World) (hs : s.size < 4294967281) (hm : w.cell? ⟨0, 0, none⟩ = some (.int .i64 m)) (h1 : 1 ≤ sep.size) :
    Calls Tryz.prog 81 #[.string s, .string sep] w fun e w' =>
      e = .returned (.slice (some ⟨w.heap.size, 0, none⟩) (Lib.countB s sep + 1) (Lib.countB s sep + 1)) ∧ w' = w.alloc (.cells ((Lib.splitB sep 0 (Lib.countB s sep) s).map Value.string).toArray 9) := Any.strings_Split Tryz.lays146 (by kernel_rfl) s sep m w hs hm h1
end Go.Proofs
namespace Go.Proofs.YtmalhidldgfeoaaGreatDoor
open Go.RowKit Go.Eng Go.Nw
abbrev ints (A : Option Addr) (cap : Nat) (l : List Int) : HP := sl 3 1 A l.length cap (l.flatMap numF)
theorem Zr {l : List Int} {k : Nat} {a : Int} (h : l[k]? = some a) : l.take (k + 1) = l.take k ++ [a] := by rw [List.take_add_one, h]; rfl
open Go.RowKit Go.Eng Go.Nw
theorem NetM.In.mono {B : Nat} {w0 : World} {H K : List HP} {n : NetM} (h : n.In B w0 H) (hH : ∀ w, St B w0 K w → St B w0 H w) : n.In B w0 K :=
  ⟨h.pw.mono hH, fun r hr => (h.rw_ r hr).mono hH, h.lk.mono hH, h.mg.mono hH, h.s1, h.s2, h.s3, h.s4⟩
open Go.RowKit Go.Eng Go.Nw Go.Rt
theorem Ya3 {n : Net} (h : Yy n = 0) (a b : Int) : Vs n (X7 n a b) = YT n a b := by
  have hok := Y2 h
  unfold Vs X7
  rw [if_neg (by simp [h]), decide_eq_true h, Bool.true_and]
  by_cases h1 : 0 ≤ YD n a b
  · have h2 := ZO h1
    rw [decide_eq_true ⟨h1, by omega⟩, Bool.true_and, Wv hok h2]
    obtain ⟨e1, e2⟩ := Ud h1
    rw [e1, e2]
  · rw [decide_eq_false (fun h => h1 h.1), Bool.false_and]
    unfold YT
    rw [decide_eq_false h1, Bool.false_and]
def offE (n : Net) (a : Int) : Bool := decide (a < 0 ∨ n.nodes ≤ a)
def Wa (n : Net) (s t : Int) : Int := if Yy n ≠ 0 then 1 else if offE n s = true ∨ offE n t = true ∨ s = t then 2 else 0
def OA (r : List Int) : Bool := (List.range r.length).any fun i => (r.take i).contains (r.getD i 0)
def Vt (n : Net) (r : List Int) : Bool := (List.range (r.length - 1)).any fun i => !YT n (r.getD i 0) (r.getD (i + 1) 0)
def Qg (n : Net) (s t : Int) (r : List Int) : Int :=
  if r.length < 2 then 9 else if 9 < r.length then 8 else if r.any (offE n) = true then 2 else if r.getD 0 0 ≠ s ∨ r.getD (r.length - 1) 0 ≠ t then 11
  else if OA r = true then 6 else if Vt n r = true then 17 else 0
def Za (n : Net) (s t : Int) (r : List Int) : Int := if Wa n s t ≠ 0 then Wa n s t else Qg n s t r
theorem OL {p : Nat → Bool} {k : Nat} : (List.range (k + 1)).any p = ((List.range k).any p || p k) := by
  rw [List.range_succ, List.any_append]; simp
theorem Zt {l : List Int} {i : Nat} (h : i < l.length) : l[i]? = some (l.getD i 0) := by
  rw [List.getD_eq_getElem?_getD, List.getElem?_eq_getElem h]; rfl
open Go.RowKit Go.Eng Go.Nw Go.Rt
def onP (id a b : Int) (c : Cel) : Bool := decide (V8 c = id ∧ YM c = a ∧ toC c = b)
def VJ (s : Sch) (id : Int) (l : Lk) : List Cel := s.cells.filter (onP id l.1 l.2.1)
def Y7 (len a : Int) : List Cel → Nat → List (Cel × Int)
  | [], _ => []
  | c :: cs, k => if c.1 = a.tmod len ∧ k ≠ 0 then (c, a) :: Y7 len a cs (k - 1) else Y7 len a cs k
def hopP (len : Int) (cs : List Cel) : Nat → Nat → Int → List (Cel × Int)
  | 0, _, _ => []
  | f + 1, k, a => Y7 len a cs k ++ hopP len cs f (k - (Y7 len a cs k).length) (a + 1)
def Zw (x : List (Cel × Int)) (a : Int) : Int := match x.getLast? with | some z => z.2 + 1 | none => a
def YX (l : Lk) : Nat := (l.2.2 + 1).toNat
def runP (len : Int) (C : Lk → List Cel) (endd : Int) : List Lk → Int → List (Cel × Int)
  | [], _ => []
  | l :: ls, a => if (hopP len (C l) (endd - a).toNat (YX l) a).length < YX l then hopP len (C l) (endd - a).toNat (YX l) a
    else hopP len (C l) (endd - a).toNat (YX l) a ++ runP len C endd ls (Zw (hopP len (C l) (endd - a).toNat (YX l) a) a)
def Xc (ls : List Lk) : Nat := (ls.map YX).sum
theorem Ul (len a : Int) : ∀ (cs : List Cel) (k : Nat), (Y7 len a cs k).length ≤ k
  | [], k => Nat.zero_le _
  | c :: cs, k => by
    unfold Y7
    split
    · rename_i h
      have := Ul len a cs (k - 1)
      rw [List.length_cons]; omega
    · exact Ul len a cs k
theorem Ur {len a : Int} : ∀ {cs : List Cel} {k : Nat} {z : Cel × Int}, z ∈ Y7 len a cs k → z.2 = a
  | [], k, z, h => by cases h
  | c :: cs, k, z, h => by
    unfold Y7 at h
    split at h
    · rcases List.mem_cons.1 h with rfl | h
      · rfl
      · exact Ur h
    · exact Ur h
theorem WU (len : Int) (cs : List Cel) : ∀ (f k : Nat) (a : Int), (hopP len cs f k a).length ≤ k
  | 0, k, a => Nat.zero_le _
  | f + 1, k, a => by
    unfold hopP
    have h1 := Ul len a cs k
    have h2 := WU len cs f (k - (Y7 len a cs k).length) (a + 1)
    rw [List.length_append]; omega
theorem Yfe (len : Int) (cs : List Cel) (f : Nat) (a : Int) : hopP len cs f 0 a = [] := List.eq_nil_of_length_eq_zero (Nat.le_zero.1 (WU len cs f 0 a))
theorem Ydg {len : Int} {cs : List Cel} : ∀ {f k : Nat} {a : Int} {z : Cel × Int}, z ∈ hopP len cs f k a → a ≤ z.2 ∧ z.2 < a + f
  | 0, k, a, z, h => by cases h
  | f + 1, k, a, z, h => by
    unfold hopP at h
    rcases List.mem_append.1 h with h | h
    · have := Ur h; omega
    · have := Ydg h; omega
theorem YaZ (len : Int) (C : Lk → List Cel) (endd : Int) : ∀ (ls : List Lk) (a : Int), (runP len C endd ls a).length ≤ Xc ls
  | [], a => Nat.zero_le _
  | l :: ls, a => by
    have h1 := WU len (C l) (endd - a).toNat (YX l) a
    have h2 := YaZ len C endd ls (Zw (hopP len (C l) (endd - a).toNat (YX l) a) a)
    have h3 : Xc (l :: ls) = YX l + Xc ls := by unfold Xc; rw [List.map_cons, List.sum_cons]
    unfold runP
    split
    · omega
    · rw [List.length_append]; omega
theorem YfG {x : List (Cel × Int)} {a b : Int} (h : ∀ z ∈ x, a ≤ z.2 ∧ z.2 < b) (hab : a ≤ b) : a ≤ Zw x a ∧ Zw x a ≤ b := by
  unfold Zw
  cases hx : x.getLast? with
  | none => exact ⟨Int.le_refl _, hab⟩
  | some z =>
    have := h z (List.mem_of_getLast? hx)
    simp only
    omega
theorem Yay {len : Int} {C : Lk → List Cel} {endd : Int} : ∀ {ls : List Lk} {a : Int} {z : Cel × Int}, a ≤ endd → z ∈ runP len C endd ls a → a ≤ z.2 ∧ z.2 < endd
  | [], a, z, _, h => by cases h
  | l :: ls, a, z, hae, h => by
    have hb : ∀ z ∈ hopP len (C l) (endd - a).toNat (YX l) a, a ≤ z.2 ∧ z.2 < endd := fun z hz => by
      have := Ydg hz; omega
    unfold runP at h
    split at h
    · exact hb z h
    · rcases List.mem_append.1 h with h | h
      · exact hb z h
      · have h1 := YfG hb hae
        have := Yay h1.2 h
        omega
def JO (len : Int) (C : Lk → List Cel) (endd : Int) (cs : List Cel) (ls : List Lk) (f k : Nat) (a at_ : Int) : List (Cel × Int) :=
  if (hopP len cs f k a).length < k then hopP len cs f k a else hopP len cs f k a ++ runP len C endd ls (Zw (hopP len cs f k a) at_)
theorem Yfk (len : Int) (C : Lk → List Cel) (endd : Int) (l : Lk) (ls : List Lk) (a : Int) : runP len C endd (l :: ls) a = JO len C endd (C l) ls (endd - a).toNat (YX l) a a := rfl
theorem Yd7 (len : Int) (C : Lk → List Cel) (endd : Int) (cs : List Cel) (ls : List Lk) (f : Nat) (a at_ : Int) : JO len C endd cs ls f 0 a at_ = runP len C endd ls at_ := by
  unfold JO
  rw [Yfe, if_neg (Nat.not_lt_zero _)]
  rfl
theorem Yfr {len : Int} {C : Lk → List Cel} {endd : Int} {cs : List Cel} {ls : List Lk} {k : Nat} {a at_ : Int} (hk : k ≠ 0) : JO len C endd cs ls 0 k a at_ = [] := by
  unfold JO
  rw [if_pos (by simp [hopP]; omega)]
  rfl
theorem YdU {x y : List (Cel × Int)} {a b : Int} (hy : ∀ z ∈ y, z.2 + 1 = b) : Zw (y ++ x) a = Zw x (if y = [] then a else b) := by
  unfold Zw
  cases hx : x.getLast? with
  | some z => rw [List.getLast?_append, hx]; rfl
  | none =>
    obtain rfl := List.getLast?_eq_none_iff.1 hx
    rw [List.append_nil]
    cases hy2 : y.getLast? with
    | none =>
      obtain rfl := List.getLast?_eq_none_iff.1 hy2
      rfl
    | some z =>
      have hne : y ≠ [] := fun e => by rw [e] at hy2; cases hy2
      rw [if_neg hne]
      exact hy z (List.mem_of_getLast? hy2)
theorem Yed (len : Int) (C : Lk → List Cel) (endd : Int) (cs : List Cel) (ls : List Lk) (f k : Nat) (a at_ : Int) :
    JO len C endd cs ls (f + 1) k a at_ = Y7 len a cs k ++ JO len C endd cs ls f (k - (Y7 len a cs k).length) (a + 1) (if Y7 len a cs k = [] then at_ else a + 1) := by
  have hl := Ul len a cs k
  have h1 : hopP len cs (f + 1) k a = Y7 len a cs k ++ hopP len cs f (k - (Y7 len a cs k).length) (a + 1) := rfl
  unfold JO
  rw [h1, List.length_append]
  by_cases h2 : (hopP len cs f (k - (Y7 len a cs k).length) (a + 1)).length < k - (Y7 len a cs k).length
  · rw [if_pos h2, if_pos (by omega)]
  · rw [if_neg h2, if_neg (by omega), YdU (b := a + 1) (fun z hz => by rw [Ur hz]), List.append_assoc]
def VE (len : Int) (C : Lk → List Cel) (endd : Int) (cs cs' : List Cel) (ls : List Lk) (f k : Nat) (a at_ : Int) : List (Cel × Int) :=
  Y7 len a cs' k ++ JO len C endd cs ls f (k - (Y7 len a cs' k).length) (a + 1) (if Y7 len a cs' k = [] then at_ else a + 1)
theorem YeR (len : Int) (C : Lk → List Cel) (endd : Int) (cs : List Cel) (ls : List Lk) (f k : Nat) (a at_ : Int) : VE len C endd cs cs ls f k a at_ = JO len C endd cs ls (f + 1) k a at_ := (Yed ..).symm
theorem Yfw (len : Int) (C : Lk → List Cel) (endd : Int) (cs : List Cel) (ls : List Lk) (f k : Nat) (a at_ : Int) : VE len C endd cs [] ls f k a at_ = JO len C endd cs ls f k (a + 1) at_ := by
  simp [VE, Y7]
theorem Yfu {len : Int} {C : Lk → List Cel} {endd : Int} {cs cs' : List Cel} {c : Cel} {ls : List Lk} {f k : Nat} {a at_ : Int} (h : c.1 = a.tmod len) (hk : k ≠ 0) :
    VE len C endd cs (c :: cs') ls f k a at_ = (c, a) :: VE len C endd cs cs' ls f (k - 1) a (a + 1) := by
  have h1 : Y7 len a (c :: cs') k = (c, a) :: Y7 len a cs' (k - 1) := by rw [Y7, if_pos ⟨h, hk⟩]
  unfold VE
  rw [h1, List.length_cons, if_neg (List.cons_ne_nil _ _), show k - ((Y7 len a cs' (k - 1)).length + 1) = k - 1 - (Y7 len a cs' (k - 1)).length by omega]
  simp
theorem YgE {len : Int} {C : Lk → List Cel} {endd : Int} {cs cs' : List Cel} {c : Cel} {ls : List Lk} {f k : Nat} {a at_ : Int} (h : ¬ (c.1 = a.tmod len ∧ k ≠ 0)) :
    VE len C endd cs (c :: cs') ls f k a at_ = VE len C endd cs cs' ls f k a at_ := by
  unfold VE
  rw [Y7, if_neg h]
def runR (len : Int) (C : Lk → List Cel) (endd : Int) : List Lk → Int → Option (List Int)
  | [], _ => some []
  | l :: ls, a => if (hopP len (C l) (endd - a).toNat (YX l) a).length < YX l then none
    else (runR len C endd ls (Zw (hopP len (C l) (endd - a).toNat (YX l) a) a)).map fun y => (hopP len (C l) (endd - a).toNat (YX l) a).map Prod.snd ++ y
theorem Ydx (len : Int) (C : Lk → List Cel) (endd : Int) : ∀ (ls : List Lk) (a : Int), runR len C endd ls a = if (runP len C endd ls a).length < Xc ls then none else some ((runP len C endd ls a).map Prod.snd)
  | [], a => rfl
  | l :: ls, a => by
    have h3 : Xc (l :: ls) = YX l + Xc ls := by unfold Xc; rw [List.map_cons, List.sum_cons]
    have hl := WU len (C l) (endd - a).toNat (YX l) a
    unfold runR runP
    by_cases h : (hopP len (C l) (endd - a).toNat (YX l) a).length < YX l
    · rw [if_pos h, if_pos h, if_pos (by omega)]
    · rw [if_neg h, if_neg h, Ydx len C endd ls]
      by_cases h4 : (runP len C endd ls (Zw (hopP len (C l) (endd - a).toNat (YX l) a) a)).length < Xc ls
      · rw [if_pos h4, if_pos (by rw [List.length_append]; omega)]; rfl
      · rw [if_neg h4, if_neg (by rw [List.length_append]; omega)]; simp
def UQ (n : Net) (r : List Int) (i : Nat) : Lk := lnk n (YD n (r.getD i 0) (r.getD (i + 1) 0)).toNat
def YB (n : Net) (r : List Int) : List Lk := (List.range (r.length - 1)).map (UQ n r)
def Qi (n : Net) (s : Sch) (f : Flw) (r : List Int) (release : Int) : Option (List Int) := runR s.len (VJ s f.1) (release + f.2.2.2.1) (YB n r) release
def Z5 (l : List Int) : Int := l.getD (l.length - 1) 0
def Wt (S : Int → Option (List Int)) (len period : Int) : Nat → Int → Int × Int × List Int → Option (Int × Int × List Int)
  | 0, _, b => some b
  | k + 1, rel, b => if len ≤ rel then some b else match S rel with
    | none => none
    | some l => Wt S len period k (rel + period) (if b.1 < Z5 l - rel + 1 then (Z5 l - rel + 1, rel, l.map fun z => z - rel) else b)
def Vf (n : Net) (s : Sch) (f : Flw) (r : List Int) : Option (Int × Int × List Int) := Wt (Qi n s f r) s.len f.2.2.2.1 s.len.toNat f.2.2.2.2.1 (0, 0, [])
def wayE (n : Net) (s : Sch) (f : Flw) (r : List Int) : Int :=
  if Yy n ≠ 0 ∨ XF s = false ∨ XK n.nodes f ≠ 0 then 1 else if s.len.tmod f.2.2.2.1 ≠ 0 then 11 else Za n f.2.1 f.2.2.1 r
def Xe (n : Net) (s : Sch) (f : Flw) (r : List Int) : (Int × Int × List Int) × Int :=
  if wayE n s f r ≠ 0 then ((0, 0, []), wayE n s f r) else match Vf n s f r with
    | none => ((0, 0, []), 15)
    | some b => (b, 0)
open Go.RowKit Go.Eng Go.Nw Go.Rt
abbrev Rqs := Flw × List (List Int)
structure Clm where
  flow : Int
  routes : List (List Int)
  bounds : List Int
  worst : List Int
  slots : List (List Int)
deriving DecidableEq
def YhT : Clm := ⟨0, [], [], [], []⟩
def UF (q : List Rqs) : List Flw := q.map Prod.fst
def YhY : Rqs := ((0, 0, 0, 0, 0, 0), [])
def rqAt (q : List Rqs) (i : Nat) : Rqs := q.getD i YhY
def rtAt (l : List (List Int)) (k : Nat) : List Int := l.getD k []
def rtsE (n : Net) (x : Rqs) : Int :=
  if x.2.length = 0 then 14 else if 2 < x.2.length then 8
  else if (Yz (fun k => Za n x.1.2.1 x.1.2.2.1 (rtAt x.2 k)) x.2.length 0).2 ≠ 0 then (Yz (fun k => Za n x.1.2.1 x.1.2.2.1 (rtAt x.2 k)) x.2.length 0).2
  else if x.2.length = 2 ∧ rtAt x.2 0 = rtAt x.2 1 then 6 else 0
def rqsE (n : Net) (q : List Rqs) : Int × Int :=
  if Yy n ≠ 0 then (-1, 1) else if (YR n.nodes (UF q)).2 ≠ 0 then YR n.nodes (UF q)
  else Yz (fun i => rtsE n (rqAt q i)) q.length 0
def badR (n : Net) (s : Sch) (f : Flw) (r : List Int) : Bool := decide ((Xe n s f r).2 ≠ 0 ∨ f.2.2.2.2.2 < (Xe n s f r).1.1)
def Yb1 (n : Net) (s : Sch) (x : Rqs) (l : List (List Int)) : Clm :=
  ⟨x.1.1, l, l.map fun r => (Xe n s x.1 r).1.1, l.map fun r => (Xe n s x.1 r).1.2.1, l.map fun r => (Xe n s x.1 r).1.2.2⟩
def VG (n : Net) (s : Sch) (x : Rqs) : Bool := x.2.any (badR n s x.1)
def clmE (n : Net) (s : Sch) (x : Rqs) : Clm := Yb1 n s x x.2
def V9 (n : Net) (q : List Rqs) (s : Sch) : List Clm × (Int × Int) :=
  if (rqsE n q).2 ≠ 0 then ([], rqsE n q) else if (schE n (UF q) s).2 ≠ 0 then ([], (-1, 1))
  else if (Yz (fun i => if VG n s (rqAt q i) = true then 15 else 0) q.length 0).2 ≠ 0 then ([], Yz (fun i => if VG n s (rqAt q i) = true then 15 else 0) q.length 0)
  else (q.map (clmE n s), (-1, 0))
def ZG (c : List Clm) (i : Nat) : Clm := c.getD i YhT
def chkE (n : Net) (q : List Rqs) (s : Sch) (c : List Clm) : Int × Int :=
  if (V9 n q s).2.2 ≠ 0 then (V9 n q s).2 else if c.length ≠ (V9 n q s).1.length then (-1, 11)
  else Yz (fun i => if ZG c i = ZG (V9 n q s).1 i then 0 else 20) c.length 0
def minI : List Int → Int
  | [] => 0
  | a :: l => l.foldl (fun x y => if y < x then y else x) a
def bndE (c : List Clm) (id : Int) : Int × Bool :=
  match c.find? (fun x => decide (x.flow = id) && decide (0 < x.bounds.length)) with
  | none => (0, false)
  | some x => (minI x.bounds, true)
def cutC (c : UInt8) : List UInt8 → List (List UInt8)
  | [] => [[]]
  | x :: l => if x = c then [] :: cutC c l else match cutC c l with
    | [] => [[x]]
    | h :: t => (x :: h) :: t
theorem VK (c : UInt8) : ∀ l, cutC c l ≠ []
  | [] => by simp [cutC]
  | x :: l => by
    unfold cutC
    split
    · simp
    · split <;> simp
theorem YaI {c : UInt8} : ∀ {a : List UInt8} (l : List UInt8), c ∉ a → cutC c (a ++ c :: l) = a :: cutC c l
  | [], l, _ => by rw [List.nil_append, cutC, if_pos rfl]
  | x :: a, l, h => by
    have hx : x ≠ c := fun e => h (e ▸ List.mem_cons_self)
    rw [List.cons_append, cutC, if_neg hx, YaI l fun hm => h (List.mem_cons_of_mem _ hm)]
theorem YcP {c : UInt8} : ∀ {a : List UInt8}, c ∉ a → cutC c a = [a]
  | [], _ => rfl
  | x :: a, h => by
    have hx : x ≠ c := fun e => h (e ▸ List.mem_cons_self)
    rw [cutC, if_neg hx, YcP fun hm => h (List.mem_cons_of_mem _ hm)]
def Jc (c : UInt8) : List (List UInt8) → List UInt8
  | [] => []
  | [p] => p
  | p :: q :: r => p ++ c :: Jc c (q :: r)
theorem Om {c : UInt8} : ∀ l : List UInt8, Jc c (cutC c l) = l
  | [] => rfl
  | x :: l => by
    have ih := Om (c := c) l
    unfold cutC
    split
    · rename_i e
      subst e
      cases h : cutC x l with
      | nil => exact absurd h (VK x l)
      | cons a t => rw [h] at ih; show [] ++ x :: Jc x (a :: t) = _; rw [ih]; rfl
    · split
      · rename_i h; exact absurd h (VK c l)
      · rename_i a t h
        rw [h] at ih
        cases t with
        | nil => show x :: a = _; rw [show a = l from ih]
        | cons b t => show (x :: a) ++ c :: Jc c (b :: t) = _; rw [List.cons_append, show a ++ c :: Jc c (b :: t) = l from ih]
theorem Og {c : UInt8} : ∀ {ps : List (List UInt8)}, ps ≠ [] → (∀ p ∈ ps, c ∉ p) → cutC c (Jc c ps) = ps
  | [], h, _ => absurd rfl h
  | [p], _, h => YcP (h p List.mem_cons_self)
  | p :: q :: r, _, h => by
    show cutC c (p ++ c :: Jc c (q :: r)) = _
    rw [YaI _ (h p List.mem_cons_self), Og (by simp) fun x hx => h x (List.mem_cons_of_mem _ hx)]
theorem Yak {c : UInt8} : ∀ {a : List UInt8} (b : List UInt8), c ∉ a → Lib.index (a ++ c :: b) [c] = a.length
  | [], b, _ => by simp [Lib.index, List.isPrefixOf]
  | x :: a, b, h => by
    have hx : ¬ c = x := fun e => h (e ▸ List.mem_cons_self)
    have ih := Yak (c := c) (a := a) b fun hm => h (List.mem_cons_of_mem _ hm)
    rw [List.cons_append, Lib.index, if_neg (by simp [List.isPrefixOf, hx]), ih, if_neg (by intro h; have := eq_of_beq h; omega)]
    simp
theorem Ybc {c : UInt8} : ∀ {a : List UInt8}, c ∉ a → Lib.index a [c] = -1
  | [], _ => rfl
  | x :: a, h => by
    have hx : ¬ c = x := fun e => h (e ▸ List.mem_cons_self)
    have ih := Ybc (c := c) (a := a) fun hm => h (List.mem_cons_of_mem _ hm)
    rw [Lib.index, if_neg (by simp [List.isPrefixOf, hx]), ih, if_pos (by decide)]
theorem Yee {c : UInt8} (s : List UInt8) : Lib.split s [c] = cutC c s := by
  unfold Lib.split
  obtain ⟨k, hk⟩ : ∃ k, s.length = k := ⟨_, rfl⟩
  induction k using Nat.strongRecOn generalizing s with
  | _ k ih =>
    by_cases hm : c ∈ s
    · obtain ⟨a, b, rfl, ha⟩ := List.eq_append_cons_of_mem hm
      have hi := Yak b ha
      rw [Lib.count_hit (by simp) hi, Nat.add_comm, Lib.splitK, if_neg (by rw [hi]; intro h; have := eq_of_beq h; omega), hi, YaI b ha]
      have e1 : ((a.length : Int).toNat) = a.length := rfl
      have e2 : (a ++ c :: b).take (a.length + 0) = a := by simp
      have e3 : (a ++ c :: b).drop (a.length + [c].length) = b := by
        rw [show a ++ c :: b = (a ++ [c]) ++ b by simp, show a.length + [c].length = (a ++ [c]).length by simp, List.drop_left]
      rw [e1, e2, e3, ih b.length (by rw [← hk]; simp; omega) b rfl]
    · rw [Lib.count_miss (Ybc hm), Lib.splitK, YcP hm]
def digB (b : UInt8) : Bool := decide (48 ≤ b.toNat ∧ b.toNat ≤ 57)
def valN (l : List UInt8) : Nat := l.foldl (fun a b => 10 * a + (b.toNat - 48)) 0
def numW (w : List UInt8) : Int := if w.length < 1 ∨ 4 < w.length ∨ (1 < w.length ∧ w.head? = some 48) ∨ w.all digB = false then -1 else (valN w : Int)
theorem Uv (l : List UInt8) (d : UInt8) : valN (l ++ [d]) = 10 * valN l + (d.toNat - 48) := by
  unfold valN; rw [List.foldl_append]; rfl
theorem YgH : ∀ {l : List UInt8}, l ≠ [] → l.all digB = true → l.head? ≠ some 48 → 1 ≤ valN l := by
  intro l
  obtain ⟨k, hk⟩ : ∃ k, l.length = k := ⟨_, rfl⟩
  induction k generalizing l with
  | zero => intro h; exact absurd (List.length_eq_zero_iff.1 hk) h
  | succ k ih =>
    intro hne ha hh
    rcases List.eq_nil_or_concat l with rfl | ⟨m, d, rfl⟩
    · exact absurd rfl hne
    rw [List.concat_eq_append] at *
    rw [Uv]
    cases m with
    | nil =>
      have h1 : digB d = true := by simpa using ha
      unfold digB at h1
      have h2 := of_decide_eq_true h1
      have h3 : d ≠ 48 := fun e => hh (by rw [e]; rfl)
      have h4 : d.toNat ≠ 48 := fun e => h3 (UInt8.toNat_inj.1 e)
      omega
    | cons x m =>
      have := ih (l := x :: m) (by simpa using hk) (by simp) (by rw [List.all_append] at ha; simp only [Bool.and_eq_true] at ha; exact ha.1) (by simpa using hh)
      omega
theorem Yf3 : ∀ {l : List UInt8}, l ≠ [] → l.all digB = true → (l.length = 1 ∨ l.head? ≠ some 48) → Lib.decDigits (valN l) = l := by
  intro l
  obtain ⟨k, hk⟩ : ∃ k, l.length = k := ⟨_, rfl⟩
  induction k generalizing l with
  | zero => intro h; exact absurd (List.length_eq_zero_iff.1 hk) h
  | succ k ih =>
    intro hne ha hh
    rcases List.eq_nil_or_concat l with rfl | ⟨m, d, rfl⟩
    · exact absurd rfl hne
    rw [List.concat_eq_append] at *
    rw [List.all_append] at ha
    simp only [Bool.and_eq_true] at ha
    have h1 : digB d = true := by simpa using ha.2
    unfold digB at h1
    have h2 := of_decide_eq_true h1
    have hd : UInt8.ofNat (48 + (d.toNat - 48)) = d := by
      rw [show 48 + (d.toNat - 48) = d.toNat by omega]; exact UInt8.ofNat_toNat
    rw [Uv]
    cases m with
    | nil => rw [show 10 * valN [] + (d.toNat - 48) = d.toNat - 48 by simp [valN], Lib.decDigits_one (by omega), hd]; rfl
    | cons x m =>
      have hx : (x :: m).head? ≠ some 48 := by
        rcases hh with h | h
        · simp at h
        · simpa using h
      have hp := YgH (by simp) ha.1 hx
      rw [Lib.decDigits, dif_neg (by omega), show (10 * valN (x :: m) + (d.toNat - 48)) / 10 = valN (x :: m) by omega, show (10 * valN (x :: m) + (d.toNat - 48)) % 10 = d.toNat - 48 by omega, hd, ih (by simpa using hk) (by simp) ha.1 (.inr hx)]
theorem Yhd {l : List UInt8} (h : l.all digB = true) : valN l < 10 ^ l.length := by
  obtain ⟨k, hk⟩ : ∃ k, l.length = k := ⟨_, rfl⟩
  induction k generalizing l with
  | zero => rw [List.length_eq_zero_iff.1 hk]; decide
  | succ k ih =>
    rcases List.eq_nil_or_concat l with rfl | ⟨m, d, rfl⟩
    · simp at hk
    rw [List.concat_eq_append] at *
    rw [List.all_append] at h
    simp only [Bool.and_eq_true] at h
    have h1 : digB d = true := by simpa using h.2
    unfold digB at h1
    have h2 := of_decide_eq_true h1
    have hm : m.length = k := by simpa using hk
    have := ih h.1 hm
    rw [Uv, List.length_append, hm, List.length_singleton, Nat.pow_succ]
    rw [hm] at this
    omega
structure Dec (u : Nat) (l : List UInt8) : Prop where
  ne : l ≠ []
  dig : l.all digB = true
  head : 1 ≤ u → l.head? ≠ some 48
  one : u = 0 → l.length = 1
  val : valN l = u
theorem Ya5 (u : Nat) : Dec u (Lib.decDigits u) := by
  induction u using Nat.strongRecOn with
  | _ u ih =>
    have hdg : ∀ d : Nat, d < 10 → (UInt8.ofNat (48 + d)).toNat = 48 + d := fun d hd => by rw [UInt8.toNat_ofNat']; omega
    by_cases h : u < 10
    · rw [Lib.decDigits_one h]
      have e := hdg u h
      refine ⟨by simp, ?_, fun h1 => ?_, fun _ => rfl, ?_⟩
      · simp [digB]; omega
      · simp only [List.head?_cons, ne_eq, Option.some.injEq]
        intro e2
        rw [e2] at e
        have : (48 : UInt8).toNat = 48 := rfl
        omega
      · show 10 * 0 + ((UInt8.ofNat (48 + u)).toNat - 48) = u
        rw [e]; omega
    · have h2 := ih (u / 10) (by omega)
      have e := hdg (u % 10) (by omega)
      rw [Lib.decDigits, dif_neg h]
      refine ⟨by simp, ?_, fun _ => ?_, fun h0 => by omega, ?_⟩
      · rw [List.all_append, h2.dig]
        simp [digB]; omega
      · have := h2.head (by omega)
        cases hl : Lib.decDigits (u / 10) with
        | nil => exact absurd hl h2.ne
        | cons x m => rw [hl] at this; simpa using this
      · rw [Uv, h2.val, e]; omega
theorem YaJ {w : List UInt8} (h : 0 ≤ numW w) : (numW w).toNat < 10000 ∧ w = Lib.decDigits (numW w).toNat := by
  unfold numW at h ⊢
  split at h
  · omega
  · rename_i hc
    rw [if_neg hc]
    have hne : w ≠ [] := fun e => hc (.inl (by rw [e]; decide))
    have hd : w.all digB = true := by
      cases hd : w.all digB with
      | true => rfl
      | false => exact absurd (.inr (.inr (.inr hd))) hc
    have hb := Yhd hd
    have h4 : w.length ≤ 4 := by omega
    refine ⟨?_, ?_⟩
    · have : 10 ^ w.length ≤ 10 ^ 4 := Nat.pow_le_pow_right (by decide) h4
      simp only [Int.toNat_natCast]
      omega
    · rw [Int.toNat_natCast, Yf3 hne hd]
      by_cases h1 : w.length = 1
      · exact .inl h1
      · refine .inr fun e => hc (.inr (.inr (.inl ⟨?_, e⟩)))
        have := List.length_pos_iff.2 hne
        omega
theorem WN {u : Nat} (h : u < 10000) : (Lib.decDigits u).length ≤ 4 := by
  rw [Lib.decDigits_length]
  by_cases h1 : u < 10
  · rw [Lib.nDigits_small h1]; omega
  · rw [Lib.nDigits_big h1]
    by_cases h2 : u / 10 < 10
    · rw [Lib.nDigits_small h2]; omega
    · rw [Lib.nDigits_big h2]
      by_cases h3 : u / 10 / 10 < 10
      · rw [Lib.nDigits_small h3]; omega
      · rw [Lib.nDigits_big h3, Lib.nDigits_small (by omega)]; omega
theorem Ox {u : Nat} (h : u < 10000) : numW (Lib.decDigits u) = u := by
  have hd := Ya5 u
  have hl := WN h
  unfold numW
  rw [if_neg, hd.val]
  rintro (h1 | h1 | ⟨h1, h2⟩ | h1)
  · have := List.length_pos_iff.2 hd.ne; omega
  · omega
  · rcases Nat.eq_zero_or_pos u with h0 | h0
    · have := hd.one h0; omega
    · exact hd.head h0 h2
  · rw [hd.dig] at h1; cases h1
theorem Wm : ∀ (l : List UInt8) (a : Nat), l.all digB = true → Lib.decFrom a l = some (l.foldl (fun a b => 10 * a + (b.toNat - 48)) a)
  | [], _, _ => rfl
  | b :: l, a, h => by
    simp only [List.all_cons, Bool.and_eq_true] at h
    have h1 := h.1
    unfold digB at h1
    have h2 := of_decide_eq_true h1
    rw [Lib.decFrom, show Lib.digitVal b = some (b.toNat - 48) by unfold Lib.digitVal; rw [if_pos h2]]
    show Lib.decFrom (a * 10 + (b.toNat - 48)) l = _
    rw [Wm l _ h.2, List.foldl_cons, Nat.mul_comm]
theorem Ybr {u : Nat} (h : u < 10000) : Lib.atoiAll (Lib.decDigits u) = .ok (u : Int) := by
  have hd := Ya5 u
  have hl := WN h
  rw [Lib.atoiAll_short _ (by omega)]
  have h1 : Lib.atoi (Lib.decDigits u) = some (u : Int) := by
    have hv := Wm _ 0 hd.dig
    have e := hd.val
    unfold valN at e
    rw [e] at hv
    have hdig := hd.dig
    cases hl : Lib.decDigits u with
    | nil => exact absurd hl hd.ne
    | cons b r =>
      rw [hl] at hv hdig
      simp only [List.all_cons, Bool.and_eq_true] at hdig
      have h1 := hdig.1
      unfold digB at h1
      have h2 := of_decide_eq_true h1
      have n1 : ¬ (b == 45) = true := fun e => by
        have := eq_of_beq e
        rw [this] at h2
        exact absurd h2.1 (by decide)
      have n2 : ¬ (b == 43) = true := fun e => by
        have := eq_of_beq e
        rw [this] at h2
        exact absurd h2.1 (by decide)
      show (if (b == 45) = true then (Lib.decNat r).map (fun (m : Nat) => -(m : Int)) else if (b == 43) = true then (Lib.decNat r).map (fun (m : Nat) => (m : Int)) else (Lib.decNat (b :: r)).map fun (m : Nat) => (m : Int)) = _
      rw [if_neg n1, if_neg n2]
      unfold Lib.decNat
      rw [if_neg (by simp), hv]
      rfl
  rw [h1]
  rfl
theorem YeW {w : List UInt8} {n : Int} (h : Lib.atoiAll w = .ok n) : (w.length ≤ 4 ∧ Lib.itoa n = w ∧ 0 ≤ n → numW w = n) ∧ (¬ (w.length ≤ 4 ∧ Lib.itoa n = w ∧ 0 ≤ n) → numW w < 0) := by
  constructor
  · rintro ⟨h1, h2, h3⟩
    obtain ⟨u, rfl⟩ : ∃ u : Nat, n = u := ⟨n.toNat, by omega⟩
    have h4 : Lib.itoa (u : Int) = Lib.decDigits u := by unfold Lib.itoa; rw [if_neg (by omega)]; rfl
    rw [h4] at h2
    subst h2
    refine Ox ?_
    have := Lib.lt_pow_nDigits u
    rw [Lib.decDigits_length] at h1
    have h5 : 10 ^ Lib.nDigits u ≤ 10 ^ 4 := Nat.pow_le_pow_right (by decide) h1
    omega
  · intro hc
    refine Int.not_le.1 fun h0 => hc ?_
    obtain ⟨h1, h2⟩ := YaJ h0
    have h3 := Ybr h1
    rw [← h2, h] at h3
    injection h3 with h3
    have h4 : Lib.itoa ((numW w).toNat : Int) = Lib.decDigits (numW w).toNat := by unfold Lib.itoa; rw [if_neg (by omega)]; rfl
    refine ⟨?_, ?_, by omega⟩
    · have := WN h1
      rw [← h2] at this; exact this
    · rw [h3, h4]; exact h2.symm
theorem YfI {w : List UInt8} (h : ∀ n, Lib.atoiAll w ≠ .ok n) : numW w < 0 := by
  refine Int.not_le.1 fun h0 => ?_
  obtain ⟨h1, h2⟩ := YaJ h0
  have h3 := Ybr h1
  rw [← h2] at h3
  exact h _ h3
open Go.RowKit Go.Eng Go.Nw
def wordS : List UInt8 := [115, 99, 104, 101, 100, 117, 108, 101]
def wordC : List UInt8 := [99, 101, 108, 108]
def YA (w : List UInt8) (l : List Int) : List UInt8 := w ++ l.flatMap fun n => 32 :: Lib.itoa n
def Xi (w : List UInt8) (l : List Int) : List UInt8 := YA w l ++ [10]
def YfO (s : Sch) : List UInt8 := Xi wordS [s.len, s.off] ++ s.cells.flatMap fun c => Xi wordC (nums c)
def JD (s : Sch) : List UInt8 × Int := if XF s = false then ([], 1) else (YfO s, 0)
def Jb (ws : List (List UInt8)) : Option (List Int) := if (ws.any fun w => decide (numW w < 0)) = true then none else some (ws.map numW)
def Qb (line word : List UInt8) (many : Nat) : Option (List Int) :=
  if (cutC 32 line).length ≠ many + 1 ∨ (cutC 32 line).headD [] ≠ word then none else Jb (cutC 32 line).tail
def Xb (ls : List (List UInt8)) (i : Nat) : List UInt8 := ls.getD i []
theorem Jw {c : UInt8} (p : List UInt8) : ∀ l : List (List UInt8), Jc c (p :: l) = p ++ l.flatMap fun q => c :: q
  | [] => by simp [Jc]
  | q :: r => by
    show p ++ c :: Jc c (q :: r) = _
    rw [Jw q r]; rfl
theorem VO : ∀ l : List (List UInt8), Jc 10 (l ++ [[]]) = l.flatMap fun p => p ++ [10]
  | [] => rfl
  | p :: l => by
    rw [List.cons_append, Jw, List.flatMap_cons, ← VO l]
    cases l with
    | nil => simp [Jc]
    | cons q r => rw [List.cons_append, Jw, List.flatMap_cons]; simp
theorem Yaf (w : List UInt8) (l : List Int) : YA w l = Jc 32 (w :: l.map Lib.itoa) := by
  rw [Jw, List.flatMap_map]; rfl
theorem Yca (u : Nat) {b : UInt8} (hb : b ∈ Lib.decDigits u) : b ≠ 32 ∧ b ≠ 10 := by
  have := List.all_eq_true.1 (Ya5 u).dig b hb
  unfold digB at this
  have h := of_decide_eq_true this
  constructor <;> (intro e; subst e; exact absurd h (by decide))
theorem Z4 {n : Int} (h : 0 ≤ n) : Lib.itoa n = Lib.decDigits n.toNat := by unfold Lib.itoa; rw [if_neg (by omega)]
theorem Vu {w : List UInt8} {l : List Int} (hw : (10 : UInt8) ∉ w) (hl : ∀ n ∈ l, 0 ≤ n) : (10 : UInt8) ∉ YA w l := by
  unfold YA
  intro h
  rcases List.mem_append.1 h with h | h
  · exact hw h
  · obtain ⟨n, hn, h⟩ := List.mem_flatMap.1 h
    rcases List.mem_cons.1 h with h | h
    · exact absurd h (by decide)
    · rw [Z4 (hl n hn)] at h
      exact (Yca _ h).2 rfl
theorem YeB {w : List UInt8} {l : List Int} (hw : (32 : UInt8) ∉ w) (hl : ∀ n ∈ l, 0 ≤ n ∧ n < 10000) : Qb (YA w l) w l.length = some l := by
  have hc : cutC 32 (YA w l) = w :: l.map Lib.itoa := by
    rw [Yaf]
    refine Og (by simp) fun p hp => ?_
    rcases List.mem_cons.1 hp with rfl | hp
    · exact hw
    · obtain ⟨n, hn, rfl⟩ := List.mem_map.1 hp
      rw [Z4 (hl n hn).1]
      exact fun h => (Yca _ h).1 rfl
  have hn : ∀ n ∈ l, numW (Lib.itoa n) = n := fun n hm => by
    have := hl n hm
    rw [Z4 this.1, Ox (by omega)]
    omega
  unfold Qb
  rw [hc, if_neg (by simp), List.tail_cons]
  unfold Jb
  rw [if_neg, List.map_map]
  · congr 1
    have : l.map (numW ∘ Lib.itoa) = l.map id := List.map_congr_left fun n hm => hn n hm
    rw [this, List.map_id]
  · rw [List.any_map, Bool.not_eq_true, List.any_eq_false]
    intro n hm
    show ¬ decide (numW (Lib.itoa n) < 0) = true
    rw [hn n hm, decide_eq_true_eq]
    have := hl n hm
    omega
theorem YdS {line w : List UInt8} {k : Nat} {x : List Int} (h : Qb line w k = some x) : line = YA w x ∧ x.length = k ∧ ∀ n ∈ x, 0 ≤ n := by
  unfold Qb at h
  split at h
  · cases h
  rename_i hc
  unfold Jb at h
  split at h
  · cases h
  rename_i ha
  have h1 : (cutC 32 line).length = k + 1 := Decidable.byContradiction fun e => hc (.inl e)
  have h2 : (cutC 32 line).headD [] = w := Decidable.byContradiction fun e => hc (.inr e)
  have hj := Om (c := 32) line
  cases hcl : cutC 32 line with
  | nil => exact absurd hcl (VK _ _)
  | cons p r =>
    rw [hcl] at h1 h2 hj h ha
    obtain rfl : p = w := h2
    have hx := Option.some.inj h
    rw [List.tail_cons] at hx ha
    have hpos : ∀ q ∈ r, 0 ≤ numW q := fun q hq => by
      refine Int.not_lt.1 fun hlt => ha ?_
      rw [List.any_eq_true]
      exact ⟨q, hq, decide_eq_true hlt⟩
    refine ⟨?_, ?_, ?_⟩
    · rw [Yaf, ← hj, ← hx, List.map_map]
      congr 2
      have : r.map (Lib.itoa ∘ numW) = r.map id := List.map_congr_left fun q hq => by
        show Lib.itoa (numW q) = q
        rw [Z4 (hpos q hq)]
        exact (YaJ (hpos q hq)).2.symm
      rw [this, List.map_id]
    · rw [← hx, List.length_map]
      simpa using h1
    · intro n hn
      rw [← hx] at hn
      obtain ⟨q, hq, rfl⟩ := List.mem_map.1 hn
      exact hpos q hq
theorem UM {s : Sch} (h : Frm s) : (∀ n ∈ [s.len, s.off], 0 ≤ n ∧ n < 10000) ∧ ∀ c ∈ s.cells, ∀ n ∈ nums c, 0 ≤ n ∧ n < 10000 := by
  have h1 := h.sized
  unfold Zs at h1
  have h2 := of_decide_eq_true h1
  constructor
  · intro n hn
    simp only [List.mem_cons, List.not_mem_nil, or_false] at hn
    omega
  · intro c hc n hn
    have h3 := h.formed c hc
    unfold ZV XE insE at h3
    simp only [Bool.and_eq_true, decide_eq_true_eq] at h3
    unfold nums at hn
    simp only [List.mem_cons, List.not_mem_nil, or_false] at hn
    omega
theorem U7 {ls : List (List UInt8)} {k : Nat} (h : k < ls.length) : ls.take (k + 1) = ls.take k ++ [Xb ls k] := by
  unfold Xb
  rw [List.take_add_one, List.getD_eq_getElem?_getD, List.getElem?_eq_getElem h]
  rfl
open Go.RowKit Go.Eng Go.Nw
structure Tabs (w : World) : Prop where
  pow : Lib.TabIs Tryz.prog w "internal/strconv.uint64pow10" .u64 Lib.pow10Tab
  syn : ∃ tp p, w.var? Tryz.prog "strconv.ErrSyntax" = some #[.iface tp p]
  rng : ∃ tp p, w.var? Tryz.prog "strconv.ErrRange" = some #[.iface tp p]
  mx : ∃ m, w.cell? ⟨0, 0, none⟩ = some (.int .i64 m)
def TabsB (B : Nat) (w0 : World) : Prop := ∀ w, Below B w0 w → Tabs w
theorem TabsB.here {B : Nat} {w0 w : World} {H : List HP} (h : TabsB B w0) (hw : St B w0 H w) : TabsB w.heap.size w := fun w1 h1 => h w1 (hw.below.trans (h1.mono hw.le))
abbrev strV (l : List UInt8) : Value := .string ⟨l.toArray⟩
def strL (l : List UInt8) : List Value := [strV l]
theorem UZ (n : Int) (h0 : -9223372036854775808 ≤ n) (h1 : n ≤ 9223372036854775807) {B : Nat} {w0 : World} {H : List HP} {w : World} (ht : TabsB B w0) (hw : St B w0 H w) :
    Calls Tryz.prog 137 [.int .i64 n].toArray w (Post B w0 fun v K => v = strV (Lib.itoa n) ∧ K = H) :=
  OC hw ((Tryz.strconv_Itoa n h0 h1 w (ht w hw.below).pow).mono fun e w' ⟨h1, k, os, h2⟩ => ⟨h1, by rw [h2]; exact Lib.below_grow _ w (Nat.le_refl _) k os⟩)
theorem Ygb (l : List UInt8) (hl : l.length ≤ 1000000) (v : Int) (h : Lib.atoiAll l = .ok v) {B : Nat} {w0 : World} {H : List HP} {w : World} (hw : St B w0 H w) :
    Calls Tryz.prog 159 [strV l].toArray w (Post B w0 fun u K => u = .tuple #[.int .i64 v, .nilIface] ∧ K = H) := by
  have hs : (⟨l.toArray⟩ : ByteArray).size = l.length := by simp [ByteArray.size]
  refine OC hw ((Tryz.strconv_Atoi_ok ⟨l.toArray⟩ (by omega) v h w).mono ?_)
  rintro e w' ⟨rfl, h2 | ⟨t, rfl⟩⟩
  · rw [h2]; exact ⟨rfl, Below.refl _ _⟩
  · exact ⟨rfl, Go.Joins.below_bytesWorld _ _ _ _ (Nat.le_refl _)⟩
theorem YfH (l : List UInt8) (hl : l.length ≤ 1000000) (h : ∀ v, Lib.atoiAll l ≠ .ok v) {B : Nat} {w0 : World} {H : List HP} {w : World} (ht : TabsB B w0) (hw : St B w0 H w) :
    Calls Tryz.prog 159 [strV l].toArray w (Post B w0 fun u K => (∃ n t p, u = .tuple #[.int .i64 n, .iface t p]) ∧ K = H) := by
  have hs : (⟨l.toArray⟩ : ByteArray).size = l.length := by simp [ByteArray.size]
  have hT := ht w hw.below
  obtain ⟨tp1, p1, hv1⟩ := hT.syn
  obtain ⟨tp2, p2, hv2⟩ := hT.rng
  cases ha : Lib.atoiAll l
  · exact absurd ha (h _)
  · refine (Any.strconv_Atoi_syntax_var Tryz.laysC172 ⟨l.toArray⟩ (by omega) ha tp1 p1 w hv1).mono ?_
    rintro e w' ⟨N, rfl, _, _, hb⟩
    exact ⟨_, H, rfl, hw.grow hb, ⟨_, _, _, rfl⟩, rfl⟩
  · refine (Any.strconv_Atoi_range_var Tryz.laysC172 ⟨l.toArray⟩ (by omega) ha tp2 p2 w hv2).mono ?_
    rintro e w' ⟨N, rfl, _, _, hb⟩
    exact ⟨_, H, rfl, hw.grow hb, ⟨_, _, _, rfl⟩, rfl⟩
theorem O8 (l : List UInt8) (c : UInt8) (hl : l.length ≤ 1000000) {B : Nat} {w0 : World} {H : List HP} {w : World} (ht : TabsB B w0) (hw : St B w0 H w) :
    Calls Tryz.prog 81 [strV l, .string ⟨#[c]⟩].toArray w (Post B w0 fun v K => ∃ g, v = .slice (some ⟨g, 0, none⟩) (cutC c l).length (cutC c l).length ∧ K = blk g (.cells ((cutC c l).map strV).toArray 9 (0, 0)) :: H) := by
  have hs : (⟨l.toArray⟩ : ByteArray).size = l.length := by simp [ByteArray.size]
  have hc : (⟨#[c]⟩ : ByteArray).size = 1 := rfl
  obtain ⟨m, hm⟩ := (ht w hw.below).mx
  have hlen := Lib.splitB_all ⟨#[c]⟩ (by rw [hc]; exact Nat.le_refl _) 0 _ (⟨l.toArray⟩ : ByteArray) rfl
  have hd := Lib.splitB_data ⟨#[c]⟩ 0 (Lib.countB ⟨l.toArray⟩ ⟨#[c]⟩) ⟨l.toArray⟩
  have e1 : (Lib.splitB ⟨#[c]⟩ 0 (Lib.countB ⟨l.toArray⟩ ⟨#[c]⟩) ⟨l.toArray⟩).map (·.data.toList) = cutC c l := by
    rw [hd]
    exact Yee l
  have e2 : (cutC c l).length = Lib.countB ⟨l.toArray⟩ ⟨#[c]⟩ + 1 := by
    rw [← e1, List.length_map, hlen]
  have e3 : (Lib.splitB ⟨#[c]⟩ 0 (Lib.countB ⟨l.toArray⟩ ⟨#[c]⟩) ⟨l.toArray⟩).map Value.string = (cutC c l).map strV := by
    rw [← e1, List.map_map]
    refine List.map_congr_left fun x _ => ?_
    rfl
  refine (Tryz.strings_Split ⟨l.toArray⟩ ⟨#[c]⟩ m w (by omega) hm (by rw [hc]; exact Nat.le_refl _)).mono ?_
  rintro e w' ⟨rfl, hw'⟩
  rw [e3] at hw'
  refine ⟨_, _, rfl, by rw [hw']; exact hw.alloc _, w.heap.size, ?_, rfl⟩
  rw [e2]
open Go.RowKit Go.Eng Go.Nw
def cmpV (a b : List Int) : Int := if ZJ a b = true then -1 else if ZJ b a = true then 1 else 0
theorem QA (a b : List Int) (hla : a.length ≤ 1000000000000) (hlb : b.length ≤ 1000000000000) {A1 A2 : Option Addr} {c1 c2 B : Nat} {w0 : World} {H : List HP} {w : World} (hr1 : Rd B w0 H A1 (a.flatMap numF)) (hr2 : Rd B w0 H A2 (b.flatMap numF)) (hw : St B w0 H w) :
    Calls Tryz.prog 178 [.slice A1 a.length c1, .slice A2 b.length c2].toArray w (Post B w0 fun v K => v = .int .i64 (cmpV a b) ∧ K = H) := by
  refine Yd Tryz.func178 Tryz.ntmps178 rfl rfl hw ?_
  repeat' (first | apply (zs1 ?_) | apply (zs2 ?_) | (apply zg4; refine zs9 ?_) | apply (zs65 ?_) | apply (zs68 ?_) | apply (zs69 ?_) | apply (zs70 ?_) | apply (zs73 ?_) | fail)
  refine Yk (fun (i : Nat) => [(11, .int .i64 i), (10, .int .i64 a.length), (9, .slice A1 a.length c1), (0, .slice A1 a.length c1), (1, .slice A2 b.length c2)]) (fun _ => H) (fun i => i ≤ a.length ∧ i ≤ b.length ∧ ZJ a b = ZJ (a.drop i) (b.drop i) ∧ ZJ b a = ZJ (b.drop i) (a.drop i)) (fun i => a.length - i) 0 ⟨Nat.zero_le _, Nat.zero_le _, rfl, rfl⟩ ?_ (fun w hw => hw) ?_
  · exact zu
  rintro i ⟨hi, hib, e1, e2⟩ K hK
  by_cases hlt : i < a.length
  · obtain ⟨x, hx⟩ : ∃ x, a[i]? = some x := ⟨_, List.getElem?_eq_getElem hlt⟩
    by_cases hltb : i < b.length
    · obtain ⟨y, hy⟩ : ∃ y, b[i]? = some y := ⟨_, List.getElem?_eq_getElem hltb⟩
      have d1 := YbW hx hy
      have d2 := YbW hy hx
      have hcm := fun {w : World} (hw : St B w0 H w) => Wx x y hw
      by_cases hxy : x = y
      · rw [if_neg (fun h => h hxy)] at d1
        rw [if_neg (fun h => h hxy.symm)] at d2
        rw [show cmpI x y = 0 by unfold cmpI; rw [if_neg (by omega), if_neg (by omega)]] at hcm
        repeat' (first | ((first | apply Ya en99 | apply Yb en99); exact za; exact rfl; exact fun _ hw => (hcm hw)) | apply (zs1 ?_) | apply (zs2 ?_) | (apply zg3; refine zs60 ?_) | (apply zg4; refine zs9 ?_) | (apply zg5; refine zs57 ?_) | (apply zg8; (refine zs16 ?_ ?_ <;> intro _ <;> try (exfalso; omega))) | (apply (zs17 ?_ ?_) <;> intro _ <;> try (exfalso; omega)) | (apply (zs20 ?_ ?_) <;> intro _ <;> try (exfalso; omega)) | (apply zg13; refine zs30 ?_) | apply (zs65 ?_) | apply (zs68 ?_) | apply (zs69 ?_) | apply (zs70 ?_) | (apply zg27; first | refine zs71 ?_ | refine zs72 ?_) | apply (zs73 ?_) | apply (zs76 ?_) | apply (zs79 ?_) | fail)
        apply hK (i + 1)
        · exact ⟨by omega, by omega, e1.trans d1, e2.trans d2⟩
        · omega
        · exact zu
        · exact fun w hw => hw
      · rw [if_pos hxy] at d1
        rw [if_pos (Ne.symm hxy)] at d2
        clear hK
        rcases Int.lt_or_gt_of_ne hxy with h | h
        · rw [show cmpI x y = -1 by unfold cmpI; rw [if_pos h]] at hcm
          have hv : cmpV a b = -1 := by unfold cmpV; rw [e1, d1, if_pos (decide_eq_true h)]
          rw [hv]
          repeat' (first | ((first | apply Ya en99 | apply Yb en99); exact za; exact rfl; exact fun _ hw => (hcm hw)) | apply (zs1 ?_) | apply (zs2 ?_) | (apply zg3; refine zs60 ?_) | (apply zg4; refine zs9 ?_) | (apply zg5; refine zs57 ?_) | (apply zg8; (refine zs16 ?_ ?_ <;> intro _ <;> try (exfalso; omega))) | (apply (zs17 ?_ ?_) <;> intro _ <;> try (exfalso; omega)) | (apply (zs20 ?_ ?_) <;> intro _ <;> try (exfalso; omega)) | apply (zs65 ?_) | apply (zs68 ?_) | apply (zs69 ?_) | apply (zs70 ?_) | (apply zg27; first | refine zs71 ?_ | refine zs72 ?_) | apply (zs73 ?_) | apply (zs74 ?_) | apply (zs76 ?_) | apply (zs77 ?_) | apply (zs78 ?_) | fail)
          apply Yc; exact rfl; exact rfl; exact ⟨rfl, rfl⟩
        · rw [show cmpI x y = 1 by unfold cmpI; rw [if_neg (by omega), if_pos h]] at hcm
          have hv : cmpV a b = 1 := by unfold cmpV; rw [e1, d1, decide_eq_false (by omega), if_neg (by decide), e2, d2, if_pos (decide_eq_true h)]
          rw [hv]
          repeat' (first | ((first | apply Ya en99 | apply Yb en99); exact za; exact rfl; exact fun _ hw => (hcm hw)) | apply (zs1 ?_) | apply (zs2 ?_) | (apply zg3; refine zs60 ?_) | (apply zg4; refine zs9 ?_) | (apply zg5; refine zs57 ?_) | (apply zg8; (refine zs16 ?_ ?_ <;> intro _ <;> try (exfalso; omega))) | (apply (zs17 ?_ ?_) <;> intro _ <;> try (exfalso; omega)) | (apply (zs20 ?_ ?_) <;> intro _ <;> try (exfalso; omega)) | apply (zs65 ?_) | apply (zs68 ?_) | apply (zs69 ?_) | apply (zs70 ?_) | (apply zg27; first | refine zs71 ?_ | refine zs72 ?_) | apply (zs73 ?_) | apply (zs74 ?_) | apply (zs76 ?_) | apply (zs77 ?_) | apply (zs78 ?_) | fail)
          apply Yc; exact rfl; exact rfl; exact ⟨rfl, rfl⟩
    · obtain rfl : i = b.length := by omega
      clear hK
      have hv : cmpV a b = 1 := by
        unfold cmpV
        rw [e1, e2, List.drop_length, List.drop_eq_getElem_cons hlt]
        rfl
      rw [hv]
      repeat' (first | apply (zs1 ?_) | apply (zs2 ?_) | (apply zg3; refine zs60 ?_) | (apply zg4; refine zs9 ?_) | (apply zg5; refine zs57 ?_) | (apply (zs17 ?_ ?_) <;> intro _ <;> try (exfalso; omega)) | (apply (zs20 ?_ ?_) <;> intro _ <;> try (exfalso; omega)) | apply (zs65 ?_) | apply (zs68 ?_) | apply (zs69 ?_) | apply (zs70 ?_) | (apply zg27; refine zs71 ?_) | apply (zs73 ?_) | apply (zs74 ?_) | apply (zs76 ?_) | apply (zs77 ?_) | apply (zs78 ?_) | fail)
      apply Yc; exact rfl; exact rfl; exact ⟨rfl, rfl⟩
  · obtain rfl : i = a.length := by omega
    clear hK
    rw [List.drop_length] at e1 e2
    by_cases hl : a.length < b.length
    · have hv : cmpV a b = -1 := by
        unfold cmpV
        rw [e1, List.drop_eq_getElem_cons hl]
        rfl
      rw [hv]
      repeat' (first | apply (zs1 ?_) | apply (zs2 ?_) | (apply zg4; refine zs9 ?_) | (apply (zs17 ?_ ?_) <;> intro _ <;> try (exfalso; omega)) | apply (zs65 ?_) | apply (zs68 ?_) | apply (zs69 ?_) | apply (zs70 ?_) | (apply zg27; first | refine zs71 ?_ | refine zs72 ?_) | apply (zs74 ?_) | apply (zs75 ?_) | apply (zs77 ?_) | apply (zs80 ?_) | apply (zs81 ?_) | fail)
      apply Yc; exact rfl; exact rfl; exact ⟨rfl, rfl⟩
    · have hv : cmpV a b = 0 := by
        unfold cmpV
        rw [e1, e2, List.drop_eq_nil_of_le (by omega)]
        rfl
      rw [hv]
      repeat' (first | apply (zs1 ?_) | apply (zs2 ?_) | (apply zg4; refine zs9 ?_) | (apply (zs17 ?_ ?_) <;> intro _ <;> try (exfalso; omega)) | apply (zs65 ?_) | apply (zs68 ?_) | apply (zs69 ?_) | apply (zs70 ?_) | (apply zg27; refine zs72 ?_) | apply (zs74 ?_) | apply (zs75 ?_) | apply (zs76 ?_) | apply (zs80 ?_) | apply (zs81 ?_) | fail)
      apply Yc; exact rfl; exact rfl; exact ⟨rfl, rfl⟩
open Go.RowKit Go.Eng Go.Nw
def celF (c : Cel) : List Value := [.int .i64 c.1, .int .i64 c.2.1, .int .i64 c.2.2.1, .int .i64 c.2.2.2.1, .int .i64 c.2.2.2.2]
def celV (c : Cel) : Value := .agg #[.int .i64 c.1, .int .i64 c.2.1, .int .i64 c.2.2.1, .int .i64 c.2.2.2.1, .int .i64 c.2.2.2.2]
structure SchM where
  len : Int
  off : Int
  A : Option Addr
  cap : Nat
  cells : List Cel
def SchM.sch (s : SchM) : Sch := ⟨s.len, s.off, s.cells⟩
def SchM.val (s : SchM) : Value := .agg #[.int .i64 s.len, .int .i64 s.off, .slice s.A s.cells.length s.cap]
theorem Yc0 (a b : Cel) : cmpV (nums a) (nums b) < 0 ↔ Zg a b = true := by
  unfold cmpV Zg
  by_cases h1 : ZJ (nums a) (nums b) = true
  · rw [if_pos h1]; simp [h1]
  · rw [if_neg h1]
    split <;> simp [h1]
theorem Ux (c : Cel) {B : Nat} {w0 : World} {H : List HP} {w : World} (hw : St B w0 H w) :
    Calls Tryz.prog 105 [celV c].toArray w (Post B w0 fun v K => v = celV c ∧ K = H) := by
  refine Yd Tryz.func105 Tryz.ntmps105 rfl rfl hw ?_
  repeat' (first | (apply zg2; refine zs6 ?_) | (apply zg3; refine zs7 ?_) | (apply zg22; refine zs51 ?_) | (apply zg23; (refine zs52 ?_; intro _)) | (apply zg24; (refine zs54 ?_; intro _)) | (apply zg25; refine zs55 ?_) | apply (zs65 ?_) | apply (zs68 ?_) | apply (zs69 ?_) | apply (zs70 ?_) | apply (zs74 ?_) | fail)
  (apply YbG T (H2 := H); exact rfl; exact rfl; exact zm; exact rfl; exact rfl; exact zk; exact ⟨rfl, rfl⟩)
set_option maxRecDepth 10000 in
set_option maxHeartbeats 2000000 in
theorem YcZ (a b : Cel) {B : Nat} {w0 : World} {H : List HP} {w : World} (hw : St B w0 H w) :
    Calls Tryz.prog 120 [celV a, celV b, .func (.func 105) #[] #[]].toArray w (Post B w0 fun v K => v = .int .i64 (cmpV (nums a) (nums b)) ∧ K = H) := by
  refine Yd Tryz.func120 Tryz.ntmps120 rfl rfl hw ?_
  apply Jr
  iterate 5 (first | apply (zs2 ?_) | (apply zg23; (refine zs52 ?_; intro _)) | apply (zs65 ?_) | apply (zs70 ?_) | fail)
  apply YaU
  apply Jr
  refine Yav (fun (z : Nat × Nat) => [(7, .pointer (some ⟨z.1, 0, none⟩)), (8, .pointer (some ⟨z.2, 0, none⟩))]) (fun z => blk z.1 (.cells (celF a).toArray 183 (0, 0)) :: blk z.2 (.cells (celF b).toArray 183 (0, 0)) :: H) ?_ ?_
  · intro K hK
    apply OG (.n1 0 (.n1 1 (.n1 3 (.n1 4 (.n3 2 (.n3 5 (.n2 6 (.n1 7 .done) 7 (.n1 6 .done)) 6 (.n2 5 (.n1 7 .done) 7 (.n1 5 .done)) 7 (.n2 5 (.n1 6 .done) 6 (.n1 5 .done))) 6 (.n2 2 (.n2 5 (.n1 7 .done) 7 (.n1 5 .done)) 7 (.n1 2 (.n1 5 .done))) 7 (.n2 2 (.n2 5 (.n1 6 .done) 6 (.n1 5 .done)) 6 (.n1 2 (.n1 5 .done)))))))) [8, 9] [true, true]
    kernel_rfl
    kernel_rfl
    exact zy
    (simp only [Yi, nthO]; rfl)
    repeat' (first | ((first | apply YE (cs := []) | apply Y4 (cs := [])); exact rfl; exact YeY; exact za; exact rfl; exact fun _ hw => (Ux _ hw)) | (apply Yh0; (simp only [nthO]; rfl); (simp only [nthO]; rfl); (simp only [nthO]; rfl)) | (apply YeP; (simp only [nthO]; rfl); (simp only [nthO]; rfl)) | (apply YeG; (simp only [nthO]; rfl)) | (apply W0; (repeat (first | with_reducible exact Yh | (with_reducible apply Yg; (repeat (first | with_reducible exact Yf | with_reducible apply Ye)))))) | (apply YaG; exact zp) | apply (zs1 ?_) | (apply zg3; refine zs8 ?_) | (apply zg22; refine zs51 ?_) | (apply zg24; (refine zs54 ?_; intro _)) | apply (zs65 ?_) | (apply Yp; exact zp) | apply (zs87 ?_) | (apply Ym; (repeat (first | with_reducible exact Yh | (with_reducible apply Yg; (repeat (first | with_reducible exact Yf | with_reducible apply Ye)))))) | apply (zs93 ?_) | apply (zs94 ?_) | fail)
    all_goals (
      rename_i ga gb
      first
        | (refine hK (ga, gb) _ _ zu ?_; dsimp only [celF]; exact zk; done)
        | (refine hK (gb, ga) _ _ zu ?_; dsimp only [celF]; exact zk; done))
  rintro ⟨g1, g2⟩
  dsimp only
  have hA : Rd B w0 (blk g1 (.cells (celF a).toArray 183 (0, 0)) :: blk g2 (.cells (celF b).toArray 183 (0, 0)) :: H) (some ⟨g1, 0, none⟩) ((nums a).flatMap numF) := Rd.blk (cs := (celF a).toArray) (.head _)
  have hB : Rd B w0 (blk g1 (.cells (celF a).toArray 183 (0, 0)) :: blk g2 (.cells (celF b).toArray 183 (0, 0)) :: H) (some ⟨g2, 0, none⟩) ((nums b).flatMap numF) := Rd.blk (cs := (celF b).toArray) (.tail _ (.head _))
  repeat' (first | (apply Us T (e := 3); exact rfl; exact rfl; exact rfl) | ((first | apply Ya YgO | apply Yb YgO); exact za; exact rfl; exact fun _ hw => (QA (nums a) (nums b) (by simp [nums]) (by simp [nums]) hA hB hw)) | apply (zs2 ?_) | apply (zs66 ?_) | apply (zs68 ?_) | apply (zs69 ?_) | apply (zs74 ?_) | (apply zg28; refine zs84 ?_) | fail)
  apply Yj H
  · exact zk
  apply Yc; exact rfl; exact rfl
  exact ⟨rfl, rfl⟩
theorem Vz (a b : Cel) {B : Nat} {w0 : World} {H : List HP} {w : World} (hw : St B w0 H w) :
    Calls Tryz.prog 62 [celV a, celV b].toArray w (Post B w0 fun v K => v = .int .i64 (cmpV (nums a) (nums b)) ∧ K = H) := by
  refine Yd Tryz.func62 Tryz.ntmps62 rfl rfl hw ?_
  repeat' (first | ((first | apply Ya YgW | apply Yb YgW); exact za; exact rfl; exact fun _ hw => (YcZ a b hw)) | apply (zs2 ?_) | (apply zg3; refine zs8 ?_) | (apply zg23; (refine zs52 ?_; intro _)) | apply (zs65 ?_) | apply (zs68 ?_) | apply (zs69 ?_) | apply (zs70 ?_) | apply (zs74 ?_) | fail)
  apply Yj H
  · exact zk
  apply Yc; exact rfl; exact rfl
  exact ⟨rfl, rfl⟩
theorem Wy (x n : Int) {B : Nat} {w0 : World} {H : List HP} {w : World} (hw : St B w0 H w) :
    Calls Tryz.prog 168 [.int .i64 x, .int .i64 n].toArray w (Post B w0 fun v K => v = .bool (insE x n) ∧ K = H) := by
  refine Yd Tryz.func168 Tryz.ntmps168 rfl rfl hw ?_
  repeat' (first | apply (zs1 ?_) | apply (zs2 ?_) | (apply zg1; first | refine zs3 ?_ | refine zs4 ?_) | (apply zg6; first | refine zs11 ?_ | refine zs12 ?_) | (apply (zs17 ?_ ?_) <;> intro _ <;> try (exfalso; omega)) | (apply (zs20 ?_ ?_) <;> intro _ <;> try (exfalso; omega)) | apply (zs65 ?_) | apply (zs68 ?_) | apply (zs69 ?_) | apply (zs70 ?_) | apply (zs74 ?_) | fail)
  all_goals (
    apply Yc; exact rfl; exact rfl
    first
      | exact ⟨by rw [show insE x n = true from decide_eq_true (by omega)], rfl⟩
      | exact ⟨by rw [show insE x n = false from decide_eq_false (by omega)], rfl⟩)
theorem Wp (s : SchM) (c : Cel) {B : Nat} {w0 : World} {H : List HP} {w : World} (hw : St B w0 H w) :
    Calls Tryz.prog 112 [s.val, celV c].toArray w (Post B w0 fun v K => v = .bool (XE s.sch c) ∧ K = H) := by
  refine Yd Tryz.func112 Tryz.ntmps112 rfl rfl hw ?_
  repeat' (first | ((first | apply Xq Ydc | apply Xp Ydc); exact za; exact rfl; exact fun _ hw => (Wy _ _ hw); all_goals (intro hB; (try simp only [decide_eq_true_eq, decide_eq_false_iff_not] at hB); try (exfalso; omega))) | apply (zs1 ?_) | apply (zs2 ?_) | (apply zg1; first | refine zs3 ?_ | refine zs4 ?_) | (apply zg2; refine zs6 ?_) | (apply zg3; refine zs7 ?_) | (apply zg6; first | refine zs11 ?_ | refine zs12 ?_) | (apply zg23; (refine zs52 ?_; intro _)) | apply (zs65 ?_) | apply (zs68 ?_) | apply (zs69 ?_) | apply (zs70 ?_) | apply (zs74 ?_) | fail)
  all_goals (
    apply Yj H
    · exact zk
    apply Yc; exact rfl; exact rfl
    exact ⟨by simp [XE, SchM.sch, *], rfl⟩)
theorem Wn (s : SchM) (c : Cel) {B : Nat} {w0 : World} {H : List HP} {w : World} (hw : St B w0 H w) :
    Calls Tryz.prog 117 [s.val, celV c].toArray w (Post B w0 fun v K => v = .bool (ZV s.sch c) ∧ K = H) := by
  refine Yd Tryz.func117 Tryz.ntmps117 rfl rfl hw ?_
  repeat' (first | ((first | apply Xq ZY | apply Xp ZY); exact za; exact rfl; exact fun _ hw => (Wp s c hw); all_goals (intro hB; (try simp only [decide_eq_true_eq, decide_eq_false_iff_not] at hB); try (exfalso; omega))) | ((first | apply Xq Ydc | apply Xp Ydc); exact za; exact rfl; exact fun _ hw => (Wy _ _ hw); all_goals (intro hB; (try simp only [decide_eq_true_eq, decide_eq_false_iff_not] at hB); try (exfalso; omega))) | apply (zs1 ?_) | apply (zs2 ?_) | (apply zg1; first | refine zs3 ?_ | refine zs4 ?_) | (apply zg2; refine zs6 ?_) | (apply zg3; first | refine zs7 ?_ | refine zs8 ?_) | (apply zg6; first | refine zs11 ?_ | refine zs12 ?_) | (apply zg23; (refine zs52 ?_; intro _)) | apply (zs65 ?_) | apply (zs68 ?_) | apply (zs69 ?_) | apply (zs70 ?_) | apply (zs74 ?_) | fail)
  all_goals (
    apply Yj H
    · exact zk
    apply Yc; exact rfl; exact rfl
    exact ⟨by simp [ZV, *], rfl⟩)
theorem Qf (s : SchM) {B : Nat} {w0 : World} {H : List HP} {w : World} (hw : St B w0 H w) :
    Calls Tryz.prog 52 [s.val].toArray w (Post B w0 fun v K => v = .bool (Zs s.sch) ∧ K = H) := by
  refine Yd Tryz.func52 Tryz.ntmps52 rfl rfl hw ?_
  have e1 : s.sch.len = s.len := rfl
  have e2 : s.sch.off = s.off := rfl
  repeat' (first | apply (zs1 ?_) | apply (zs2 ?_) | (apply zg1; first | refine zs3 ?_ | refine zs4 ?_) | (apply zg2; refine zs6 ?_) | (apply zg3; refine zs7 ?_) | (apply zg6; first | refine zs11 ?_ | refine zs12 ?_) | (apply (zs18 ?_ ?_) <;> intro _ <;> try (exfalso; omega)) | (apply (zs20 ?_ ?_) <;> intro _ <;> try (exfalso; omega)) | (apply zg23; (refine zs52 ?_; intro _)) | apply (zs65 ?_) | apply (zs68 ?_) | apply (zs69 ?_) | apply (zs70 ?_) | apply (zs74 ?_) | fail)
  all_goals (
    apply Yj H
    · exact zk
    apply Yc; exact rfl; exact rfl
    first
      | exact ⟨by rw [show Zs s.sch = true from decide_eq_true (by omega)], rfl⟩
      | exact ⟨by rw [show Zs s.sch = false from decide_eq_false (by omega)], rfl⟩)
open Go.RowKit Go.Eng Go.Nw
theorem Yfn {s : Sch} {i : Nat} (hi : i < s.cells.length) (h : Zx s i = false) : XF s = false := by
  unfold XF
  rw [Ya0 hi h, Bool.and_false]
set_option maxRecDepth 10000 in
set_option maxHeartbeats 1000000 in
theorem Yag (s : SchM) {B : Nat} {w0 : World} {H : List HP} {w : World} (hr : Rd B w0 H s.A (s.cells.flatMap celF)) (hl : s.cells.length ≤ 1000000000000) (hw : St B w0 H w) :
    Calls Tryz.prog 58 [s.val].toArray w (Post B w0 fun v K => v = .bool (XF s.sch) ∧ K = H) := by
  refine Yd Tryz.func58 Tryz.ntmps58 rfl rfl hw ?_
  have e1 : s.sch.cells = s.cells := rfl
  repeat' (first | ((first | apply Xq en52 | apply Xp en52); exact za; exact rfl; exact fun _ hw => (Qf s hw); all_goals (intro hB; (try simp only [decide_eq_true_eq, decide_eq_false_iff_not] at hB); try (exfalso; omega))) | apply (zs1 ?_) | apply (zs2 ?_) | (apply zg1; first | refine zs3 ?_ | refine zs4 ?_) | (apply zg2; refine zs6 ?_) | (apply zg3; first | refine zs7 ?_ | refine zs8 ?_) | (apply zg4; refine zs9 ?_) | (apply zg6; first | refine zs11 ?_ | refine zs12 ?_) | (apply (zs19 ?_ ?_) <;> intro _ <;> try (exfalso; omega)) | (apply zg20; first | refine zs47 ?_ | refine zs48 ?_) | (apply zg23; (refine zs52 ?_; intro _)) | apply (zs65 ?_) | apply (zs68 ?_) | apply (zs69 ?_) | apply (zs70 ?_) | (apply zg27; first | refine zs71 ?_ | refine zs72 ?_) | apply (zs73 ?_) | apply (zs74 ?_) | apply (zs76 ?_) | apply (zs77 ?_) | fail)
  · apply Yj H
    · exact zk
    apply Yc; exact rfl; exact rfl
    exact ⟨by rw [show XF s.sch = false by unfold XF; rw [e1, decide_eq_false (by omega), Bool.and_false, Bool.false_and]], rfl⟩
  rotate_left
  · apply Yj H
    · exact zk
    apply Yc; exact rfl; exact rfl
    exact ⟨by simp [XF, *], rfl⟩
  rename_i g _
  refine Yk (fun (i : Nat) => [(17, .int .i64 i), (16, .int .i64 s.cells.length), (15, .slice s.A s.cells.length s.cap), (1, .pointer (some ⟨g, 0, none⟩))]) (fun _ => blk g (.cells #[.int .i64 s.len, .int .i64 s.off, .slice s.A s.cells.length s.cap] 30 (0, 0)) :: H) (fun i => i ≤ s.cells.length ∧ (List.range i).all (Zx s.sch) = true) (fun i => s.cells.length - i) 0 ⟨Nat.zero_le _, rfl⟩ ?_ (fun w hw => hw) ?_
  · exact zu
  rintro i ⟨hi, hall⟩ K hK
  have hr := hr.cons (X := blk g (.cells #[.int .i64 s.len, .int .i64 s.off, .slice s.A s.cells.length s.cap] 30 (0, 0)))
  by_cases hlt : i < s.cells.length
  · have hget : s.cells[i]? = some (Yl s.sch i) := YC (s := s.sch) hlt
    have hgo : Zx s.sch i = false → XF s.sch = false := Yfn (s := s.sch) hlt
    have hst : Zx s.sch i = true → (List.range (i + 1)).all (Zx s.sch) = true := fun h => by rw [WY, hall, h]; rfl
    rcases Nat.eq_zero_or_pos i with h0 | h0
    · subst h0
      repeat' (first | ((first | apply Xq Ydb | apply Xp Ydb); exact za; exact rfl; exact fun _ hw => (Wn s _ hw); all_goals (intro hB; (try simp only [decide_eq_true_eq, decide_eq_false_iff_not] at hB); try (exfalso; omega))) | apply (zs1 ?_) | apply (zs2 ?_) | (apply zg1; first | refine zs3 ?_ | refine zs4 ?_) | (apply zg3; first | refine zs8 ?_ | refine zs61 ?_) | (apply zg5; refine zs57 ?_) | (apply zg6; first | refine zs11 ?_ | refine zs12 ?_) | (apply (zs17 ?_ ?_) <;> intro _ <;> try (exfalso; omega)) | (apply (zs19 ?_ ?_) <;> intro _ <;> try (exfalso; omega)) | (apply zg13; refine zs30 ?_) | (apply zg20; first | refine zs47 ?_ | refine zs48 ?_) | (apply zg22; refine zs51 ?_) | (apply zg24; (refine zs54 ?_; intro _)) | apply (zs65 ?_) | apply (zs66 ?_) | apply (zs68 ?_) | apply (zs69 ?_) | apply (zs70 ?_) | (apply zg27; first | refine zs71 ?_ | refine zs72 ?_) | apply (zs73 ?_) | apply (zs74 ?_) | apply (zs76 ?_) | apply (zs77 ?_) | apply (zs78 ?_) | apply (zs79 ?_) | (apply zg28; refine zs84 ?_) | fail)
      · apply hK (0 + 1)
        · exact ⟨by omega, hst (by simp [Zx, *])⟩
        · omega
        · exact zu
        · exact zk
      · apply Yj H
        · exact zk
        apply Yc; exact rfl; exact rfl
        exact ⟨by rw [hgo (by simp [Zx, *])], rfl⟩
    · have hget2 : s.cells[((i : Int) - 1).toNat]? = some (Yl s.sch (i - 1)) := by
        rw [show ((i : Int) - 1).toNat = i - 1 by omega]
        exact YC (s := s.sch) (show i - 1 < s.cells.length by omega)
      repeat' (first | ((first | apply Xq Ydb | apply Xp Ydb); exact za; exact rfl; exact fun _ hw => (Wn s _ hw); all_goals (intro hB; (try simp only [decide_eq_true_eq, decide_eq_false_iff_not] at hB); try (exfalso; omega))) | ((first | apply Ya en62 | apply Yb en62); exact za; exact rfl; exact fun _ hw => (Vz _ _ hw)) | apply (zs1 ?_) | apply (zs2 ?_) | (apply zg1; first | refine zs3 ?_ | refine zs4 ?_) | (apply zg2; refine zs6 ?_) | (apply zg3; first | refine zs7 ?_ | refine zs8 ?_ | refine zs61 ?_) | (apply zg5; refine zs57 ?_) | (apply zg6; first | refine zs11 ?_ | refine zs12 ?_) | (apply (zs17 ?_ ?_) <;> intro _ <;> try (exfalso; omega)) | (apply (zs19 ?_ ?_) <;> intro _ <;> try (exfalso; omega)) | (apply (zs20 ?_ ?_) <;> intro _ <;> try (exfalso; omega)) | (apply zg13; refine zs30 ?_) | (apply zg14; refine zs31 ?_) | (apply zg20; first | refine zs47 ?_ | refine zs48 ?_) | (apply zg22; refine zs51 ?_) | (apply zg24; (refine zs54 ?_; intro _)) | apply (zs65 ?_) | apply (zs66 ?_) | apply (zs68 ?_) | apply (zs69 ?_) | apply (zs70 ?_) | (apply zg27; first | refine zs71 ?_ | refine zs72 ?_) | apply (zs73 ?_) | apply (zs74 ?_) | apply (zs76 ?_) | apply (zs77 ?_) | apply (zs78 ?_) | apply (zs79 ?_) | (apply zg28; refine zs84 ?_) | fail)
      all_goals first
        | (apply hK (i + 1)
           · refine ⟨by omega, hst ?_⟩
             have hc : cmpV (nums (Yl s.sch (i - 1))) (nums (Yl s.sch i)) < 0 := by omega
             simp [Zx, (Yc0 _ _).1 hc, *]
           · omega
           · exact zu
           · exact zk
           done)
        | (apply Yj H
           · exact zk
           apply Yc; exact rfl; exact rfl
           refine ⟨?_, rfl⟩
           rw [hgo]
           first
             | (simp [Zx, *]; done)
             | (have hc : ¬ cmpV (nums (Yl s.sch (i - 1))) (nums (Yl s.sch i)) < 0 := by omega
                have hd : Zg (Yl s.sch (i - 1)) (Yl s.sch i) = false := by
                  rw [Yc0] at hc
                  simpa using hc
                simp [Zx, hd]
                omega))
  · repeat' (first | apply (zs2 ?_) | (apply (zs17 ?_ ?_) <;> intro _ <;> try (exfalso; omega)) | apply (zs65 ?_) | apply (zs68 ?_) | apply (zs69 ?_) | apply (zs70 ?_) | (apply zg27; refine zs72 ?_) | apply (zs74 ?_) | apply (zs75 ?_) | apply (zs80 ?_) | apply (zs81 ?_) | fail)
    apply Yj H
    · exact zk
    apply Yc; exact rfl; exact rfl
    refine ⟨?_, rfl⟩
    rw [show i = s.cells.length by omega] at hall
    rw [show XF s.sch = true by unfold XF; rw [e1, hall, decide_eq_true (by omega)]; simp [*]]
end Go.Proofs.YtmalhidldgfeoaaGreatDoor
