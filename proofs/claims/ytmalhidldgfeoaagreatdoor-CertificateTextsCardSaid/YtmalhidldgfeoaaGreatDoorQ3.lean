/- Lemmas for the claim, part 3. -/
import Derived.Lib.Split
import Derived.Lib.ItoaNum
import Derived.Lib.AtoiAll
import Derived.Lib.AtoiTie
import Derived.Lib.AppendIntMem
import Derived.WideLaws
import Derived.Lib.SmallJoins
import Derived.Lib.Builder
import Derived.Lib.AtoiAllCases
import Derived.Test.YtmalhidldgfeoaaGreatDoorQ2

namespace Go.Proofs.YtmalhidldgfeoaaGreatDoor
open Go.RowKit Go.Eng Go.Nw Go.Rt
def onP (id a b : Int) (c : Cel) : Bool := decide (UL c = id ∧ YR c = a ∧ toC c = b)
def Ue (s : Sch) (id : Int) (l : Lk) : List Cel := s.cells.filter (onP id l.1 l.2.1)
def Xg (len a : Int) : List Cel → Nat → List (Cel × Int)
  | [], _ => []
  | c :: cs, k => if c.1 = a.tmod len ∧ k ≠ 0 then (c, a) :: Xg len a cs (k - 1) else Xg len a cs k
def hopP (len : Int) (cs : List Cel) : Nat → Nat → Int → List (Cel × Int)
  | 0, _, _ => []
  | f + 1, k, a => Xg len a cs k ++ hopP len cs f (k - (Xg len a cs k).length) (a + 1)
def Z2 (x : List (Cel × Int)) (a : Int) : Int := match x.getLast? with | some z => z.2 + 1 | none => a
def Y0 (l : Lk) : Nat := (l.2.2 + 1).toNat
def runP (len : Int) (C : Lk → List Cel) (endd : Int) : List Lk → Int → List (Cel × Int)
  | [], _ => []
  | l :: ls, a => if (hopP len (C l) (endd - a).toNat (Y0 l) a).length < Y0 l then hopP len (C l) (endd - a).toNat (Y0 l) a
    else hopP len (C l) (endd - a).toNat (Y0 l) a ++ runP len C endd ls (Z2 (hopP len (C l) (endd - a).toNat (Y0 l) a) a)
def Xp (ls : List Lk) : Nat := (ls.map Y0).sum
theorem U3 (len a : Int) : ∀ (cs : List Cel) (k : Nat), (Xg len a cs k).length ≤ k
  | [], k => Nat.zero_le _
  | c :: cs, k => by
    unfold Xg
    split
    · rename_i h
      have := U3 len a cs (k - 1)
      rw [List.length_cons]; omega
    · exact U3 len a cs k
theorem U4 {len a : Int} : ∀ {cs : List Cel} {k : Nat} {z : Cel × Int}, z ∈ Xg len a cs k → z.2 = a
  | [], k, z, h => by cases h
  | c :: cs, k, z, h => by
    unfold Xg at h
    split at h
    · rcases List.mem_cons.1 h with rfl | h
      · rfl
      · exact U4 h
    · exact U4 h
theorem Ou (len : Int) (cs : List Cel) : ∀ (f k : Nat) (a : Int), (hopP len cs f k a).length ≤ k
  | 0, k, a => Nat.zero_le _
  | f + 1, k, a => by
    unfold hopP
    have h1 := U3 len a cs k
    have h2 := Ou len cs f (k - (Xg len a cs k).length) (a + 1)
    rw [List.length_append]; omega
theorem Ygh (len : Int) (cs : List Cel) (f : Nat) (a : Int) : hopP len cs f 0 a = [] := List.eq_nil_of_length_eq_zero (Nat.le_zero.1 (Ou len cs f 0 a))
theorem Yej {len : Int} {cs : List Cel} : ∀ {f k : Nat} {a : Int} {z : Cel × Int}, z ∈ hopP len cs f k a → a ≤ z.2 ∧ z.2 < a + f
  | 0, k, a, z, h => by cases h
  | f + 1, k, a, z, h => by
    unfold hopP at h
    rcases List.mem_append.1 h with h | h
    · have := U4 h; omega
    · have := Yej h; omega
theorem YbH (len : Int) (C : Lk → List Cel) (endd : Int) : ∀ (ls : List Lk) (a : Int), (runP len C endd ls a).length ≤ Xp ls
  | [], a => Nat.zero_le _
  | l :: ls, a => by
    have h1 := Ou len (C l) (endd - a).toNat (Y0 l) a
    have h2 := YbH len C endd ls (Z2 (hopP len (C l) (endd - a).toNat (Y0 l) a) a)
    have h3 : Xp (l :: ls) = Y0 l + Xp ls := by unfold Xp; rw [List.map_cons, List.sum_cons]
    unfold runP
    split
    · omega
    · rw [List.length_append]; omega
theorem YfZ {x : List (Cel × Int)} {a b : Int} (h : ∀ z ∈ x, a ≤ z.2 ∧ z.2 < b) (hab : a ≤ b) : a ≤ Z2 x a ∧ Z2 x a ≤ b := by
  unfold Z2
  cases hx : x.getLast? with
  | none => exact ⟨Int.le_refl _, hab⟩
  | some z =>
    have := h z (List.mem_of_getLast? hx)
    simp only
    omega
theorem YbI {len : Int} {C : Lk → List Cel} {endd : Int} : ∀ {ls : List Lk} {a : Int} {z : Cel × Int}, a ≤ endd → z ∈ runP len C endd ls a → a ≤ z.2 ∧ z.2 < endd
  | [], a, z, _, h => by cases h
  | l :: ls, a, z, hae, h => by
    have hb : ∀ z ∈ hopP len (C l) (endd - a).toNat (Y0 l) a, a ≤ z.2 ∧ z.2 < endd := fun z hz => by
      have := Yej hz; omega
    unfold runP at h
    split at h
    · exact hb z h
    · rcases List.mem_append.1 h with h | h
      · exact hb z h
      · have h1 := YfZ hb hae
        have := YbI h1.2 h
        omega
def Vh (len : Int) (C : Lk → List Cel) (endd : Int) (cs : List Cel) (ls : List Lk) (f k : Nat) (a at_ : Int) : List (Cel × Int) :=
  if (hopP len cs f k a).length < k then hopP len cs f k a else hopP len cs f k a ++ runP len C endd ls (Z2 (hopP len cs f k a) at_)
theorem YgF (len : Int) (C : Lk → List Cel) (endd : Int) (l : Lk) (ls : List Lk) (a : Int) : runP len C endd (l :: ls) a = Vh len C endd (C l) ls (endd - a).toNat (Y0 l) a a := rfl
theorem Yfq (len : Int) (C : Lk → List Cel) (endd : Int) (cs : List Cel) (ls : List Lk) (f : Nat) (a at_ : Int) : Vh len C endd cs ls f 0 a at_ = runP len C endd ls at_ := by
  unfold Vh
  rw [Ygh, if_neg (Nat.not_lt_zero _)]
  rfl
theorem YgL {len : Int} {C : Lk → List Cel} {endd : Int} {cs : List Cel} {ls : List Lk} {k : Nat} {a at_ : Int} (hk : k ≠ 0) : Vh len C endd cs ls 0 k a at_ = [] := by
  unfold Vh
  rw [if_pos (by simp [hopP]; omega)]
  rfl
theorem YeB {x y : List (Cel × Int)} {a b : Int} (hy : ∀ z ∈ y, z.2 + 1 = b) : Z2 (y ++ x) a = Z2 x (if y = [] then a else b) := by
  unfold Z2
  cases hx : x.getLast? with
  | some z => rw [List.getLast?_append, hx]; rfl
  | none =>
    obtain rfl := List.getLast?_eq_none_iff.1 hx
    rw [List.append_nil]
    cases hy2 : y.getLast? with
    | none =>
      obtain rfl := List.getLast?_eq_none_iff.1 hy2
      rfl
    | some z =>
      have hne : y ≠ [] := fun e => by rw [e] at hy2; cases hy2
      rw [if_neg hne]
      exact hy z (List.mem_of_getLast? hy2)
theorem Yfr (len : Int) (C : Lk → List Cel) (endd : Int) (cs : List Cel) (ls : List Lk) (f k : Nat) (a at_ : Int) :
    Vh len C endd cs ls (f + 1) k a at_ = Xg len a cs k ++ Vh len C endd cs ls f (k - (Xg len a cs k).length) (a + 1) (if Xg len a cs k = [] then at_ else a + 1) := by
  have hl := U3 len a cs k
  have h1 : hopP len cs (f + 1) k a = Xg len a cs k ++ hopP len cs f (k - (Xg len a cs k).length) (a + 1) := rfl
  unfold Vh
  rw [h1, List.length_append]
  by_cases h2 : (hopP len cs f (k - (Xg len a cs k).length) (a + 1)).length < k - (Xg len a cs k).length
  · rw [if_pos h2, if_pos (by omega)]
  · rw [if_neg h2, if_neg (by omega), YeB (b := a + 1) (fun z hz => by rw [U4 hz]), List.append_assoc]
def Ug (len : Int) (C : Lk → List Cel) (endd : Int) (cs cs' : List Cel) (ls : List Lk) (f k : Nat) (a at_ : Int) : List (Cel × Int) :=
  Xg len a cs' k ++ Vh len C endd cs ls f (k - (Xg len a cs' k).length) (a + 1) (if Xg len a cs' k = [] then at_ else a + 1)
theorem YgB (len : Int) (C : Lk → List Cel) (endd : Int) (cs : List Cel) (ls : List Lk) (f k : Nat) (a at_ : Int) : Ug len C endd cs cs ls f k a at_ = Vh len C endd cs ls (f + 1) k a at_ := (Yfr ..).symm
theorem YgC (len : Int) (C : Lk → List Cel) (endd : Int) (cs : List Cel) (ls : List Lk) (f k : Nat) (a at_ : Int) : Ug len C endd cs [] ls f k a at_ = Vh len C endd cs ls f k (a + 1) at_ := by
  simp [Ug, Xg]
theorem YgD {len : Int} {C : Lk → List Cel} {endd : Int} {cs cs' : List Cel} {c : Cel} {ls : List Lk} {f k : Nat} {a at_ : Int} (h : c.1 = a.tmod len) (hk : k ≠ 0) :
    Ug len C endd cs (c :: cs') ls f k a at_ = (c, a) :: Ug len C endd cs cs' ls f (k - 1) a (a + 1) := by
  have h1 : Xg len a (c :: cs') k = (c, a) :: Xg len a cs' (k - 1) := by rw [Xg, if_pos ⟨h, hk⟩]
  unfold Ug
  rw [h1, List.length_cons, if_neg (List.cons_ne_nil _ _), show k - ((Xg len a cs' (k - 1)).length + 1) = k - 1 - (Xg len a cs' (k - 1)).length by omega]
  simp
theorem Yhr {len : Int} {C : Lk → List Cel} {endd : Int} {cs cs' : List Cel} {c : Cel} {ls : List Lk} {f k : Nat} {a at_ : Int} (h : ¬ (c.1 = a.tmod len ∧ k ≠ 0)) :
    Ug len C endd cs (c :: cs') ls f k a at_ = Ug len C endd cs cs' ls f k a at_ := by
  unfold Ug
  rw [Xg, if_neg h]
def runR (len : Int) (C : Lk → List Cel) (endd : Int) : List Lk → Int → Option (List Int)
  | [], _ => some []
  | l :: ls, a => if (hopP len (C l) (endd - a).toNat (Y0 l) a).length < Y0 l then none
    else (runR len C endd ls (Z2 (hopP len (C l) (endd - a).toNat (Y0 l) a) a)).map fun y => (hopP len (C l) (endd - a).toNat (Y0 l) a).map Prod.snd ++ y
theorem Yeo (len : Int) (C : Lk → List Cel) (endd : Int) : ∀ (ls : List Lk) (a : Int), runR len C endd ls a = if (runP len C endd ls a).length < Xp ls then none else some ((runP len C endd ls a).map Prod.snd)
  | [], a => rfl
  | l :: ls, a => by
    have h3 : Xp (l :: ls) = Y0 l + Xp ls := by unfold Xp; rw [List.map_cons, List.sum_cons]
    have hl := Ou len (C l) (endd - a).toNat (Y0 l) a
    unfold runR runP
    by_cases h : (hopP len (C l) (endd - a).toNat (Y0 l) a).length < Y0 l
    · rw [if_pos h, if_pos h, if_pos (by omega)]
    · rw [if_neg h, if_neg h, Yeo len C endd ls]
      by_cases h4 : (runP len C endd ls (Z2 (hopP len (C l) (endd - a).toNat (Y0 l) a) a)).length < Xp ls
      · rw [if_pos h4, if_pos (by rw [List.length_append]; omega)]; rfl
      · rw [if_neg h4, if_neg (by rw [List.length_append]; omega)]; simp
def Wn (n : Net) (r : List Int) (i : Nat) : Lk := lnk n (YF n (r.getD i 0) (r.getD (i + 1) 0)).toNat
def YE (n : Net) (r : List Int) : List Lk := (List.range (r.length - 1)).map (Wn n r)
def QK (n : Net) (s : Sch) (f : Flw) (r : List Int) (release : Int) : Option (List Int) := runR s.len (Ue s f.1) (release + f.2.2.2.1) (YE n r) release
def JN (l : List Int) : Int := l.getD (l.length - 1) 0
def WD (S : Int → Option (List Int)) (len period : Int) : Nat → Int → Int × Int × List Int → Option (Int × Int × List Int)
  | 0, _, b => some b
  | k + 1, rel, b => if len ≤ rel then some b else match S rel with
    | none => none
    | some l => WD S len period k (rel + period) (if b.1 < JN l - rel + 1 then (JN l - rel + 1, rel, l.map fun z => z - rel) else b)
def Vo (n : Net) (s : Sch) (f : Flw) (r : List Int) : Option (Int × Int × List Int) := WD (QK n s f r) s.len f.2.2.2.1 s.len.toNat f.2.2.2.2.1 (0, 0, [])
def wayE (n : Net) (s : Sch) (f : Flw) (r : List Int) : Int :=
  if YA n ≠ 0 ∨ XY s = false ∨ XW n.nodes f ≠ 0 then 1 else if s.len.tmod f.2.2.2.1 ≠ 0 then 11 else ZB n f.2.1 f.2.2.1 r
def Xu (n : Net) (s : Sch) (f : Flw) (r : List Int) : (Int × Int × List Int) × Int :=
  if wayE n s f r ≠ 0 then ((0, 0, []), wayE n s f r) else match Vo n s f r with
    | none => ((0, 0, []), 15)
    | some b => (b, 0)
open Go.RowKit Go.Eng Go.Nw Go.Rt
abbrev Rqs := Flw × List (List Int)
structure Clm where
  flow : Int
  routes : List (List Int)
  bounds : List Int
  worst : List Int
  slots : List (List Int)
deriving DecidableEq
def Yi3 : Clm := ⟨0, [], [], [], []⟩
def Wj (q : List Rqs) : List Flw := q.map Prod.fst
def Yi4 : Rqs := ((0, 0, 0, 0, 0, 0), [])
def rqAt (q : List Rqs) (i : Nat) : Rqs := q.getD i Yi4
def rtAt (l : List (List Int)) (k : Nat) : List Int := l.getD k []
def rtsE (n : Net) (x : Rqs) : Int :=
  if x.2.length = 0 then 14 else if 2 < x.2.length then 8
  else if (Yx (fun k => ZB n x.1.2.1 x.1.2.2.1 (rtAt x.2 k)) x.2.length 0).2 ≠ 0 then (Yx (fun k => ZB n x.1.2.1 x.1.2.2.1 (rtAt x.2 k)) x.2.length 0).2
  else if x.2.length = 2 ∧ rtAt x.2 0 = rtAt x.2 1 then 6 else 0
def rqsE (n : Net) (q : List Rqs) : Int × Int :=
  if YA n ≠ 0 then (-1, 1) else if (YV n.nodes (Wj q)).2 ≠ 0 then YV n.nodes (Wj q)
  else Yx (fun i => rtsE n (rqAt q i)) q.length 0
def badR (n : Net) (s : Sch) (f : Flw) (r : List Int) : Bool := decide ((Xu n s f r).2 ≠ 0 ∨ f.2.2.2.2.2 < (Xu n s f r).1.1)
def Ycj (n : Net) (s : Sch) (x : Rqs) (l : List (List Int)) : Clm :=
  ⟨x.1.1, l, l.map fun r => (Xu n s x.1 r).1.1, l.map fun r => (Xu n s x.1 r).1.2.1, l.map fun r => (Xu n s x.1 r).1.2.2⟩
def Ud (n : Net) (s : Sch) (x : Rqs) : Bool := x.2.any (badR n s x.1)
def clmE (n : Net) (s : Sch) (x : Rqs) : Clm := Ycj n s x x.2
def UD (n : Net) (q : List Rqs) (s : Sch) : List Clm × (Int × Int) :=
  if (rqsE n q).2 ≠ 0 then ([], rqsE n q) else if (schE n (Wj q) s).2 ≠ 0 then ([], (-1, 1))
  else if (Yx (fun i => if Ud n s (rqAt q i) = true then 15 else 0) q.length 0).2 ≠ 0 then ([], Yx (fun i => if Ud n s (rqAt q i) = true then 15 else 0) q.length 0)
  else (q.map (clmE n s), (-1, 0))
def Zw (c : List Clm) (i : Nat) : Clm := c.getD i Yi3
def chkE (n : Net) (q : List Rqs) (s : Sch) (c : List Clm) : Int × Int :=
  if (UD n q s).2.2 ≠ 0 then (UD n q s).2 else if c.length ≠ (UD n q s).1.length then (-1, 11)
  else Yx (fun i => if Zw c i = Zw (UD n q s).1 i then 0 else 20) c.length 0
def minI : List Int → Int
  | [] => 0
  | a :: l => l.foldl (fun x y => if y < x then y else x) a
def bndE (c : List Clm) (id : Int) : Int × Bool :=
  match c.find? (fun x => decide (x.flow = id) && decide (0 < x.bounds.length)) with
  | none => (0, false)
  | some x => (minI x.bounds, true)
def cutC (c : UInt8) : List UInt8 → List (List UInt8)
  | [] => [[]]
  | x :: l => if x = c then [] :: cutC c l else match cutC c l with
    | [] => [[x]]
    | h :: t => (x :: h) :: t
theorem JC (c : UInt8) : ∀ l, cutC c l ≠ []
  | [] => by simp [cutC]
  | x :: l => by
    unfold cutC
    split
    · simp
    · split <;> simp
theorem Ybq {c : UInt8} : ∀ {a : List UInt8} (l : List UInt8), c ∉ a → cutC c (a ++ c :: l) = a :: cutC c l
  | [], l, _ => by rw [List.nil_append, cutC, if_pos rfl]
  | x :: a, l, h => by
    have hx : x ≠ c := fun e => h (e ▸ List.mem_cons_self)
    rw [List.cons_append, cutC, if_neg hx, Ybq l fun hm => h (List.mem_cons_of_mem _ hm)]
theorem Ydp {c : UInt8} : ∀ {a : List UInt8}, c ∉ a → cutC c a = [a]
  | [], _ => rfl
  | x :: a, h => by
    have hx : x ≠ c := fun e => h (e ▸ List.mem_cons_self)
    rw [cutC, if_neg hx, Ydp fun hm => h (List.mem_cons_of_mem _ hm)]
theorem UH {c : UInt8} : ∀ {l : List UInt8}, ∀ p ∈ cutC c l, c ∉ p
  | [], p, hp => by
    obtain rfl : p = [] := by simpa [cutC] using hp
    simp
  | x :: l, p, hp => by
    unfold cutC at hp
    split at hp
    · rcases List.mem_cons.1 hp with rfl | hp
      · simp
      · exact UH p hp
    · rename_i hx
      split at hp
      · obtain rfl : p = [x] := by simpa using hp
        simp only [List.mem_singleton]
        exact fun e => hx e.symm
      · rename_i h t he
        rcases List.mem_cons.1 hp with rfl | hp
        · intro hm
          rcases List.mem_cons.1 hm with e | hm
          · exact hx e.symm
          · exact UH (l := l) h (by rw [he]; exact List.mem_cons_self) hm
        · exact UH (l := l) p (by rw [he]; exact List.mem_cons_of_mem _ hp)
def X0 (c : UInt8) : List (List UInt8) → List UInt8
  | [] => []
  | [p] => p
  | p :: q :: r => p ++ c :: X0 c (q :: r)
theorem UR {c : UInt8} : ∀ l : List UInt8, X0 c (cutC c l) = l
  | [] => rfl
  | x :: l => by
    have ih := UR (c := c) l
    unfold cutC
    split
    · rename_i e
      subst e
      cases h : cutC x l with
      | nil => exact absurd h (JC x l)
      | cons a t => rw [h] at ih; show [] ++ x :: X0 x (a :: t) = _; rw [ih]; rfl
    · split
      · rename_i h; exact absurd h (JC c l)
      · rename_i a t h
        rw [h] at ih
        cases t with
        | nil => show x :: a = _; rw [show a = l from ih]
        | cons b t => show (x :: a) ++ c :: X0 c (b :: t) = _; rw [List.cons_append, show a ++ c :: X0 c (b :: t) = l from ih]
theorem Vq {c : UInt8} : ∀ {ps : List (List UInt8)}, ps ≠ [] → (∀ p ∈ ps, c ∉ p) → cutC c (X0 c ps) = ps
  | [], h, _ => absurd rfl h
  | [p], _, h => Ydp (h p List.mem_cons_self)
  | p :: q :: r, _, h => by
    show cutC c (p ++ c :: X0 c (q :: r)) = _
    rw [Ybq _ (h p List.mem_cons_self), Vq (by simp) fun x hx => h x (List.mem_cons_of_mem _ hx)]
theorem YaI {c : UInt8} : ∀ {a : List UInt8} (b : List UInt8), c ∉ a → Lib.index (a ++ c :: b) [c] = a.length
  | [], b, _ => by simp [Lib.index, List.isPrefixOf]
  | x :: a, b, h => by
    have hx : ¬ c = x := fun e => h (e ▸ List.mem_cons_self)
    have ih := YaI (c := c) (a := a) b fun hm => h (List.mem_cons_of_mem _ hm)
    rw [List.cons_append, Lib.index, if_neg (by simp [List.isPrefixOf, hx]), ih, if_neg (by intro h; have := eq_of_beq h; omega)]
    simp
theorem Ycz {c : UInt8} : ∀ {a : List UInt8}, c ∉ a → Lib.index a [c] = -1
  | [], _ => rfl
  | x :: a, h => by
    have hx : ¬ c = x := fun e => h (e ▸ List.mem_cons_self)
    have ih := Ycz (c := c) (a := a) fun hm => h (List.mem_cons_of_mem _ hm)
    rw [Lib.index, if_neg (by simp [List.isPrefixOf, hx]), ih, if_pos (by decide)]
theorem Yfn {c : UInt8} (s : List UInt8) : Lib.split s [c] = cutC c s := by
  unfold Lib.split
  obtain ⟨k, hk⟩ : ∃ k, s.length = k := ⟨_, rfl⟩
  induction k using Nat.strongRecOn generalizing s with
  | _ k ih =>
    by_cases hm : c ∈ s
    · obtain ⟨a, b, rfl, ha⟩ := List.eq_append_cons_of_mem hm
      have hi := YaI b ha
      rw [Lib.count_hit (by simp) hi, Nat.add_comm, Lib.splitK, if_neg (by rw [hi]; intro h; have := eq_of_beq h; omega), hi, Ybq b ha]
      have e1 : ((a.length : Int).toNat) = a.length := rfl
      have e2 : (a ++ c :: b).take (a.length + 0) = a := by simp
      have e3 : (a ++ c :: b).drop (a.length + [c].length) = b := by
        rw [show a ++ c :: b = (a ++ [c]) ++ b by simp, show a.length + [c].length = (a ++ [c]).length by simp, List.drop_left]
      rw [e1, e2, e3, ih b.length (by rw [← hk]; simp; omega) b rfl]
    · rw [Lib.count_miss (Ycz hm), Lib.splitK, Ydp hm]
def digB (b : UInt8) : Bool := decide (48 ≤ b.toNat ∧ b.toNat ≤ 57)
def valN (l : List UInt8) : Nat := l.foldl (fun a b => 10 * a + (b.toNat - 48)) 0
def numW (w : List UInt8) : Int := if w.length < 1 ∨ 4 < w.length ∨ (1 < w.length ∧ w.head? = some 48) ∨ w.all digB = false then -1 else (valN w : Int)
theorem VP (l : List UInt8) (d : UInt8) : valN (l ++ [d]) = 10 * valN l + (d.toNat - 48) := by
  unfold valN; rw [List.foldl_append]; rfl
theorem Yhx : ∀ {l : List UInt8}, l ≠ [] → l.all digB = true → l.head? ≠ some 48 → 1 ≤ valN l := by
  intro l
  obtain ⟨k, hk⟩ : ∃ k, l.length = k := ⟨_, rfl⟩
  induction k generalizing l with
  | zero => intro h; exact absurd (List.length_eq_zero_iff.1 hk) h
  | succ k ih =>
    intro hne ha hh
    rcases List.eq_nil_or_concat l with rfl | ⟨m, d, rfl⟩
    · exact absurd rfl hne
    rw [List.concat_eq_append] at *
    rw [VP]
    cases m with
    | nil =>
      have h1 : digB d = true := by simpa using ha
      unfold digB at h1
      have h2 := of_decide_eq_true h1
      have h3 : d ≠ 48 := fun e => hh (by rw [e]; rfl)
      have h4 : d.toNat ≠ 48 := fun e => h3 (UInt8.toNat_inj.1 e)
      omega
    | cons x m =>
      have := ih (l := x :: m) (by simpa using hk) (by simp) (by rw [List.all_append] at ha; simp only [Bool.and_eq_true] at ha; exact ha.1) (by simpa using hh)
      omega
theorem Yhh : ∀ {l : List UInt8}, l ≠ [] → l.all digB = true → (l.length = 1 ∨ l.head? ≠ some 48) → Lib.decDigits (valN l) = l := by
  intro l
  obtain ⟨k, hk⟩ : ∃ k, l.length = k := ⟨_, rfl⟩
  induction k generalizing l with
  | zero => intro h; exact absurd (List.length_eq_zero_iff.1 hk) h
  | succ k ih =>
    intro hne ha hh
    rcases List.eq_nil_or_concat l with rfl | ⟨m, d, rfl⟩
    · exact absurd rfl hne
    rw [List.concat_eq_append] at *
    rw [List.all_append] at ha
    simp only [Bool.and_eq_true] at ha
    have h1 : digB d = true := by simpa using ha.2
    unfold digB at h1
    have h2 := of_decide_eq_true h1
    have hd : UInt8.ofNat (48 + (d.toNat - 48)) = d := by
      rw [show 48 + (d.toNat - 48) = d.toNat by omega]; exact UInt8.ofNat_toNat
    rw [VP]
    cases m with
    | nil => rw [show 10 * valN [] + (d.toNat - 48) = d.toNat - 48 by simp [valN], Lib.decDigits_one (by omega), hd]; rfl
    | cons x m =>
      have hx : (x :: m).head? ≠ some 48 := by
        rcases hh with h | h
        · simp at h
        · simpa using h
      have hp := Yhx (by simp) ha.1 hx
      rw [Lib.decDigits, dif_neg (by omega), show (10 * valN (x :: m) + (d.toNat - 48)) / 10 = valN (x :: m) by omega, show (10 * valN (x :: m) + (d.toNat - 48)) % 10 = d.toNat - 48 by omega, hd, ih (by simpa using hk) (by simp) ha.1 (.inr hx)]
theorem YgQ {l : List UInt8} (h : l.all digB = true) : valN l < 10 ^ l.length := by
  obtain ⟨k, hk⟩ : ∃ k, l.length = k := ⟨_, rfl⟩
  induction k generalizing l with
  | zero => rw [List.length_eq_zero_iff.1 hk]; decide
  | succ k ih =>
    rcases List.eq_nil_or_concat l with rfl | ⟨m, d, rfl⟩
    · simp at hk
    rw [List.concat_eq_append] at *
    rw [List.all_append] at h
    simp only [Bool.and_eq_true] at h
    have h1 : digB d = true := by simpa using h.2
    unfold digB at h1
    have h2 := of_decide_eq_true h1
    have hm : m.length = k := by simpa using hk
    have := ih h.1 hm
    rw [VP, List.length_append, hm, List.length_singleton, Nat.pow_succ]
    rw [hm] at this
    omega
structure Dec (u : Nat) (l : List UInt8) : Prop where
  ne : l ≠ []
  dig : l.all digB = true
  head : 1 ≤ u → l.head? ≠ some 48
  one : u = 0 → l.length = 1
  val : valN l = u
theorem Ybr (u : Nat) : Dec u (Lib.decDigits u) := by
  induction u using Nat.strongRecOn with
  | _ u ih =>
    have hdg : ∀ d : Nat, d < 10 → (UInt8.ofNat (48 + d)).toNat = 48 + d := fun d hd => by rw [UInt8.toNat_ofNat']; omega
    by_cases h : u < 10
    · rw [Lib.decDigits_one h]
      have e := hdg u h
      refine ⟨by simp, ?_, fun h1 => ?_, fun _ => rfl, ?_⟩
      · simp [digB]; omega
      · simp only [List.head?_cons, ne_eq, Option.some.injEq]
        intro e2
        rw [e2] at e
        have : (48 : UInt8).toNat = 48 := rfl
        omega
      · show 10 * 0 + ((UInt8.ofNat (48 + u)).toNat - 48) = u
        rw [e]; omega
    · have h2 := ih (u / 10) (by omega)
      have e := hdg (u % 10) (by omega)
      rw [Lib.decDigits, dif_neg h]
      refine ⟨by simp, ?_, fun _ => ?_, fun h0 => by omega, ?_⟩
      · rw [List.all_append, h2.dig]
        simp [digB]; omega
      · have := h2.head (by omega)
        cases hl : Lib.decDigits (u / 10) with
        | nil => exact absurd hl h2.ne
        | cons x m => rw [hl] at this; simpa using this
      · rw [VP, h2.val, e]; omega
theorem Yby {w : List UInt8} (h : 0 ≤ numW w) : (numW w).toNat < 10000 ∧ w = Lib.decDigits (numW w).toNat := by
  unfold numW at h ⊢
  split at h
  · omega
  · rename_i hc
    rw [if_neg hc]
    have hne : w ≠ [] := fun e => hc (.inl (by rw [e]; decide))
    have hd : w.all digB = true := by
      cases hd : w.all digB with
      | true => rfl
      | false => exact absurd (.inr (.inr (.inr hd))) hc
    have hb := YgQ hd
    have h4 : w.length ≤ 4 := by omega
    refine ⟨?_, ?_⟩
    · have : 10 ^ w.length ≤ 10 ^ 4 := Nat.pow_le_pow_right (by decide) h4
      simp only [Int.toNat_natCast]
      omega
    · rw [Int.toNat_natCast, Yhh hne hd]
      by_cases h1 : w.length = 1
      · exact .inl h1
      · refine .inr fun e => hc (.inr (.inr (.inl ⟨?_, e⟩)))
        have := List.length_pos_iff.2 hne
        omega
theorem UI {u : Nat} (h : u < 10000) : (Lib.decDigits u).length ≤ 4 := by
  rw [Lib.decDigits_length]
  by_cases h1 : u < 10
  · rw [Lib.nDigits_small h1]; omega
  · rw [Lib.nDigits_big h1]
    by_cases h2 : u / 10 < 10
    · rw [Lib.nDigits_small h2]; omega
    · rw [Lib.nDigits_big h2]
      by_cases h3 : u / 10 / 10 < 10
      · rw [Lib.nDigits_small h3]; omega
      · rw [Lib.nDigits_big h3, Lib.nDigits_small (by omega)]; omega
theorem Qx {u : Nat} (h : u < 10000) : numW (Lib.decDigits u) = u := by
  have hd := Ybr u
  have hl := UI h
  unfold numW
  rw [if_neg, hd.val]
  rintro (h1 | h1 | ⟨h1, h2⟩ | h1)
  · have := List.length_pos_iff.2 hd.ne; omega
  · omega
  · rcases Nat.eq_zero_or_pos u with h0 | h0
    · have := hd.one h0; omega
    · exact hd.head h0 h2
  · rw [hd.dig] at h1; cases h1
theorem WJ : ∀ (l : List UInt8) (a : Nat), l.all digB = true → Lib.decFrom a l = some (l.foldl (fun a b => 10 * a + (b.toNat - 48)) a)
  | [], _, _ => rfl
  | b :: l, a, h => by
    simp only [List.all_cons, Bool.and_eq_true] at h
    have h1 := h.1
    unfold digB at h1
    have h2 := of_decide_eq_true h1
    rw [Lib.decFrom, show Lib.digitVal b = some (b.toNat - 48) by unfold Lib.digitVal; rw [if_pos h2]]
    show Lib.decFrom (a * 10 + (b.toNat - 48)) l = _
    rw [WJ l _ h.2, List.foldl_cons, Nat.mul_comm]
theorem Ycd {u : Nat} (h : u < 10000) : Lib.atoiAll (Lib.decDigits u) = .ok (u : Int) := by
  have hd := Ybr u
  have hl := UI h
  rw [Lib.atoiAll_short _ (by omega)]
  have h1 : Lib.atoi (Lib.decDigits u) = some (u : Int) := by
    have hv := WJ _ 0 hd.dig
    have e := hd.val
    unfold valN at e
    rw [e] at hv
    have hdig := hd.dig
    cases hl : Lib.decDigits u with
    | nil => exact absurd hl hd.ne
    | cons b r =>
      rw [hl] at hv hdig
      simp only [List.all_cons, Bool.and_eq_true] at hdig
      have h1 := hdig.1
      unfold digB at h1
      have h2 := of_decide_eq_true h1
      have n1 : ¬ (b == 45) = true := fun e => by
        have := eq_of_beq e
        rw [this] at h2
        exact absurd h2.1 (by decide)
      have n2 : ¬ (b == 43) = true := fun e => by
        have := eq_of_beq e
        rw [this] at h2
        exact absurd h2.1 (by decide)
      show (if (b == 45) = true then (Lib.decNat r).map (fun (m : Nat) => -(m : Int)) else if (b == 43) = true then (Lib.decNat r).map (fun (m : Nat) => (m : Int)) else (Lib.decNat (b :: r)).map fun (m : Nat) => (m : Int)) = _
      rw [if_neg n1, if_neg n2]
      unfold Lib.decNat
      rw [if_neg (by simp), hv]
      rfl
  rw [h1]
  rfl
theorem Ygx {w : List UInt8} {n : Int} (h : Lib.atoiAll w = .ok n) : (w.length ≤ 4 ∧ Lib.itoa n = w ∧ 0 ≤ n → numW w = n) ∧ (¬ (w.length ≤ 4 ∧ Lib.itoa n = w ∧ 0 ≤ n) → numW w < 0) := by
  constructor
  · rintro ⟨h1, h2, h3⟩
    obtain ⟨u, rfl⟩ : ∃ u : Nat, n = u := ⟨n.toNat, by omega⟩
    have h4 : Lib.itoa (u : Int) = Lib.decDigits u := by unfold Lib.itoa; rw [if_neg (by omega)]; rfl
    rw [h4] at h2
    subst h2
    refine Qx ?_
    have := Lib.lt_pow_nDigits u
    rw [Lib.decDigits_length] at h1
    have h5 : 10 ^ Lib.nDigits u ≤ 10 ^ 4 := Nat.pow_le_pow_right (by decide) h1
    omega
  · intro hc
    refine Int.not_le.1 fun h0 => hc ?_
    obtain ⟨h1, h2⟩ := Yby h0
    have h3 := Ycd h1
    rw [← h2, h] at h3
    injection h3 with h3
    have h4 : Lib.itoa ((numW w).toNat : Int) = Lib.decDigits (numW w).toNat := by unfold Lib.itoa; rw [if_neg (by omega)]; rfl
    refine ⟨?_, ?_, by omega⟩
    · have := UI h1
      rw [← h2] at this; exact this
    · rw [h3, h4]; exact h2.symm
theorem Ygw {w : List UInt8} (h : ∀ n, Lib.atoiAll w ≠ .ok n) : numW w < 0 := by
  refine Int.not_le.1 fun h0 => ?_
  obtain ⟨h1, h2⟩ := Yby h0
  have h3 := Ycd h1
  rw [← h2] at h3
  exact h _ h3
open Go.RowKit Go.Eng Go.Nw
def wordS : List UInt8 := [115, 99, 104, 101, 100, 117, 108, 101]
def wordC : List UInt8 := [99, 101, 108, 108]
def Yw (w : List UInt8) (l : List Int) : List UInt8 := w ++ l.flatMap fun n => 32 :: Lib.itoa n
def YM (w : List UInt8) (l : List Int) : List UInt8 := Yw w l ++ [10]
def YgO (s : Sch) : List UInt8 := YM wordS [s.len, s.off] ++ s.cells.flatMap fun c => YM wordC (nums c)
def J7 (s : Sch) : List UInt8 × Int := if XY s = false then ([], 1) else (YgO s, 0)
def XO (ws : List (List UInt8)) : Option (List Int) := if (ws.any fun w => decide (numW w < 0)) = true then none else some (ws.map numW)
def Je (line word : List UInt8) (many : Nat) : Option (List Int) :=
  if (cutC 32 line).length ≠ many + 1 ∨ (cutC 32 line).headD [] ≠ word then none else XO (cutC 32 line).tail
def YJ (ls : List (List UInt8)) (i : Nat) : List UInt8 := ls.getD i []
theorem Xr {c : UInt8} (p : List UInt8) : ∀ l : List (List UInt8), X0 c (p :: l) = p ++ l.flatMap fun q => c :: q
  | [] => by simp [X0]
  | q :: r => by
    show p ++ c :: X0 c (q :: r) = _
    rw [Xr q r]; rfl
theorem Qo : ∀ l : List (List UInt8), X0 10 (l ++ [[]]) = l.flatMap fun p => p ++ [10]
  | [] => rfl
  | p :: l => by
    rw [List.cons_append, Xr, List.flatMap_cons, ← Qo l]
    cases l with
    | nil => simp [X0]
    | cons q r => rw [List.cons_append, Xr, List.flatMap_cons]; simp
theorem Yan (w : List UInt8) (l : List Int) : Yw w l = X0 32 (w :: l.map Lib.itoa) := by
  rw [Xr, List.flatMap_map]; rfl
theorem Yco (u : Nat) {b : UInt8} (hb : b ∈ Lib.decDigits u) : b ≠ 32 ∧ b ≠ 10 := by
  have := List.all_eq_true.1 (Ybr u).dig b hb
  unfold digB at this
  have h := of_decide_eq_true this
  constructor <;> (intro e; subst e; exact absurd h (by decide))
theorem Z9 {n : Int} (h : 0 ≤ n) : Lib.itoa n = Lib.decDigits n.toNat := by unfold Lib.itoa; rw [if_neg (by omega)]
theorem VX {w : List UInt8} {l : List Int} (hw : (10 : UInt8) ∉ w) (hl : ∀ n ∈ l, 0 ≤ n) : (10 : UInt8) ∉ Yw w l := by
  unfold Yw
  intro h
  rcases List.mem_append.1 h with h | h
  · exact hw h
  · obtain ⟨n, hn, h⟩ := List.mem_flatMap.1 h
    rcases List.mem_cons.1 h with h | h
    · exact absurd h (by decide)
    · rw [Z9 (hl n hn)] at h
      exact (Yco _ h).2 rfl
theorem Ye8 {w : List UInt8} {l : List Int} (hw : (32 : UInt8) ∉ w) (hl : ∀ n ∈ l, 0 ≤ n ∧ n < 10000) : Je (Yw w l) w l.length = some l := by
  have hc : cutC 32 (Yw w l) = w :: l.map Lib.itoa := by
    rw [Yan]
    refine Vq (by simp) fun p hp => ?_
    rcases List.mem_cons.1 hp with rfl | hp
    · exact hw
    · obtain ⟨n, hn, rfl⟩ := List.mem_map.1 hp
      rw [Z9 (hl n hn).1]
      exact fun h => (Yco _ h).1 rfl
  have hn : ∀ n ∈ l, numW (Lib.itoa n) = n := fun n hm => by
    have := hl n hm
    rw [Z9 this.1, Qx (by omega)]
    omega
  unfold Je
  rw [hc, if_neg (by simp), List.tail_cons]
  unfold XO
  rw [if_neg, List.map_map]
  · congr 1
    have : l.map (numW ∘ Lib.itoa) = l.map id := List.map_congr_left fun n hm => hn n hm
    rw [this, List.map_id]
  · rw [List.any_map, Bool.not_eq_true, List.any_eq_false]
    intro n hm
    show ¬ decide (numW (Lib.itoa n) < 0) = true
    rw [hn n hm, decide_eq_true_eq]
    have := hl n hm
    omega
theorem Ye9 {line w : List UInt8} {k : Nat} {x : List Int} (h : Je line w k = some x) : line = Yw w x ∧ x.length = k ∧ ∀ n ∈ x, 0 ≤ n := by
  unfold Je at h
  split at h
  · cases h
  rename_i hc
  unfold XO at h
  split at h
  · cases h
  rename_i ha
  have h1 : (cutC 32 line).length = k + 1 := Decidable.byContradiction fun e => hc (.inl e)
  have h2 : (cutC 32 line).headD [] = w := Decidable.byContradiction fun e => hc (.inr e)
  have hj := UR (c := 32) line
  cases hcl : cutC 32 line with
  | nil => exact absurd hcl (JC _ _)
  | cons p r =>
    rw [hcl] at h1 h2 hj h ha
    obtain rfl : p = w := h2
    have hx := Option.some.inj h
    rw [List.tail_cons] at hx ha
    have hpos : ∀ q ∈ r, 0 ≤ numW q := fun q hq => by
      refine Int.not_lt.1 fun hlt => ha ?_
      rw [List.any_eq_true]
      exact ⟨q, hq, decide_eq_true hlt⟩
    refine ⟨?_, ?_, ?_⟩
    · rw [Yan, ← hj, ← hx, List.map_map]
      congr 2
      have : r.map (Lib.itoa ∘ numW) = r.map id := List.map_congr_left fun q hq => by
        show Lib.itoa (numW q) = q
        rw [Z9 (hpos q hq)]
        exact (Yby (hpos q hq)).2.symm
      rw [this, List.map_id]
    · rw [← hx, List.length_map]
      simpa using h1
    · intro n hn
      rw [← hx] at hn
      obtain ⟨q, hq, rfl⟩ := List.mem_map.1 hn
      exact hpos q hq
theorem Wl {s : Sch} (h : Frm s) : (∀ n ∈ [s.len, s.off], 0 ≤ n ∧ n < 10000) ∧ ∀ c ∈ s.cells, ∀ n ∈ nums c, 0 ≤ n ∧ n < 10000 := by
  have h1 := h.sized
  unfold Jg at h1
  have h2 := of_decide_eq_true h1
  constructor
  · intro n hn
    simp only [List.mem_cons, List.not_mem_nil, or_false] at hn
    omega
  · intro c hc n hn
    have h3 := h.formed c hc
    unfold Jt X8 insE at h3
    simp only [Bool.and_eq_true, decide_eq_true_eq] at h3
    unfold nums at hn
    simp only [List.mem_cons, List.not_mem_nil, or_false] at hn
    omega
theorem YcE {ls : List (List UInt8)} {k : Nat} (h : k < ls.length) : ls.take (k + 1) = ls.take k ++ [YJ ls k] := by
  unfold YJ
  rw [List.take_add_one, List.getD_eq_getElem?_getD, List.getElem?_eq_getElem h]
  rfl
open Go.RowKit Go.Eng Go.Nw
structure Tabs (w : World) : Prop where
  pow : Lib.TabIs Tryz.prog w "internal/strconv.uint64pow10" .u64 Lib.pow10Tab
  syn : ∃ tp p, w.var? Tryz.prog "strconv.ErrSyntax" = some #[.iface tp p]
  rng : ∃ tp p, w.var? Tryz.prog "strconv.ErrRange" = some #[.iface tp p]
  mx : ∃ m, w.cell? ⟨0, 0, none⟩ = some (.int .i64 m)
def TabsB (B : Nat) (w0 : World) : Prop := ∀ w, Below B w0 w → Tabs w
theorem TabsB.here {B : Nat} {w0 w : World} {H : List HP} (h : TabsB B w0) (hw : St B w0 H w) : TabsB w.heap.size w := fun w1 h1 => h w1 (hw.below.trans (h1.mono hw.le))
abbrev strV (l : List UInt8) : Value := .string ⟨l.toArray⟩
def strL (l : List UInt8) : List Value := [strV l]
theorem Wm (n : Int) (h0 : -9223372036854775808 ≤ n) (h1 : n ≤ 9223372036854775807) {B : Nat} {w0 : World} {H : List HP} {w : World} (ht : TabsB B w0) (hw : St B w0 H w) :
    Calls Tryz.prog 137 [.int .i64 n].toArray w (Post B w0 fun v K => v = strV (Lib.itoa n) ∧ K = H) :=
  OR hw ((Tryz.strconv_Itoa n h0 h1 w (ht w hw.below).pow).mono fun e w' ⟨h1, k, os, h2⟩ => ⟨h1, by rw [h2]; exact Lib.below_grow _ w (Nat.le_refl _) k os⟩)
theorem Yhf (l : List UInt8) (hl : l.length ≤ 1000000) (v : Int) (h : Lib.atoiAll l = .ok v) {B : Nat} {w0 : World} {H : List HP} {w : World} (hw : St B w0 H w) :
    Calls Tryz.prog 159 [strV l].toArray w (Post B w0 fun u K => u = .tuple #[.int .i64 v, .nilIface] ∧ K = H) := by
  have hs : (⟨l.toArray⟩ : ByteArray).size = l.length := by simp [ByteArray.size]
  refine OR hw ((Tryz.strconv_Atoi_ok ⟨l.toArray⟩ (by omega) v h w).mono ?_)
  rintro e w' ⟨rfl, h2 | ⟨t, rfl⟩⟩
  · rw [h2]; exact ⟨rfl, Below.refl _ _⟩
  · exact ⟨rfl, Go.Joins.below_bytesWorld _ _ _ _ (Nat.le_refl _)⟩
theorem Yf2 (l : List UInt8) (hl : l.length ≤ 1000000) (h : ∀ v, Lib.atoiAll l ≠ .ok v) {B : Nat} {w0 : World} {H : List HP} {w : World} (ht : TabsB B w0) (hw : St B w0 H w) :
    Calls Tryz.prog 159 [strV l].toArray w (Post B w0 fun u K => (∃ n t p, u = .tuple #[.int .i64 n, .iface t p]) ∧ K = H) := by
  have hs : (⟨l.toArray⟩ : ByteArray).size = l.length := by simp [ByteArray.size]
  have hT := ht w hw.below
  obtain ⟨tp1, p1, hv1⟩ := hT.syn
  obtain ⟨tp2, p2, hv2⟩ := hT.rng
  cases ha : Lib.atoiAll l
  · exact absurd ha (h _)
  · refine (Any.strconv_Atoi_syntax_var Tryz.laysC172 ⟨l.toArray⟩ (by omega) ha tp1 p1 w hv1).mono ?_
    rintro e w' ⟨N, rfl, _, _, hb⟩
    exact ⟨_, H, rfl, hw.grow hb, ⟨_, _, _, rfl⟩, rfl⟩
  · refine (Any.strconv_Atoi_range_var Tryz.laysC172 ⟨l.toArray⟩ (by omega) ha tp2 p2 w hv2).mono ?_
    rintro e w' ⟨N, rfl, _, _, hb⟩
    exact ⟨_, H, rfl, hw.grow hb, ⟨_, _, _, rfl⟩, rfl⟩
theorem QM (l : List UInt8) (c : UInt8) (hl : l.length ≤ 1000000) {B : Nat} {w0 : World} {H : List HP} {w : World} (ht : TabsB B w0) (hw : St B w0 H w) :
    Calls Tryz.prog 81 [strV l, .string ⟨#[c]⟩].toArray w (Post B w0 fun v K => ∃ g, v = .slice (some ⟨g, 0, none⟩) (cutC c l).length (cutC c l).length ∧ K = blk g (.cells ((cutC c l).map strV).toArray 9 (0, 0)) :: H) := by
  have hs : (⟨l.toArray⟩ : ByteArray).size = l.length := by simp [ByteArray.size]
  have hc : (⟨#[c]⟩ : ByteArray).size = 1 := rfl
  obtain ⟨m, hm⟩ := (ht w hw.below).mx
  have hlen := Lib.splitB_all ⟨#[c]⟩ (by rw [hc]; exact Nat.le_refl _) 0 _ (⟨l.toArray⟩ : ByteArray) rfl
  have hd := Lib.splitB_data ⟨#[c]⟩ 0 (Lib.countB ⟨l.toArray⟩ ⟨#[c]⟩) ⟨l.toArray⟩
  have e1 : (Lib.splitB ⟨#[c]⟩ 0 (Lib.countB ⟨l.toArray⟩ ⟨#[c]⟩) ⟨l.toArray⟩).map (·.data.toList) = cutC c l := by
    rw [hd]
    exact Yfn l
  have e2 : (cutC c l).length = Lib.countB ⟨l.toArray⟩ ⟨#[c]⟩ + 1 := by
    rw [← e1, List.length_map, hlen]
  have e3 : (Lib.splitB ⟨#[c]⟩ 0 (Lib.countB ⟨l.toArray⟩ ⟨#[c]⟩) ⟨l.toArray⟩).map Value.string = (cutC c l).map strV := by
    rw [← e1, List.map_map]
    refine List.map_congr_left fun x _ => ?_
    rfl
  refine (Tryz.strings_Split ⟨l.toArray⟩ ⟨#[c]⟩ m w (by omega) hm (by rw [hc]; exact Nat.le_refl _)).mono ?_
  rintro e w' ⟨rfl, hw'⟩
  rw [e3] at hw'
  refine ⟨_, _, rfl, by rw [hw']; exact hw.alloc _, w.heap.size, ?_, rfl⟩
  rw [e2]
open Go.RowKit Go.Eng Go.Nw
theorem Yf3 {s : Sch} {i : Nat} (hi : i < s.cells.length) (h : Z4 s i = false) : XY s = false := by
  unfold XY
  rw [Ybk hi h, Bool.and_false]
set_option maxRecDepth 10000 in
set_option maxHeartbeats 1000000 in
theorem YaE (s : SchM) {B : Nat} {w0 : World} {H : List HP} {w : World} (hr : Rd B w0 H s.A (s.cells.flatMap celF)) (hl : s.cells.length ≤ 1000000000000) (hw : St B w0 H w) :
    Calls Tryz.prog 58 [s.val].toArray w (Post B w0 fun v K => v = .bool (XY s.sch) ∧ K = H) := by
  refine Yd Tryz.func58 Tryz.ntmps58 rfl rfl hw ?_
  have e1 : s.sch.cells = s.cells := rfl
  repeat' (first | ((first | apply XJ en52 | apply XI en52); exact za; exact rfl; exact fun _ hw => (QI s hw); all_goals (intro hB; (try simp only [decide_eq_true_eq, decide_eq_false_iff_not] at hB); try (exfalso; omega))) | apply (zs1 ?_) | apply (zs2 ?_) | (apply zg1; first | refine zs3 ?_ | refine zs4 ?_) | (apply zg2; refine zs6 ?_) | (apply zg3; first | refine zs7 ?_ | refine zs8 ?_) | (apply zg4; refine zs9 ?_) | (apply zg6; first | refine zs11 ?_ | refine zs12 ?_) | (apply (zs19 ?_ ?_) <;> intro _ <;> try (exfalso; omega)) | (apply zg20; first | refine zs47 ?_ | refine zs48 ?_) | (apply zg23; (refine zs52 ?_; intro _)) | apply (zs65 ?_) | apply (zs68 ?_) | apply (zs69 ?_) | apply (zs70 ?_) | (apply zg27; first | refine zs71 ?_ | refine zs72 ?_) | apply (zs73 ?_) | apply (zs74 ?_) | apply (zs76 ?_) | apply (zs77 ?_) | fail)
  · apply Yi H
    · exact zk
    apply Yc; exact rfl; exact rfl
    exact ⟨by rw [show XY s.sch = false by unfold XY; rw [e1, decide_eq_false (by omega), Bool.and_false, Bool.false_and]], rfl⟩
  rotate_left
  · apply Yi H
    · exact zk
    apply Yc; exact rfl; exact rfl
    exact ⟨by simp [XY, *], rfl⟩
  rename_i g _
  refine Yk (fun (i : Nat) => [(17, .int .i64 i), (16, .int .i64 s.cells.length), (15, .slice s.A s.cells.length s.cap), (1, .pointer (some ⟨g, 0, none⟩))]) (fun _ => blk g (.cells #[.int .i64 s.len, .int .i64 s.off, .slice s.A s.cells.length s.cap] 30 (0, 0)) :: H) (fun i => i ≤ s.cells.length ∧ (List.range i).all (Z4 s.sch) = true) (fun i => s.cells.length - i) 0 ⟨Nat.zero_le _, rfl⟩ ?_ (fun w hw => hw) ?_
  · exact zu
  rintro i ⟨hi, hall⟩ K hK
  have hr := hr.cons (X := blk g (.cells #[.int .i64 s.len, .int .i64 s.off, .slice s.A s.cells.length s.cap] 30 (0, 0)))
  by_cases hlt : i < s.cells.length
  · have hget : s.cells[i]? = some (Ym s.sch i) := YD (s := s.sch) hlt
    have hgo : Z4 s.sch i = false → XY s.sch = false := Yf3 (s := s.sch) hlt
    have hst : Z4 s.sch i = true → (List.range (i + 1)).all (Z4 s.sch) = true := fun h => by rw [ON, hall, h]; rfl
    rcases Nat.eq_zero_or_pos i with h0 | h0
    · subst h0
      repeat' (first | ((first | apply XJ Yd5 | apply XI Yd5); exact za; exact rfl; exact fun _ hw => (WT s _ hw); all_goals (intro hB; (try simp only [decide_eq_true_eq, decide_eq_false_iff_not] at hB); try (exfalso; omega))) | apply (zs1 ?_) | apply (zs2 ?_) | (apply zg1; first | refine zs3 ?_ | refine zs4 ?_) | (apply zg3; first | refine zs8 ?_ | refine zs61 ?_) | (apply zg5; refine zs57 ?_) | (apply zg6; first | refine zs11 ?_ | refine zs12 ?_) | (apply (zs17 ?_ ?_) <;> intro _ <;> try (exfalso; omega)) | (apply (zs19 ?_ ?_) <;> intro _ <;> try (exfalso; omega)) | (apply zg13; refine zs30 ?_) | (apply zg20; first | refine zs47 ?_ | refine zs48 ?_) | (apply zg22; refine zs51 ?_) | (apply zg24; (refine zs54 ?_; intro _)) | apply (zs65 ?_) | apply (zs66 ?_) | apply (zs68 ?_) | apply (zs69 ?_) | apply (zs70 ?_) | (apply zg27; first | refine zs71 ?_ | refine zs72 ?_) | apply (zs73 ?_) | apply (zs74 ?_) | apply (zs76 ?_) | apply (zs77 ?_) | apply (zs78 ?_) | apply (zs79 ?_) | (apply zg28; refine zs84 ?_) | fail)
      · apply hK (0 + 1)
        · exact ⟨by omega, hst (by simp [Z4, *])⟩
        · omega
        · exact zu
        · exact zk
      · apply Yi H
        · exact zk
        apply Yc; exact rfl; exact rfl
        exact ⟨by rw [hgo (by simp [Z4, *])], rfl⟩
    · have hget2 : s.cells[((i : Int) - 1).toNat]? = some (Ym s.sch (i - 1)) := by
        rw [show ((i : Int) - 1).toNat = i - 1 by omega]
        exact YD (s := s.sch) (show i - 1 < s.cells.length by omega)
      repeat' (first | ((first | apply XJ Yd5 | apply XI Yd5); exact za; exact rfl; exact fun _ hw => (WT s _ hw); all_goals (intro hB; (try simp only [decide_eq_true_eq, decide_eq_false_iff_not] at hB); try (exfalso; omega))) | ((first | apply Ya en62 | apply Yb en62); exact za; exact rfl; exact fun _ hw => (V8 _ _ hw)) | apply (zs1 ?_) | apply (zs2 ?_) | (apply zg1; first | refine zs3 ?_ | refine zs4 ?_) | (apply zg2; refine zs6 ?_) | (apply zg3; first | refine zs7 ?_ | refine zs8 ?_ | refine zs61 ?_) | (apply zg5; refine zs57 ?_) | (apply zg6; first | refine zs11 ?_ | refine zs12 ?_) | (apply (zs17 ?_ ?_) <;> intro _ <;> try (exfalso; omega)) | (apply (zs19 ?_ ?_) <;> intro _ <;> try (exfalso; omega)) | (apply (zs20 ?_ ?_) <;> intro _ <;> try (exfalso; omega)) | (apply zg13; refine zs30 ?_) | (apply zg14; refine zs31 ?_) | (apply zg20; first | refine zs47 ?_ | refine zs48 ?_) | (apply zg22; refine zs51 ?_) | (apply zg24; (refine zs54 ?_; intro _)) | apply (zs65 ?_) | apply (zs66 ?_) | apply (zs68 ?_) | apply (zs69 ?_) | apply (zs70 ?_) | (apply zg27; first | refine zs71 ?_ | refine zs72 ?_) | apply (zs73 ?_) | apply (zs74 ?_) | apply (zs76 ?_) | apply (zs77 ?_) | apply (zs78 ?_) | apply (zs79 ?_) | (apply zg28; refine zs84 ?_) | fail)
      all_goals first
        | (apply hK (i + 1)
           · refine ⟨by omega, hst ?_⟩
             have hc : cmpV (nums (Ym s.sch (i - 1))) (nums (Ym s.sch i)) < 0 := by omega
             simp [Z4, (Ydo _ _).1 hc, *]
           · omega
           · exact zu
           · exact zk
           done)
        | (apply Yi H
           · exact zk
           apply Yc; exact rfl; exact rfl
           refine ⟨?_, rfl⟩
           rw [hgo]
           first
             | (simp [Z4, *]; done)
             | (have hc : ¬ cmpV (nums (Ym s.sch (i - 1))) (nums (Ym s.sch i)) < 0 := by omega
                have hd : ZG (Ym s.sch (i - 1)) (Ym s.sch i) = false := by
                  rw [Ydo] at hc
                  simpa using hc
                simp [Z4, hd]
                omega))
  · repeat' (first | apply (zs2 ?_) | (apply (zs17 ?_ ?_) <;> intro _ <;> try (exfalso; omega)) | apply (zs65 ?_) | apply (zs68 ?_) | apply (zs69 ?_) | apply (zs70 ?_) | (apply zg27; refine zs72 ?_) | apply (zs74 ?_) | apply (zs75 ?_) | apply (zs80 ?_) | apply (zs81 ?_) | fail)
    apply Yi H
    · exact zk
    apply Yc; exact rfl; exact rfl
    refine ⟨?_, rfl⟩
    rw [show i = s.cells.length by omega] at hall
    rw [show XY s.sch = true by unfold XY; rw [e1, hall, decide_eq_true (by omega)]; simp [*]]
open Go.RowKit Go.Eng Go.Nw
def inI (s : Sch) (slot : Int) (k : Nat) : List Nat := (List.range k).filter fun i => decide ((Ym s i).1 = slot)
def inXs (s : Sch) (slot : Int) : List (List Value) := (inI s slot s.cells.length).map fun (i : Nat) => [Value.int .i64 (i : Int)]
theorem Yek {s : Sch} {slot : Int} {k : Nat} (h : (Ym s k).1 = slot) : inI s slot (k + 1) = inI s slot k ++ [k] := by
  unfold inI; rw [List.range_succ, List.filter_append]; simp [h]
theorem Ygi {s : Sch} {slot : Int} {k : Nat} (h : (Ym s k).1 ≠ slot) : inI s slot (k + 1) = inI s slot k := by
  unfold inI; rw [List.range_succ, List.filter_append]; simp [h]
theorem Yhl {s : Sch} {slot : Int} {k n : Nat} (h : (Ym s k).1 = slot) (hk : k < n) : (inI s slot n)[(inI s slot k).length]? = some k := by
  obtain ⟨m, rfl⟩ : ∃ m, n = k + (m + 1) := ⟨n - k - 1, by omega⟩
  have e : inI s slot (k + (m + 1)) = inI s slot k ++ ((List.range (m + 1)).map (k + ·)).filter fun i => decide ((Ym s i).1 = slot) := by
    unfold inI; rw [List.range_add, List.filter_append]
  rw [e, List.getElem?_append_right (Nat.le_refl _), Nat.sub_self, List.range_succ_eq_map]
  simp [h]
theorem V1 {s : Sch} {slot : Int} {k i : Nat} : i ∈ inI s slot k ↔ i < k ∧ (Ym s i).1 = slot := by
  unfold inI; simp
def schB (g : Nat) (s : SchM) : HP := blk g (.cells #[.int .i64 s.len, .int .i64 s.off, .slice s.A s.cells.length s.cap] 30 (0, 0))
def intB (g : Nat) (x : Int) : HP := blk g (.cells #[.int .i64 x] 3 (0, 0))
set_option maxRecDepth 10000 in
set_option maxHeartbeats 1000000 in
theorem Ycx (s : SchM) (slot : Int) (gs gt : Nat) {B : Nat} {w0 : World} {HI : List HP} (hr : Rd B w0 HI s.A (s.cells.flatMap celF)) (hl : s.cells.length ≤ 1000000000000)
    (hms : blk gs (.cells #[.int .i64 s.len, .int .i64 s.off, .slice s.A s.cells.length s.cap] 30 (0, 0)) ∈ HI) (hmt : blk gt (.cells #[.int .i64 slot] 3 (0, 0)) ∈ HI) :
    Yaj Tryz.prog 118 [.pointer (some ⟨gs, 0, none⟩), .pointer (some ⟨gt, 0, none⟩)] (inXs s.sch slot) B w0 HI := by
  refine YbN Tryz.func118 Tryz.ntmps118 rfl rfl ?_
  intro l SS X hy L0 h0
  repeat' (first | apply (zs1 ?_) | (apply zg2; refine zs6 ?_) | (apply zg3; refine zs7 ?_) | (apply zg4; refine zs9 ?_) | apply (zs65 ?_) | apply (zs68 ?_) | apply (zs69 ?_) | apply (zs70 ?_) | apply (zs73 ?_) | fail)
  refine Yk (fun (x : Nat × List HP) => [(9, .int .i64 x.1), (8, .int .i64 s.cells.length), (7, .slice s.A s.cells.length s.cap), (0, .func (.yield l) #[] #[]), (1, .pointer (some ⟨gs, 0, none⟩)), (2, .pointer (some ⟨gt, 0, none⟩))]) (fun x => many x.2 :: HI) (fun x => x.1 ≤ s.cells.length ∧ SS (inI s.sch slot x.1).length x.2) (fun x => s.cells.length - x.1) (0, L0) ⟨Nat.zero_le _, h0⟩ ?_ (fun w hw => hw) ?_
  · exact zu
  rintro ⟨i, L⟩ ⟨hi, hS⟩ K hK
  dsimp only at hi hS ⊢
  have hr := hr.cons (X := many L)
  by_cases hlt : i < s.cells.length
  · have hget : s.cells[i]? = some (Ym s.sch i) := YD (s := s.sch) hlt
    have hlt2 : i < s.sch.cells.length := hlt
    iterate 22 (first | apply (zs1 ?_) | apply (zs2 ?_) | (apply zg3; refine zs61 ?_) | (apply zg5; refine zs57 ?_) | (apply (zs17 ?_ ?_) <;> intro _ <;> try (exfalso; omega)) | (apply zg22; refine zs51 ?_) | (apply zg24; (refine zs54 ?_; intro _)) | apply (zs65 ?_) | apply (zs68 ?_) | apply (zs69 ?_) | apply (zs70 ?_) | (apply zg27; refine zs71 ?_) | apply (zs73 ?_) | apply (zs76 ?_) | fail)
    refine OE 7 rfl rfl (by rintro ⟨_, _, _, _, h, _⟩; cases h) ?_
    repeat' (first | apply (zs1 ?_) | (apply zg1; first | refine zs3 ?_ | refine zs4 ?_) | (apply zg2; refine zs6 ?_) | (apply zg3; refine zs7 ?_) | (apply zg7; (refine zs15 ?_ ?_ <;> intro _ <;> try (exfalso; omega))) | apply (zs65 ?_) | fail)
    · rename_i g5 hs
      have hx : (inXs s.sch slot)[(inI s.sch slot i).length]? = some [.int .i64 (i : Int)] := by
        rw [inXs, List.getElem?_map, Yhl hs hlt2]; rfl
      have hY := hy _ _ hx [blk g5 (.cells (celF (Ym s.sch i)).toArray 40 (0, 0))] L hS
      apply Yb9 _ _ (hy := hY)
      · exact Yda (j := 4) (s := 18) rfl rfl rfl
      · exact rfl
      · exact za
      · exact rfl
      · rintro ⟨_, _, _, _, h, _⟩; cases h
      · rintro _ ⟨L', hS', rfl⟩
        repeat' (first | apply (zs1 ?_) | (apply zg1; refine zs4 ?_) | (apply zg6; refine zs11 ?_) | (apply zg13; refine zs30 ?_) | (apply zg20; refine zs47 ?_) | apply (zs65 ?_) | apply (zs68 ?_) | apply (zs70 ?_) | (apply zg27; refine zs72 ?_) | apply (zs76 ?_) | apply (zs79 ?_) | fail)
        apply hK (i + 1, L')
        · exact ⟨by omega, by rw [Yek hs, List.length_append]; exact hS'⟩
        · dsimp only; omega
        · exact zu
        · exact fun w hw => hw.tail
      · rintro _ ⟨L', hX', rfl⟩
        repeat' (first | (apply zg1; refine zs4 ?_) | (apply zg6; refine zs11 ?_) | (apply zg20; refine zs48 ?_) | apply (zs65 ?_) | apply (zs68 ?_) | (apply zg27; refine zs71 ?_) | apply (zs74 ?_) | apply (zs77 ?_) | apply (zs78 ?_) | fail)
        apply Yi (many L' :: HI)
        · exact fun w hw => hw.tail
        apply Ux; exact rfl
        exact .inr ⟨L', hX', rfl⟩
    · rename_i hs
      apply YfW (by rintro ⟨_, _, _, _, h, _⟩; cases h)
      repeat' (first | apply (zs1 ?_) | (apply zg1; refine zs3 ?_) | (apply zg6; refine zs12 ?_) | (apply zg13; refine zs30 ?_) | apply (zs65 ?_) | apply (zs68 ?_) | apply (zs70 ?_) | (apply zg27; refine zs72 ?_) | apply (zs76 ?_) | apply (zs79 ?_) | fail)
      apply hK (i + 1, L)
      · exact ⟨by omega, by rw [Ygi hs]; exact hS⟩
      · dsimp only; omega
      · exact zu
      · exact fun w hw => hw.tail
  · repeat' (first | (apply (zs17 ?_ ?_) <;> intro _ <;> try (exfalso; omega)) | apply (zs65 ?_) | apply (zs68 ?_) | apply (zs69 ?_) | apply (zs70 ?_) | (apply zg27; refine zs72 ?_) | apply (zs75 ?_) | apply (zs80 ?_) | apply (zs81 ?_) | fail)
    apply Zs; exact rfl
    rw [show i = s.cells.length by omega] at hS
    exact .inl ⟨L, by rw [inXs, List.length_map]; exact hS, rfl⟩
theorem Ycy (s : SchM) (slot : Int) {B : Nat} {w0 : World} {H : List HP} {w : World} (hw : St B w0 H w) :
    Calls Tryz.prog 59 [s.val, .int .i64 slot].toArray w (Post B w0 fun v K => ∃ gs gt, v = .func (.func 118) #[] #[.pointer (some ⟨gs, 0, none⟩), .pointer (some ⟨gt, 0, none⟩)] ∧ K = intB gt slot :: schB gs s :: H) := by
  refine Yd Tryz.func59 Tryz.ntmps59 rfl rfl hw ?_
  repeat' (first | apply (zs2 ?_) | (apply zg23; first | (refine zs52 ?_; intro _) | (refine zs53 ?_; intro _)) | apply (zs65 ?_) | apply (zs68 ?_) | apply (zs69 ?_) | apply (zs70 ?_) | apply (zs74 ?_) | (apply zg29; (apply Yr; exact za ; exact rfl)) | fail)
  apply Yc; exact rfl; exact rfl
  exact ⟨_, _, rfl, rfl⟩
end Go.Proofs.YtmalhidldgfeoaaGreatDoor
namespace Go.Eng
open Go.RowKit
theorem YgW {P : Program} {n : Shp} {B : Nat} {w0 : World} {Q : Exit → Act → World → Prop} {env : Env} {H : List HP} {c : Code} {e size k cap : Nat} {A : Option Addr} {xs : List Value} (hm : sl e size A k cap xs ∈ H) (h : k ≤ cap → VC P n B w0 c Q env H) : VC P n B w0 c Q env H := by
  refine ⟨fun a w ha hw => ?_⟩
  have hown := hw.sl hm
  have hkc : k ≤ cap := by
    rcases hown.2 with ⟨e1, e2⟩ | ⟨g, c, cur, e1, _, _, e4, _⟩
    · omega
    · injection e1 with _ _ e3; omega
  exact (h hkc).run a w ha hw
end Go.Eng
namespace Go.Proofs.YtmalhidldgfeoaaGreatDoor
open Go.RowKit Go.Eng Go.Nw
theorem QO (A : Option Addr) (cap size : Nat) : subA A 0 cap size = A := by
  unfold subA
  split
  · rfl
  · cases A with
    | none => rfl
    | some a => simp [Addr.add]
def cels (A : Option Addr) (cap : Nat) (l : List Cel) : HP := sl 40 5 A l.length cap (l.flatMap celF)
theorem YeE (A : Option Addr) (cap : Nat) (l : List Cel) (c : Cel) : sl 40 5 A (l.length + 1) cap (l.flatMap celF ++ celF c) = cels A cap (l ++ [c]) := by
  unfold cels; simp
theorem OS (A : Option Addr) (cap : Nat) (l : List Cel) (c : Cel) : sl 40 5 A (l.length + 1) cap (l.flatMap celF ++ #[Value.int .i64 c.1, .int .i64 c.2.1, .int .i64 c.2.2.1, .int .i64 c.2.2.2.1, .int .i64 c.2.2.2.2].toList) = cels A cap (l ++ [c]) := YeE A cap l c
theorem YcC (l : List Cel) (c : Cel) : l.length + 1 = (l ++ [c]).length := by simp
theorem Rd.cels {B : Nat} {w0 : World} {H : List HP} {A : Option Addr} {cap : Nat} {l : List Cel} (h : cels A cap l ∈ H) : Rd B w0 H A (l.flatMap celF) := .sl h
section
variable {m : Eng.Mode} {n : Shp} {B d : Nat} {w0 : World} {ops : Array Oper} {Q : Exit → Act → World → Prop} {rest : List Oper} {env : Env} {H : List HP} {ty : TypeId} {pos : String} {after : Array Edge}
end
open Go.RowKit Go.Eng Go.Nw
theorem UP {s : Sch} {slot : Int} {k : Nat} {args : List Value} (h : (inXs s slot)[k]? = some args) : ∃ i, (inI s slot s.cells.length)[k]? = some i ∧ i < s.cells.length ∧ args = [.int .i64 (i : Int)] := by
  unfold inXs at h
  rw [List.getElem?_map] at h
  cases hi : (inI s slot s.cells.length)[k]? with
  | none => rw [hi] at h; cases h
  | some i =>
    rw [hi] at h
    cases h
    exact ⟨i, rfl, (V1.1 (List.mem_of_getElem? hi)).1, rfl⟩
open Go.RowKit Go.Eng Go.Nw
section
variable {m : Eng.Mode} {n : Shp} {B d : Nat} {w0 : World} {ops : Array Oper} {Q : Exit → Act → World → Prop} {rest : List Oper} {env : Env} {H : List HP} {ty : TypeId} {pos : String} {after : Array Edge} {x y : Operand}
theorem Xn (a b : List UInt8) (hx : evo env x = some (strV a)) (hy : evo env y = some (strV b)) (hn : Nat.ble (d + 1) n.k = true) (hb : a.length + b.length ≤ 1000000) (h : VL Tryz.prog m n B w0 ops Q rest ((d, strV (a ++ b)) :: env) H) :
    VL Tryz.prog m n B w0 ops Q (⟨some d, .binOp .add 9 x y 9, ty, pos, after, none⟩ :: rest) env H := by
  have hs : ∀ l : List UInt8, (⟨l.toArray⟩ : ByteArray).size = l.length := fun l => by simp [ByteArray.size]
  refine Yg7 hx hy hn (by rw [hs, hs]; omega) ?_
  have e : (⟨a.toArray⟩ : ByteArray) ++ ⟨b.toArray⟩ = ⟨(a ++ b).toArray⟩ := by
    apply ByteArray.ext
    simp
  rw [e]
  exact h
theorem YfS {g : Nat} {cs : Array Value} {fr : Nat × Nat} (hx : evo env x = some (.pointer (some ⟨g, 0, none⟩))) (hm : blk g (.cells cs 132 fr) ∈ H) (hc : cs.size = 2) (hn : Nat.ble (d + 1) n.k = true)
    (h : VL Tryz.prog none n B w0 ops Q rest ((d, .pointer (some ⟨g, 0, none⟩)) :: env) H) : VL Tryz.prog none n B w0 ops Q (⟨some d, .convert 129 245 x, ty, pos, after, none⟩ :: rest) env H := by
  refine Z1 (fun v K' => v = .pointer (some ⟨g, 0, none⟩) ∧ K' = H) rfl rfl hn (fun a w ha hw => ?_) (by rintro _ _ ⟨rfl, rfl⟩; exact h)
  have hb := (hw.blk hm).1
  obtain ⟨j, hj, hjs⟩ := Option.map_eq_some_iff.1 (show (Tryz.prog.info? 132).map (·.size) = some 2 by kernel_rfl)
  have hr := Lib.run_to_unsafe (P := Tryz.prog) w ⟨g, 0, none⟩ Tryz.underlying129 Tryz.underlying245 hj (by rw [hjs]; decide) (show w.shape? g = some (132, 2) by simp [World.shape?, hb, hc]) (Nat.zero_lt_succ 1)
  exact ⟨_, H, w, by simp [execOp, ha.eval hx, hr], hw, rfl, rfl⟩
theorem YfN {g : Nat} {cs : Array Value} {fr : Nat × Nat} (hx : evo env x = some (.pointer (some ⟨g, 0, none⟩))) (hm : blk g (.cells cs 132 fr) ∈ H) (hc : cs.size = 2) (hn : Nat.ble (d + 1) n.k = true)
    (h : VL Tryz.prog none n B w0 ops Q rest ((d, .pointer (some ⟨g, 0, none⟩)) :: env) H) : VL Tryz.prog none n B w0 ops Q (⟨some d, .convert 245 129 x, ty, pos, after, none⟩ :: rest) env H := by
  refine Z1 (fun v K' => v = .pointer (some ⟨g, 0, none⟩) ∧ K' = H) rfl rfl hn (fun a w ha hw => ?_) (by rintro _ _ ⟨rfl, rfl⟩; exact h)
  have hb := (hw.blk hm).1
  obtain ⟨j, hj, hjs⟩ := Option.map_eq_some_iff.1 (show (Tryz.prog.info? 132).map (·.size) = some 2 by kernel_rfl)
  have hr := Lib.run_from_unsafe (P := Tryz.prog) w ⟨g, 0, none⟩ Tryz.underlying245 Tryz.underlying129 hj (show w.shape? g = some (132, 2) by simp [World.shape?, hb, hc]) (by kernel_rfl)
  exact ⟨_, H, w, by simp [execOp, ha.eval hx, hr], hw, rfl, rfl⟩
theorem YfL {v : Value} {tys : Array TypeId} (hx : evo env x = some v) (hn : Nat.ble (d + 1) n.k = true) (h : VL Tryz.prog none n B w0 ops Q rest ((d, v) :: env) H) :
    VL Tryz.prog none n B w0 ops Q (⟨some d, .call ⟨.value (.func 196), #[x], tys⟩, ty, pos, after, none⟩ :: rest) env H := by
  refine Z1 (fun u K' => u = v ∧ K' = H) rfl rfl hn (fun a w ha hw => ⟨v, H, w, ?_, hw, rfl, rfl⟩) (by rintro _ _ ⟨rfl, rfl⟩; exact h)
  have hr := run_callFunc_extern (P := Tryz.prog) Tryz.func196 (by kernel_rfl) (by kernel_rfl) (by kernel_rfl) (e := Extern.AbiNoEscape.same) (by kernel_rfl) #[v] w
  have he : a.eval (.func 196) = .func (.func 196) #[] #[] := rfl
  simp [execOp, resolve, invoke, ha.eval hx, he, Deferred.ofValue, hr, Lib.run_noEscape, Result.andThen]
theorem Yb1 {g : Addr} (hx : evo env x = some (.pointer (some g))) (hy : evo env y = some (.pointer (some g))) (hn : Nat.ble (d + 1) n.k = true) (h : VL Tryz.prog m n B w0 ops Q rest ((d, .bool false) :: env) H) :
    VL Tryz.prog m n B w0 ops Q (⟨some d, .binOp .neq 129 x y 129, ty, pos, after, none⟩ :: rest) env H := by
  obtain ⟨j, hj, hjs⟩ := Option.map_eq_some_iff.1 (show (Tryz.prog.info? 132).map (·.size) = some 2 by kernel_rfl)
  exact YI hx hy hn (fun _ => rfl) (fun w => Lib.run_neq_ptr_same w g Tryz.underlying129 hj) h
end
set_option maxRecDepth 10000 in
theorem O4 (b : Nat) (p v : Value) (hp : p = .pointer none ∨ p = .pointer (some ⟨b, 0, none⟩)) {B : Nat} {w0 : World} {H : List HP} {w : World} (hw : St B w0 (blk b (.cells #[p, v] 132 (0, 0)) :: H) w) :
    Calls Tryz.prog 136 [.pointer (some ⟨b, 0, none⟩)].toArray w (Post B w0 fun u K => u = .tuple #[] ∧ K = blk b (.cells #[.pointer (some ⟨b, 0, none⟩), v] 132 (0, 0)) :: H) := by
  refine Yd Tryz.func136 Tryz.ntmps136 rfl rfl hw ?_
  rcases hp with rfl | rfl
  · skip
    repeat' (first | (apply Yb0; exact rfl; exact rfl; kernel_rfl) | (apply YfS; exact rfl; exact zm; exact rfl; exact rfl) | (apply YfN; exact rfl; exact zm; exact rfl; exact rfl) | (apply YfL; exact rfl; exact rfl) | (apply Yb1; exact rfl; exact rfl; exact rfl) | apply (zs1 ?_) | apply (zs5 ?_) | (apply zg2; refine zs6 ?_) | (apply zg3; refine zs7 ?_) | (apply zg22; refine zs50 ?_) | apply (zs65 ?_) | apply (zs68 ?_) | apply (zs69 ?_) | apply (zs70 ?_) | (apply zg27; refine zs71 ?_) | fail)
    apply Zs; exact rfl; exact ⟨rfl, rfl⟩
  · skip
    repeat' (first | (apply Yb0; exact rfl; exact rfl; kernel_rfl) | (apply Yb1; exact rfl; exact rfl; exact rfl) | apply (zs1 ?_) | apply (zs5 ?_) | (apply zg2; refine zs6 ?_) | (apply zg3; refine zs7 ?_) | apply (zs65 ?_) | apply (zs68 ?_) | apply (zs69 ?_) | apply (zs70 ?_) | (apply zg27; refine zs72 ?_) | apply (zs76 ?_) | fail)
    apply Zs; exact rfl; exact ⟨rfl, rfl⟩
def bdP (b : Nat) (p : Value) (A : Option Addr) (cap : Nat) (l : List UInt8) (H : List HP) : List HP := blk b (.cells #[p, .slice A l.length cap] 132 (0, 0)) :: sl 5 1 A l.length cap (Lib.byteCells l) :: H
set_option maxRecDepth 10000 in
theorem Vb (b : Nat) (p : Value) (hp : p = .pointer none ∨ p = .pointer (some ⟨b, 0, none⟩)) (A : Option Addr) (cap : Nat) (l s : List UInt8) (hl : l.length + s.length ≤ 1000000) {B : Nat} {w0 : World} {H : List HP} {w : World} (hw : St B w0 (bdP b p A cap l H) w) :
    Calls Tryz.prog 76 [.pointer (some ⟨b, 0, none⟩), strV s].toArray w (Post B w0 fun u K => u = .tuple #[.int .i64 s.length, .nilIface] ∧ ∃ A' cap', K = bdP b (.pointer (some ⟨b, 0, none⟩)) A' cap' (l ++ s) H) := by
  have hs : (⟨s.toArray⟩ : ByteArray).size = s.length := by simp [ByteArray.size]
  refine Yd Tryz.func76 Tryz.ntmps76 rfl rfl hw ?_
  unfold bdP
  repeat' (first | apply (zs1 ?_) | apply (zs2 ?_) | apply (zs65 ?_) | apply (zs68 ?_) | apply (zs69 ?_) | apply (zs70 ?_) | fail)
  apply Yo _ YiF
  exact za
  exact rfl
  exact fun _ hw => (O4 b p _ hp (hw))
  rintro _ _ ⟨rfl, rfl⟩
  repeat' (first | (apply Ya4 T (e := 5); exact rfl; exact rfl; exact rfl; kernel_rfl; exact rfl; exact rfl; (intro _ _; exact zd); (rw [hs]; omega); intro A' cap') | apply (zs1 ?_) | apply (zs2 ?_) | apply (zs5 ?_) | (apply zg2; refine zs6 ?_) | (apply zg3; refine zs7 ?_) | (apply zg4; refine zs14 ?_) | (apply zg22; refine zs50 ?_) | apply (zs65 ?_) | apply (zs68 ?_) | apply (zs69 ?_) | apply (zs70 ?_) | apply (zs74 ?_) | fail)
  have e1 : Lib.byteCells l ++ Lib.strCells ⟨s.toArray⟩ = Lib.byteCells (l ++ s) := by
    unfold Lib.byteCells Lib.strCells
    rw [List.map_append]
  have e2 : l.length + (⟨s.toArray⟩ : ByteArray).size = (l ++ s).length := by rw [hs, List.length_append]
  apply Yp; exact rfl; exact rfl; exact rfl
  refine ⟨by rw [hs], A', cap', ?_⟩
  rw [e1, e2]
theorem Yig {b : Nat} {p : Value} {A : Option Addr} {cap : Nat} {l : List UInt8} {B : Nat} {w0 w : World} {H : List HP} (hp : p = .pointer none ∨ p = .pointer (some ⟨b, 0, none⟩)) (hw : St B w0 (bdP b p A cap l H) w) : Lib.IsBuilder 132 5 B b (Lib.byteCells l) w := by
  obtain ⟨_, _, S1, S2, k1, k2, k3, ⟨k4, k5⟩, S3, S4, j1, j2, j3, ⟨⟨j4, j5⟩, j6⟩, j7⟩ := hw
  have hl : (Lib.byteCells l).length = l.length := by unfold Lib.byteCells; rw [List.length_map]
  have hat : Lib.BuilderAt 132 5 B b p (Lib.byteCells l) w := by
    refine ⟨(k1 b k4).1, .slice A l.length cap, k5, ⟨by rw [hl]; omega, ?_⟩, ?_⟩
    · rw [hl]
      rcases j5 with j5 | ⟨g, c, cur, e1, e2, e3⟩
      · exact .inl j5
      · refine .inr ⟨g, c, cur, e1, ?_, e3⟩
        injection e1 with e1
        exact (k2 g (j1 g (j6 _ e1))).1
    · intro e
      cases A with
      | none => cases e
      | some a =>
        simp only [Value.ownBlock, Option.some.injEq] at e
        have := j6 a rfl
        rw [e] at this
        exact k3 b k4 (j1 b this)
  rcases hp with rfl | rfl
  · exact .inl hat
  · exact .inr hat
theorem W6 {b : Nat} {p : Value} {A : Option Addr} {cap : Nat} {l : List UInt8} {B : Nat} {w0 w : World} {H : List HP} (hp : p = .pointer none ∨ p = .pointer (some ⟨b, 0, none⟩)) (hw : St B w0 (bdP b p A cap l H) w) :
    Calls Tryz.prog 78 [.pointer (some ⟨b, 0, none⟩)].toArray w (Post B w0 fun v K => v = strV l ∧ K = []) := by
  refine (Tryz.Builder_String_any B b l w (Yig hp hw) hw.le).mono ?_
  rintro e w' ⟨rfl, hb⟩
  exact ⟨_, [], rfl, ⟨hw.below.trans hb, Nat.le_trans hw.le hb.size, trivial⟩, rfl, rfl⟩
theorem UQ {n : Int} (h : 0 ≤ n ∧ n < 10000) : (Lib.itoa n).length ≤ 4 := by
  rw [Z9 h.1]; exact UI (by omega)
theorem Vn {w : List UInt8} : ∀ {l : List Int}, (∀ n ∈ l, 0 ≤ n ∧ n < 10000) → (Yw w l).length ≤ w.length + 5 * l.length
  | [], _ => by simp [Yw]
  | n :: l, h => by
    have ih := Vn (w := w) (l := l) fun m hm => h m (List.mem_cons_of_mem _ hm)
    have h1 := UQ (h n List.mem_cons_self)
    unfold Yw at ih ⊢
    simp only [List.flatMap_cons, List.length_append, List.length_cons] at ih ⊢
    omega
theorem U9 (w : List UInt8) (l : List Int) (n : Int) : Yw w (l ++ [n]) = Yw w l ++ ([32] ++ Lib.itoa n) := by
  unfold Yw; simp
set_option maxRecDepth 10000 in
theorem YaO (word : List UInt8) (l : List Int) (h : ∀ n ∈ l, 0 ≤ n ∧ n < 10000) (h5 : l.length ≤ 100) (hwd : word.length ≤ 100) {A : Option Addr} {cap B : Nat} {w0 : World} {H : List HP} {w : World} (ht : TabsB B w0) (hr : Rd B w0 H A (l.flatMap numF)) (hw : St B w0 H w) :
    Calls Tryz.prog 104 [strV word, .slice A l.length cap].toArray w (Post B w0 fun v K => v = strV (YM word l) ∧ K = H) := by
  refine Yd Tryz.func104 Tryz.ntmps104 rfl rfl hw ?_
  repeat' (first | apply (zs1 ?_) | apply (zs2 ?_) | (apply zg4; refine zs9 ?_) | apply (zs65 ?_) | apply (zs68 ?_) | apply (zs69 ?_) | apply (zs70 ?_) | apply (zs73 ?_) | fail)
  refine Yk (fun (i : Nat) => [(9, .int .i64 i), (8, .int .i64 l.length), (7, .slice A l.length cap), (0, strV (Yw word (l.take i)))]) (fun _ => H) (fun i => i ≤ l.length) (fun i => l.length - i) 0 (Nat.zero_le _) ?_ (fun w hw => hw) ?_
  · have e0 : Yw word (l.take 0) = word := by simp [Yw]
    rw [e0]
    exact zu
  intro i hi K hK
  have hbl := Vn (w := word) (l := l.take i) fun n hn => h n (List.mem_of_mem_take hn)
  have hlt0 : (l.take i).length ≤ 100 := by rw [List.length_take]; omega
  by_cases hlt : i < l.length
  · obtain ⟨n, hn⟩ : ∃ n, l[i]? = some n := ⟨_, List.getElem?_eq_getElem hlt⟩
    have hnb := h n (List.mem_of_getElem? hn)
    have hil := UQ hnb
    repeat' (first | ((first | apply Ya Yas | apply Yb Yas); exact za; exact rfl; exact fun _ hw => (Wm n (by omega) (by omega) ht hw)) | (apply Xn [32] (Lib.itoa n); exact rfl; exact rfl; exact rfl; (show 1 + _ ≤ _; omega)) | (apply Xn (Yw word (l.take i)) ([32] ++ Lib.itoa n); exact rfl; exact rfl; exact rfl; (rw [List.length_append]; show _ + (1 + _) ≤ _; omega)) | apply (zs1 ?_) | apply (zs2 ?_) | (apply zg3; refine zs60 ?_) | (apply zg5; refine zs57 ?_) | (apply (zs17 ?_ ?_) <;> intro _ <;> try (exfalso; omega)) | (apply zg13; refine zs30 ?_) | apply (zs65 ?_) | apply (zs68 ?_) | apply (zs69 ?_) | apply (zs70 ?_) | (apply zg27; refine zs71 ?_) | apply (zs73 ?_) | apply (zs76 ?_) | apply (zs79 ?_) | fail)
    apply hK (i + 1)
    · show i + 1 ≤ l.length
      omega
    · omega
    · rw [List.take_add_one, hn, Option.toList_some, U9]
      exact zu
    · exact fun w hw => hw
  · skip
    repeat' (first | (apply Xn (Yw word (l.take i)) [10]; exact rfl; exact rfl; exact rfl; (show _ + 1 ≤ _; omega)) | apply (zs1 ?_) | apply (zs2 ?_) | (apply (zs17 ?_ ?_) <;> intro _ <;> try (exfalso; omega)) | apply (zs65 ?_) | apply (zs68 ?_) | apply (zs69 ?_) | apply (zs70 ?_) | (apply zg27; refine zs72 ?_) | apply (zs74 ?_) | apply (zs75 ?_) | apply (zs80 ?_) | apply (zs81 ?_) | fail)
    apply Yc; exact rfl; exact rfl
    rw [show i = l.length by omega, List.take_length]
    exact ⟨rfl, rfl⟩
def Zc (s : Sch) (i : Nat) : List UInt8 := YM wordS [s.len, s.off] ++ (s.cells.take i).flatMap fun c => YM wordC (nums c)
theorem W8 {s : Sch} {i : Nat} (h : i < s.cells.length) : Zc s (i + 1) = Zc s i ++ YM wordC (nums (Ym s i)) := by
  unfold Zc
  rw [List.take_add_one, YD h, Option.toList_some, List.flatMap_append, List.append_assoc]
  simp
theorem X3 {w : List UInt8} {l : List Int} (h : ∀ n ∈ l, 0 ≤ n ∧ n < 10000) : (YM w l).length ≤ w.length + 5 * l.length + 1 := by
  unfold YM
  have := Vn (w := w) h
  rw [List.length_append]
  show _ + 1 ≤ _
  omega
theorem QP {s : Sch} (h : Frm s) : ∀ i, i ≤ s.cells.length → (Zc s i).length ≤ 100 + 40 * i
  | 0, _ => by
    have h1 := X3 (w := wordS) (Wl h).1
    unfold Zc
    simp only [List.take_zero, List.flatMap_nil, List.append_nil]
    have : wordS.length = 8 := rfl
    simp only [List.length_cons, List.length_nil] at h1
    omega
  | i + 1, hi => by
    have ih := QP h i (by omega)
    have h1 := X3 (w := wordC) ((Wl h).2 _ (Wa (s := s) (i := i) (by omega)))
    rw [W8 (by omega), List.length_append]
    have : wordC.length = 4 := rfl
    have h2 : (nums (Ym s i)).length = 5 := rfl
    omega
set_option maxRecDepth 10000 in
set_option maxHeartbeats 1000000 in
theorem Ygv (s : SchM) {B : Nat} {w0 : World} {w : World} (ht : TabsB B w0) (hr : Rd B w0 [] s.A (s.cells.flatMap celF)) (hl : s.cells.length ≤ 1000000000000) (hw : St B w0 [] w) :
    Calls Tryz.prog 47 [s.val].toArray w (Post B w0 fun v _ => v = .tuple #[strV (J7 s.sch).1, .int .i64 (J7 s.sch).2]) := by
  refine Yd Tryz.func47 Tryz.ntmps47 rfl rfl hw ?_
  have e1 : s.sch.cells = s.cells := rfl
  cases hf : XY s.sch with
  | false =>
    repeat' (first | ((first | apply Ya en58 | apply Yb en58); exact za; exact rfl; exact fun _ hw => (Yao (congrArg Value.bool hf) (fun _ hw => YaE s hr.cons hl hw) hw)) | apply (zs2 ?_) | (apply zg3; refine zs8 ?_) | (apply zg20; refine zs48 ?_) | (apply zg23; (refine zs52 ?_; intro _)) | apply (zs65 ?_) | apply (zs68 ?_) | apply (zs69 ?_) | apply (zs70 ?_) | (apply zg27; refine zs71 ?_) | apply (zs74 ?_) | apply (zs77 ?_) | fail)
    apply Yp; exact rfl; exact rfl; exact rfl
    rw [J7, if_pos hf]
  | true =>
    have hfr := Qg.1 hf
    have hle : s.cells.length ≤ 512 := hfr.few
    have hnm := Wl hfr
    have hln1 := X3 (w := wordS) hnm.1
    repeat' (first | ((first | apply Ya en58 | apply Yb en58); exact za; exact rfl; exact fun _ hw => (Yao (congrArg Value.bool hf) (fun _ hw => YaE s hr.cons hl hw) hw)) | apply (zs2 ?_) | (apply zg2; refine zs6 ?_) | (apply zg3; first | refine zs7 ?_ | refine zs8 ?_) | (apply zg20; refine zs47 ?_) | (apply zg23; (refine zs52 ?_; intro _)) | (apply zg24; (refine zs54 ?_; intro _)) | (apply zg26; (refine zs56 ?_; intro _)) | apply (zs65 ?_) | apply (zs68 ?_) | apply (zs69 ?_) | apply (zs70 ?_) | (apply zg27; refine zs72 ?_) | apply (zs76 ?_) | fail)
    rename_i gs gb gl
    have hrl : Rd B w0 [blk gl (.cells #[.int .i64 s.len, .int .i64 s.off] 3 (0, 0)), blk gb (.cells (Value.agg #[.pointer none, .slice none 0 0]).cells 132 (0, 0)), blk gs (.cells #[.int .i64 s.len, .int .i64 s.off, .slice s.A s.cells.length s.cap] 30 (0, 0))] (some ⟨gl, 0, none⟩) ([s.sch.len, s.sch.off].flatMap numF) := Rd.blk (cs := #[.int .i64 s.len, .int .i64 s.off]) (.head _)
    first | apply Ya Yd3 | apply Yb Yd3
    exact za
    exact rfl
    exact fun _ hw => (YaO wordS [s.sch.len, s.sch.off] hnm.1 (by show 2 ≤ 100; decide) (by decide) ht hrl hw)
    apply Uv (bdP gb (.pointer none) none 0 [] [blk gs (.cells #[.int .i64 s.len, .int .i64 s.off, .slice s.A s.cells.length s.cap] 30 (0, 0))])
    · unfold bdP
      intro w hw
      have h5 : St B w0 [blk gb (.cells (Value.agg #[.pointer none, .slice none 0 0]).cells 132 (0, 0)), blk gs (.cells #[.int .i64 s.len, .int .i64 s.off, .slice s.A s.cells.length s.cap] 30 (0, 0))] w := by
        revert w
        exact zk
      exact (h5.nilSlice _ _).perm (.swap _ _ _)
    apply Yo _ en76
    exact za
    exact rfl
    exact fun _ hw => (Vb gb _ (.inl rfl) none 0 [] (YM wordS [s.sch.len, s.sch.off]) (by simp only [List.length_nil]; have : wordS.length = 8 := rfl; simp only [List.length_cons, List.length_nil] at hln1; omega) (hw))
    rintro _ _ ⟨rfl, A1, cap1, rfl⟩
    unfold bdP
    repeat' (first | apply (zs1 ?_) | (apply zg2; refine zs6 ?_) | (apply zg3; refine zs7 ?_) | (apply zg4; refine zs9 ?_) | apply (zs65 ?_) | apply (zs68 ?_) | apply (zs69 ?_) | apply (zs70 ?_) | apply (zs73 ?_) | fail)
    refine Yk (fun (z : Nat × Option Addr × Nat) => [(21, .int .i64 z.1), (20, .int .i64 s.cells.length), (19, .slice s.A s.cells.length s.cap), (4, .pointer (some ⟨gb, 0, none⟩))]) (fun z => bdP gb (.pointer (some ⟨gb, 0, none⟩)) z.2.1 z.2.2 (Zc s.sch z.1) [blk gs (.cells #[.int .i64 s.len, .int .i64 s.off, .slice s.A s.cells.length s.cap] 30 (0, 0))]) (fun z => z.1 ≤ s.cells.length) (fun z => s.cells.length - z.1) (0, A1, cap1) (Nat.zero_le _) ?_ ?_ ?_
    · exact zu
    · have e0 : Zc s.sch 0 = [] ++ YM wordS [s.sch.len, s.sch.off] := by unfold Zc; simp
      rw [e0]
      unfold bdP
      exact fun w hw => hw
    rintro ⟨i, A2, cap2⟩ hi K hK
    dsimp only at hi ⊢
    have htl := QP hfr i hi
    by_cases hlt : i < s.cells.length
    · have hget : s.cells[i]? = some (Ym s.sch i) := YD (s := s.sch) hlt
      have hnc := hnm.2 _ (Wa (s := s.sch) hlt)
      have hln := X3 (w := wordC) hnc
      have hr' : Rd B w0 (bdP gb (.pointer (some ⟨gb, 0, none⟩)) A2 cap2 (Zc s.sch i) [blk gs (.cells #[.int .i64 s.len, .int .i64 s.off, .slice s.A s.cells.length s.cap] 30 (0, 0))]) s.A (s.cells.flatMap celF) := hr.cons.cons.cons
      repeat' (first | ((first | apply Ya Yf9 | apply Yb Yf9); exact za; exact rfl; exact fun _ hw => (UU _ hw)) | (apply Uu T (e := 3); exact rfl; exact rfl; exact rfl) | (apply zg3; first | refine zs8 ?_ | refine zs61 ?_) | (apply zg5; refine zs57 ?_) | (apply (zs17 ?_ ?_) <;> intro _ <;> try (exfalso; omega)) | (apply zg22; refine zs51 ?_) | (apply zg24; (refine zs54 ?_; intro _)) | apply (zs65 ?_) | apply (zs68 ?_) | apply (zs69 ?_) | apply (zs70 ?_) | (apply zg27; refine zs71 ?_) | apply (zs73 ?_) | apply (zs76 ?_) | fail)
      rename_i gc ga
      have hra : ∀ X, Rd B w0 (blk ga (.cells (celF (Ym s.sch i)).toArray 183 (0, 0)) :: X) (some ⟨ga, 0, none⟩) ((nums (Ym s.sch i)).flatMap numF) := fun X => Rd.blk (cs := (celF (Ym s.sch i)).toArray) (.head _)
      first | apply Ya Yd3 | apply Yb Yd3
      exact za
      exact rfl
      exact fun _ hw => (YaO wordC (nums (Ym s.sch i)) hnc (by show 5 ≤ 100; decide) (by decide) ht (hra _) hw)
      apply Uv (bdP gb (.pointer (some ⟨gb, 0, none⟩)) A2 cap2 (Zc s.sch i) [blk gs (.cells #[.int .i64 s.len, .int .i64 s.off, .slice s.A s.cells.length s.cap] 30 (0, 0))])
      · exact fun w hw => hw.tail.tail
      have h5n : (nums (Ym s.sch i)).length = 5 := rfl
      have h4w : wordC.length = 4 := rfl
      apply Yo _ en76
      exact za
      exact rfl
      exact fun _ hw => (Vb gb _ (.inr rfl) A2 cap2 (Zc s.sch i) (YM wordC (nums (Ym s.sch i))) (by omega) (hw))
      rintro _ _ ⟨rfl, A3, cap3, rfl⟩
      rw [← W8 hlt]
      repeat' (first | apply (zs1 ?_) | (apply zg13; refine zs30 ?_) | apply (zs65 ?_) | apply (zs68 ?_) | apply (zs70 ?_) | apply (zs79 ?_) | fail)
      apply hK (i + 1, A3, cap3)
      · show i + 1 ≤ s.cells.length
        omega
      · dsimp only; omega
      · exact zu
      · exact fun w hw => hw
    · repeat' (first | (apply (zs17 ?_ ?_) <;> intro _ <;> try (exfalso; omega)) | apply (zs65 ?_) | apply (zs68 ?_) | apply (zs69 ?_) | apply (zs70 ?_) | (apply zg27; refine zs72 ?_) | apply (zs75 ?_) | apply (zs80 ?_) | apply (zs81 ?_) | fail)
      apply Yo _ en78
      exact za
      exact rfl
      exact fun _ hw => (W6 (l := Zc s.sch i) (.inr rfl) (hw))
      rintro _ _ ⟨rfl, rfl⟩
      repeat' (first | apply (zs2 ?_) | apply (zs65 ?_) | apply (zs68 ?_) | apply (zs74 ?_) | fail)
      apply Yp; exact rfl; exact rfl; exact rfl
      rw [J7, if_neg (by simp [hf])]
      rw [show i = s.sch.cells.length from (by have : s.sch.cells.length = s.cells.length := rfl; omega), show Zc s.sch s.sch.cells.length = YgO s.sch from (by unfold Zc YgO; rw [List.take_length])]
theorem YdE (s : SchM) {B : Nat} {w0 : World} {H : List HP} {w : World} (ht : TabsB B w0) (hr : Rd B w0 H s.A (s.cells.flatMap celF)) (hl : s.cells.length ≤ 1000000000000) (hw : St B w0 H w) :
    Calls Tryz.prog 47 [s.val].toArray w (Post B w0 fun v K => v = .tuple #[strV (J7 s.sch).1, .int .i64 (J7 s.sch).2] ∧ K = H) :=
  WE hw (Ygv s (ht.here hw) (hr.here hw) hl (St.start w))
open Go.RowKit Go.Eng Go.Nw
set_option maxRecDepth 10000 in
theorem Yck (l : List Cel) (hlen : l.length ≤ 1000000) {A : Option Addr} {cap B : Nat} {w0 : World} {H : List HP} {w : World} (hr : Rd B w0 H A (l.flatMap celF)) (hw : St B w0 H w) :
    Calls Tryz.prog 64 [.slice A l.length cap].toArray w (Post B w0 fun v K => ∃ A' cap', v = .slice A' l.length cap' ∧ K = cels A' cap' l :: H) := by
  cases A with
  | none =>
    have hl : l = [] := by
      cases l with
      | nil => rfl
      | cons x l =>
        obtain ⟨g, o, e, _⟩ := hr w hw 0 _ rfl
        cases e
    subst hl
    refine Yd Tryz.func64 Tryz.ntmps64 rfl rfl hw ?_
    repeat' (first | (apply VS; exact rfl; exact rfl; exact rfl) | apply (zs1 ?_) | apply (zs2 ?_) | apply (zs65 ?_) | apply (zs68 ?_) | apply (zs69 ?_) | apply (zs70 ?_) | (apply zg27; refine zs71 ?_) | apply (zs74 ?_) | apply (zs77 ?_) | fail)
    apply WB 40 5; apply Yc; exact rfl; exact rfl; exact ⟨none, 0, rfl, rfl⟩
  | some a =>
    refine Yd Tryz.func64 Tryz.ntmps64 rfl rfl hw ?_
    repeat' (first | (apply VS; exact rfl; exact rfl; exact rfl) | (apply Y8 T; exact rfl; exact rfl; intro g2) | apply (zs1 ?_) | apply (zs2 ?_) | apply (zs65 ?_) | apply (zs68 ?_) | apply (zs69 ?_) | apply (zs70 ?_) | (apply zg27; refine zs72 ?_) | apply (zs76 ?_) | fail)
    apply Us T (f := celF) (l2 := l) (e := 40) (size := 5) (xs := []); exact rfl; exact rfl; exact rfl; exact hr.cons; exact (fun _ => rfl); exact (fun _ => rfl); exact rfl; (intro _ _; exact zd); omega; intro A' cap'
    repeat' (first | apply (zs2 ?_) | apply (zs65 ?_) | apply (zs68 ?_) | apply (zs74 ?_) | fail)
    rw [Nat.zero_add, List.nil_append]
    apply Yc; exact rfl; exact rfl; exact ⟨A', cap', rfl, rfl⟩
open Go.RowKit Go.Eng Go.Nw
theorem Qj {α : Type} (p : α → Bool) : ∀ (l : List α) (k : Int), (l.filter (fun a => !p a) = l ∧ Yt p l k = -1) ∨ ∃ j, j < l.length ∧ Yt p l k = k + j ∧ (l.take j).filter (fun a => !p a) = l.take j ∧ ∃ a, l[j]? = some a ∧ p a = true
  | [], _ => .inl ⟨rfl, rfl⟩
  | a :: l, k => by
    unfold Yt
    cases h : p a with
    | true => exact .inr ⟨0, by simp, by simp, rfl, a, rfl, h⟩
    | false =>
      rw [if_neg (by decide)]
      have hn : (!p a) = true := by rw [h]; rfl
      rcases Qj p l (k + 1) with ⟨h1, h2⟩ | ⟨j, h1, h2, h3, b, h4, h5⟩
      · exact .inl ⟨by rw [List.filter_cons, if_pos hn, h1], h2⟩
      · refine .inr ⟨j + 1, by simp only [List.length_cons]; omega, by rw [h2]; omega, ?_, b, h4, h5⟩
        rw [List.take_succ_cons, List.filter_cons, if_pos hn, h3]
theorem Ql (p : Cel → Bool) (l : List Cel) (f : Nat) (cs : List Value) (hen : ∀ xs w, (callFunc f xs).run Tryz.prog w = .ok (.enter f xs) w) (hlen : l.length ≤ 1000) {A : Option Addr} {cap B : Nat} {w0 : World} {H : List HP} {w : World} (hr : Rd B w0 H A (l.flatMap celF))
    (hp : ∀ a ∈ l, ∀ w, St B w0 H w → Calls Tryz.prog f ([celV a] ++ cs).toArray w (Post B w0 fun v K => v = .bool (p a) ∧ K = H)) (hw : St B w0 H w) :
    Calls Tryz.prog 229 [.slice A l.length cap, .func (.func f) #[] cs.toArray].toArray w (Post B w0 fun v K => v = .int .i64 (Yt p l 0) ∧ K = H) := by
  refine Yd Tryz.func229 Tryz.ntmps229 rfl rfl hw ?_
  repeat' (first | apply (zs1 ?_) | apply (zs2 ?_) | (apply zg4; refine zs9 ?_) | apply (zs65 ?_) | apply (zs68 ?_) | apply (zs69 ?_) | apply (zs70 ?_) | apply (zs73 ?_) | fail)
  refine Yk (fun (k : Nat) => [(8, .int .i64 k), (7, .int .i64 l.length), (0, .slice A l.length cap), (1, .func (.func f) #[] cs.toArray)]) (fun _ => H) (fun k => k ≤ l.length ∧ Yt p l 0 = Yt p (l.drop k) k) (fun k => l.length - k) 0 ⟨Nat.zero_le _, by simp⟩ ?_ (fun w hw => hw) ?_
  · exact zu
  rintro k ⟨hk, hi⟩ K hK
  by_cases hlt : k < l.length
  · obtain ⟨a, ha⟩ : ∃ a, l[k]? = some a := ⟨_, List.getElem?_eq_getElem hlt⟩
    have hpa := hp a (List.mem_of_getElem? ha)
    rw [JL p l ha] at hi
    repeat' (first | ((first | apply YG (cs := cs)); exact rfl; exact hen; exact za; exact rfl; exact fun _ hw => hpa _ hw) | apply (zs1 ?_) | apply (zs2 ?_) | (apply zg3; refine zs61 ?_) | (apply zg5; refine zs57 ?_) | (apply (zs17 ?_ ?_) <;> intro _ <;> try (exfalso; omega)) | apply (zs65 ?_) | apply (zs68 ?_) | apply (zs69 ?_) | apply (zs70 ?_) | (apply zg27; refine zs71 ?_) | apply (zs73 ?_) | apply (zs76 ?_) | fail)
    cases hpv : p a
    · rw [hpv] at hi
      repeat' (first | apply (zs1 ?_) | (apply zg13; refine zs30 ?_) | apply (zs65 ?_) | apply (zs68 ?_) | apply (zs70 ?_) | (apply zg27; refine zs72 ?_) | apply (zs76 ?_) | apply (zs79 ?_) | fail)
      apply hK (k + 1)
      · exact ⟨by omega, hi⟩
      · omega
      · exact zu
      · exact fun w hw => hw
    · rw [hpv] at hi
      repeat' (first | apply (zs1 ?_) | apply (zs2 ?_) | apply (zs65 ?_) | apply (zs68 ?_) | apply (zs69 ?_) | apply (zs70 ?_) | (apply zg27; refine zs71 ?_) | apply (zs74 ?_) | apply (zs77 ?_) | apply (zs78 ?_) | fail)
      apply Yc; exact rfl; exact rfl
      exact ⟨by rw [hi]; rfl, rfl⟩
  · repeat' (first | apply (zs2 ?_) | (apply (zs17 ?_ ?_) <;> intro _ <;> try (exfalso; omega)) | apply (zs65 ?_) | apply (zs68 ?_) | apply (zs69 ?_) | apply (zs70 ?_) | (apply zg27; refine zs72 ?_) | apply (zs74 ?_) | apply (zs75 ?_) | apply (zs80 ?_) | apply (zs81 ?_) | fail)
    apply Yc; exact rfl; exact rfl
    rw [hi, List.drop_eq_nil_of_le (by omega)]
    exact ⟨rfl, rfl⟩
structure Kc where
  i : Nat
  j : Nat
  M : List Cel
set_option maxRecDepth 10000 in
set_option maxHeartbeats 1000000 in
theorem Ycp (p : Cel → Bool) (l : List Cel) (f : Nat) (cs : List Value) (hen : ∀ xs w, (callFunc f xs).run Tryz.prog w = .ok (.enter f xs) w) (hlen : l.length ≤ 1000) {A : Option Addr} {cap B : Nat} {w0 : World} {H : List HP} {w : World}
    (hp : ∀ a ∈ l, ∀ (X : List HP) w, St B w0 (X ++ H) w → Calls Tryz.prog f ([celV a] ++ cs).toArray w (Post B w0 fun v K => v = .bool (p a) ∧ K = X ++ H)) (hw : St B w0 (cels A cap l :: H) w) :
    Calls Tryz.prog 286 [.slice A l.length cap, .func (.func f) #[] cs.toArray].toArray w (Post B w0 fun v K => v = .slice A (l.filter fun a => !p a).length cap ∧ K = cels A cap (l.filter fun a => !p a) :: H) := by
  refine Yd Tryz.func286 Tryz.ntmps286 rfl rfl hw ?_
  refine YgW (e := 40) (size := 5) (A := A) (xs := l.flatMap celF) (k := l.length) (cap := cap) List.mem_cons_self fun hcap => ?_
  have hif := fun {w : World} (hw : St B w0 (cels A cap l :: H) w) => Ql p l f cs hen hlen (cap := cap) (.sl List.mem_cons_self) (fun a ha w hw => hp a ha [cels A cap l] w hw) hw
  rcases Qj p l 0 with ⟨h1, h2⟩ | ⟨i0, h1, h2, h3, a0, h4, h5⟩
  · rw [h2] at hif
    rw [h1]
    repeat' (first | ((first | apply Ya Yaw | apply Yb Yaw); exact za; exact rfl; exact fun _ hw => (hif hw)) | apply (zs1 ?_) | apply (zs2 ?_) | (apply zg7; (refine zs15 ?_ ?_ <;> intro _ <;> try (exfalso; omega))) | apply (zs65 ?_) | apply (zs68 ?_) | apply (zs69 ?_) | apply (zs70 ?_) | (apply zg27; refine zs71 ?_) | apply (zs74 ?_) | apply (zs77 ?_) | fail)
    apply Yc; exact rfl; exact rfl; exact ⟨rfl, rfl⟩
  rw [h2, Int.zero_add] at hif
  repeat' (first | ((first | apply Ya Yaw | apply Yb Yaw); exact za; exact rfl; exact fun _ hw => (hif hw)) | apply (zs1 ?_) | apply (zs2 ?_) | (apply zg7; (refine zs15 ?_ ?_ <;> intro _ <;> try (exfalso; omega))) | (apply zg13; refine zs30 ?_) | apply (zs65 ?_) | apply (zs68 ?_) | apply (zs69 ?_) | apply (zs70 ?_) | (apply zg27; refine zs72 ?_) | apply (zs73 ?_) | apply (zs76 ?_) | fail)
  refine Yk (fun (z : Kc) => [(6, .int .i64 z.j), (5, .int .i64 z.i), (0, .slice A z.M.length cap), (1, .func (.func f) #[] cs.toArray)]) (fun z => cels A cap z.M :: H) (fun z => z.M.length = l.length ∧ z.i < z.j ∧ z.j ≤ l.length ∧ z.M.take z.i = (l.take z.j).filter (fun a => !p a) ∧ z.M.drop z.j = l.drop z.j) (fun z => l.length - z.j) ⟨i0, i0 + 1, l⟩ ⟨rfl, by simp only; omega, by simp only; omega, ?_, rfl⟩ ?_ (fun w hw => hw) ?_
  · simp only
    rw [List.take_add_one, h4, List.filter_append, h3]
    simp [h5]
  · exact zu
  rintro ⟨i, j, M⟩ ⟨hM, hij, hj, ht, hd⟩ K hK
  simp only at hM hij hj ht hd ⊢
  unfold cels
  by_cases hlt : j < l.length
  · obtain ⟨a, ha⟩ : ∃ a, l[j]? = some a := ⟨_, List.getElem?_eq_getElem hlt⟩
    have hMa : M[j]? = some a := by
      have e1 : (M.drop j)[0]? = (l.drop j)[0]? := by rw [hd]
      rw [List.getElem?_drop, List.getElem?_drop, Nat.add_zero, ha] at e1
      exact e1
    have hpa := fun {X1 X2 : HP} {w : World} (hw : St B w0 (X1 :: X2 :: H) w) => hp a (List.mem_of_getElem? ha) [X1, X2] w hw
    have hft : (l.take (j + 1)).filter (fun a => !p a) = M.take i ++ (if p a = true then [] else [a]) := by
      rw [List.take_add_one, ha, List.filter_append, ht]
      cases hpv : p a <;> simp [hpv]
    obtain ⟨b, hb⟩ : ∃ b, p a = b := ⟨_, rfl⟩
    rw [hb] at hft hpa
    have hd1 : ∀ x : Cel, (M.set i x).drop (j + 1) = l.drop (j + 1) := fun x => by
      rw [List.drop_set_of_lt (by omega), ← List.drop_drop, ← List.drop_drop, hd]
    cases b with
    | true =>
      rw [if_pos rfl, List.append_nil] at hft
      repeat' (first | ((first | apply YG (cs := cs)); exact rfl; exact hen; exact za; exact rfl; exact fun _ hw => hpa hw) | apply (zs1 ?_) | apply (zs2 ?_) | (apply zg3; first | refine zs8 ?_ | refine zs61 ?_) | (apply zg4; refine zs9 ?_) | (apply zg5; refine zs10 ?_) | (apply (zs17 ?_ ?_) <;> intro _ <;> try (exfalso; omega)) | (apply zg13; refine zs30 ?_) | (apply zg20; refine zs47 ?_) | (apply zg22; refine zs51 ?_) | (apply zg24; (refine zs54 ?_; intro _)) | apply (zs65 ?_) | apply (zs68 ?_) | apply (zs69 ?_) | apply (zs70 ?_) | (apply zg27; first | refine zs71 ?_ | refine zs72 ?_) | apply (zs73 ?_) | apply (zs76 ?_) | apply (zs79 ?_) | fail)
      apply hK ⟨i, j + 1, M⟩
      · exact ⟨hM, by simp only; omega, by simp only; omega, hft.symm, by simp only; rw [← List.drop_drop, ← List.drop_drop, hd]⟩
      · simp only; omega
      · exact zu
      · exact fun w hw => hw.tail
    | false =>
      rw [if_neg (by decide)] at hft
      have hMl : (M.set i a).length = M.length := List.length_set
      repeat' (first | ((first | apply YG (cs := cs)); exact rfl; exact hen; exact za; exact rfl; exact fun _ hw => hpa hw) | (apply QY T (f := celF) (l := M) (i := i) (a := a); exact rfl; exact rfl; exact rfl; exact zd; exact fun _ => rfl; exact rfl; exact rfl; exact rfl; omega) | apply (zs1 ?_) | apply (zs2 ?_) | (apply zg3; first | refine zs8 ?_ | refine zs61 ?_) | (apply zg4; refine zs9 ?_) | (apply zg5; refine zs10 ?_) | (apply (zs17 ?_ ?_) <;> intro _ <;> try (exfalso; omega)) | (apply zg13; refine zs30 ?_) | (apply zg20; refine zs48 ?_) | (apply zg22; refine zs51 ?_) | (apply zg24; (refine zs54 ?_; intro _)) | apply (zs65 ?_) | apply (zs68 ?_) | apply (zs69 ?_) | apply (zs70 ?_) | (apply zg27; refine zs71 ?_) | apply (zs73 ?_) | apply (zs76 ?_) | apply (zs79 ?_) | fail)
      apply hK ⟨i + 1, j + 1, M.set i a⟩
      · refine ⟨by simp only; omega, by simp only; omega, by simp only; omega, ?_, hd1 a⟩
        simp only
        rw [hft, List.take_add_one, List.getElem?_set_self (by omega), List.take_set_of_le (Nat.le_refl _)]
        rfl
      · simp only; omega
      · dsimp only
        rw [hMl]
        exact zu
      · unfold cels
        dsimp only
        rw [hMl]
        exact fun w hw => hw.tail
  · obtain rfl : j = l.length := by omega
    clear hK
    rw [List.take_length] at ht
    have hil : (l.filter fun a => !p a).length = i := by rw [← ht, List.length_take]; omega
    have hfl : (M.flatMap celF).take (i * 5) = (l.filter fun a => !p a).flatMap celF := by rw [← VZ (q := 5) (fun _ => rfl), ht]
    repeat' (first | (apply Vk T (n' := M.length - i); exact rfl; exact rfl; exact rfl; exact rfl; omega; omega) | apply (zs1 ?_) | (apply zg4; refine zs9 ?_) | (apply (zs17 ?_ ?_) <;> intro _ <;> try (exfalso; omega)) | apply (zs65 ?_) | apply (zs68 ?_) | apply (zs69 ?_) | apply (zs70 ?_) | (apply zg27; refine zs72 ?_) | apply (zs75 ?_) | apply (zs80 ?_) | apply (zs81 ?_) | fail)
    rw [Int.toNat_natCast]
    apply Uv (sl 40 5 A i cap ((l.filter fun a => !p a).flatMap celF) :: H)
    · intro w hw
      refine hw.shrink (e := 40) (size := 5) (cap := cap) (A := A) (xs := M.flatMap celF) (k := M.length) (k' := i) (by omega) ?_
      rw [hfl]
      exact Upd.here _
    apply YfH T T2 (e := 40) (size := 5) (k := i) (xs := (l.filter fun a => !p a).flatMap celF); exact rfl; exact List.mem_cons_self; exact rfl; exact rfl; exact rfl; omega
    repeat' (first | (apply XU T (l := M) (n' := i); exact rfl; exact rfl; exact rfl; exact rfl; omega; omega; omega) | apply (zs1 ?_) | apply (zs2 ?_) | apply (zs65 ?_) | apply (zs68 ?_) | apply (zs69 ?_) | apply (zs70 ?_) | apply (zs74 ?_) | fail)
    rw [QO]
    repeat' (first | fail)
    apply Yc; exact rfl; exact rfl
    exact ⟨by rw [hil], by rw [hil]⟩
open Go.RowKit Go.Eng Go.Nw
theorem YeR {c : UInt8} (o : List (List UInt8)) (w m : List UInt8) : X0 c (o ++ [w ++ m]) = X0 c (o ++ [w]) ++ m := by
  cases o with
  | nil => simp [X0]
  | cons p r => rw [List.cons_append, List.cons_append, Xr, Xr]; simp
theorem Ygl {c : UInt8} (o : List (List UInt8)) (w : List UInt8) : X0 c ((o ++ [w]) ++ [[]]) = X0 c (o ++ [w]) ++ [c] := by
  cases o with
  | nil => simp [X0]
  | cons p r => rw [List.cons_append, List.cons_append, Xr, Xr]; simp
theorem Ycn {c : UInt8} {l : List UInt8} {o : List (List UInt8)} {w : List UInt8} (h : cutC c l = o ++ [w]) : cutC c (l ++ [c]) = (o ++ [w]) ++ [[]] := by
  have hj := UR (c := c) l
  have hm := UH (c := c) (l := l)
  rw [h] at hj hm
  rw [← hj, ← Ygl]
  refine Vq (by simp) fun p hp => ?_
  rcases List.mem_append.1 hp with hp | hp
  · exact hm p hp
  · obtain rfl := List.mem_singleton.1 hp; simp
theorem Yf8 {c x : UInt8} (hx : x ≠ c) {l : List UInt8} {o : List (List UInt8)} {w : List UInt8} (h : cutC c l = o ++ [w]) : cutC c (l ++ [x]) = o ++ [w ++ [x]] := by
  have hj := UR (c := c) l
  have hm := UH (c := c) (l := l)
  rw [h] at hj hm
  rw [← hj, ← YeR]
  refine Vq (by simp) fun p hp => ?_
  rcases List.mem_append.1 hp with hp | hp
  · exact hm p (List.mem_append_left _ hp)
  · obtain rfl := List.mem_singleton.1 hp
    have := hm w (by simp)
    intro hc
    rcases List.mem_append.1 hc with hc | hc
    · exact this hc
    · exact hx (List.mem_singleton.1 hc).symm
def Up (text : List UInt8) : List (List UInt8) × Bool :=
  if YJ (cutC 10 text) ((cutC 10 text).length - 1) = [] then ((cutC 10 text).take ((cutC 10 text).length - 1), true) else (cutC 10 text, false)
theorem Yfa {text : List UInt8} {o : List (List UInt8)} {w : List UInt8} (h : cutC 10 text = o ++ [w]) : Up text = if w = [] then (o, true) else (o ++ [w], false) := by
  unfold Up
  rw [h]
  have e1 : (o ++ [w]).length - 1 = o.length := by simp
  have e2 : YJ (o ++ [w]) o.length = w := by unfold YJ; rw [List.getD_eq_getElem?_getD, List.getElem?_append_right (Nat.le_refl _), Nat.sub_self]; rfl
  rw [e1, e2, List.take_left]
open Go.RowKit Go.Eng Go.Nw
section
variable {m : Eng.Mode} {n : Shp} {B d : Nat} {w0 : World} {ops : Array Oper} {Q : Exit → Act → World → Prop} {rest : List Oper} {env : Env} {H : List HP} {ty : TypeId} {pos : String} {after : Array Edge} {x y : Operand}
theorem Yc2 {a b : List UInt8} : (⟨a.toArray⟩ : ByteArray) = ⟨b.toArray⟩ ↔ a = b := by
  constructor
  · intro h
    have h1 := congrArg (fun s : ByteArray => s.data.toList) h
    simpa using h1
  · rintro rfl; rfl
theorem Uw (a b : List UInt8) (hx : evo env x = some (strV a)) (hy : evo env y = some (strV b)) (hn : Nat.ble (d + 1) n.k = true) (h1 : a ≠ b → VL Tryz.prog m n B w0 ops Q rest ((d, .bool true) :: env) H) (h2 : a = b → VL Tryz.prog m n B w0 ops Q rest ((d, .bool false) :: env) H) :
    VL Tryz.prog m n B w0 ops Q (⟨some d, .binOp .neq 9 x y 9, ty, pos, after, none⟩ :: rest) env H :=
  Yg9 hx hy hn (fun h => h1 fun e => h (Yc2.2 e)) (fun h => h2 (Yc2.1 h))
theorem YgZ (hx : evo env x = some .nilIface) (hn : Nat.ble (d + 1) n.k = true) (h : VL Tryz.prog m n B w0 ops Q rest ((d, .bool false) :: env) H) :
    VL Tryz.prog m n B w0 ops Q (⟨some d, .binOp .neq 134 x (.const .nilIface) 134, ty, pos, after, none⟩ :: rest) env H :=
  YI (y := .const .nilIface) hx rfl hn (fun w => by simp [eqGuard]) (fun w => run_neq_nil_nil (P := Tryz.prog) (w := w) 134 (by kernel_rfl)) h
theorem Yg0 {t : TypeId} {p : Value} (hx : evo env x = some (.iface t p)) (hn : Nat.ble (d + 1) n.k = true) (h : VL Tryz.prog m n B w0 ops Q rest ((d, .bool true) :: env) H) :
    VL Tryz.prog m n B w0 ops Q (⟨some d, .binOp .neq 134 x (.const .nilIface) 134, ty, pos, after, none⟩ :: rest) env H :=
  YI (y := .const .nilIface) hx rfl hn (fun w => by simp [eqGuard]) (fun w => run_neq_held_nil (P := Tryz.prog) (w := w) 134 t p (by kernel_rfl)) h
end
abbrev nrs (A : Option Addr) (cap : Nat) (l : List Int) : HP := sl 3 1 A l.length cap (l.flatMap numF)
theorem X5 (A : Option Addr) (cap : Nat) (l : List Int) (z : Int) : sl 3 1 A (l.length + 1) cap (l.flatMap numF ++ #[Value.int .i64 z].toList) = nrs A cap (l ++ [z]) := by simp [nrs, List.flatMap_append, numF]
theorem YaZ (ps : List (List UInt8)) : (ps.map strV) = ps.flatMap strL := by induction ps with | nil => rfl | cons a l ih => simp [strL, List.flatMap_cons, ih]
theorem YaS {ws : List (List UInt8)} (h : ∀ w ∈ ws, 0 ≤ numW w) : XO ws = some (ws.map numW) := by
  unfold XO
  rw [if_neg]
  rw [Bool.not_eq_true, List.any_eq_false]
  intro w hw
  have := h w hw
  simp; omega
theorem YaR {ws : List (List UInt8)} {w : List UInt8} (hw : w ∈ ws) (h : numW w < 0) : XO ws = none := by
  unfold XO
  rw [if_pos]
  rw [List.any_eq_true]
  exact ⟨w, hw, by simpa using h⟩
theorem JX {c : UInt8} : ∀ {l : List UInt8}, ∀ p ∈ cutC c l, p.length ≤ l.length
  | [], p, hp => by
    simp only [cutC, List.mem_singleton] at hp
    subst hp; simp
  | x :: l, p, hp => by
    have ih := JX (c := c) (l := l)
    unfold cutC at hp
    split at hp
    · rcases List.mem_cons.1 hp with rfl | hp
      · simp
      · have := ih p hp; simp only [List.length_cons]; omega
    · cases hc : cutC c l with
      | nil => rw [hc] at hp; simp at hp; subst hp; simp
      | cons q qs =>
        rw [hc] at hp ih
        simp only [List.mem_cons] at hp ih
        rcases hp with rfl | hp
        · have := ih q (.inl rfl); simp only [List.length_cons]; omega
        · have := ih p (.inr hp); simp only [List.length_cons]; omega
def OutR (H : List HP) (r : Option (List Int)) (v : Value) (K : List HP) : Prop :=
  match r with
  | none => v = .tuple #[.slice none 0 0, .bool false] ∧ K = H
  | some x => ∃ A cap, v = .tuple #[.slice A x.length cap, .bool true] ∧ K = nrs A cap x :: H
end Go.Proofs.YtmalhidldgfeoaaGreatDoor
namespace Go.Eng
open Go.RowKit
end Go.Eng
namespace Go.Proofs.YtmalhidldgfeoaaGreatDoor
open Go.RowKit Go.Eng Go.Nw
theorem Xb {f : Nat → Int} : ∀ {r i0 i : Nat}, (∀ k, i0 ≤ k → k < i → f k = 0) → i0 ≤ i → i < i0 + r → f i ≠ 0 → Yx f r i0 = ((i : Int), f i)
  | 0, i0, i, _, h1, h2, _ => by omega
  | r + 1, i0, i, h0, h1, h2, h3 => by
    unfold Yx
    by_cases e : i0 = i
    · subst e; rw [if_neg h3]
    · rw [if_pos (h0 i0 (Nat.le_refl _) (by omega))]
      exact Xb (fun k hk1 hk2 => h0 k (by omega) hk2) (by omega) (by omega) h3
theorem Xx {f : Nat → Int} {r i0 : Nat} (h : ∀ k, i0 ≤ k → k < i0 + r → f k = 0) : Yx f r i0 = (-1, 0) := by
  have h2 := XM.2 h
  exact Prod.ext (Qc h2) h2
theorem Xw {c : UInt8} : ∀ l : List UInt8, (cutC c l).length ≤ l.length + 1
  | [] => by simp [cutC]
  | x :: l => by
    have ih := Xw (c := c) l
    unfold cutC
    split
    · simp only [List.length_cons]; omega
    · split
      · simp
      · rename_i h t he
        rw [he] at ih
        simp only [List.length_cons] at ih ⊢
        omega
open Go.RowKit Go.Eng Go.Nw
def flwV (f : Flw) : Value := .agg #[.int .i64 f.1, .int .i64 f.2.1, .int .i64 f.2.2.1, .int .i64 f.2.2.2.1, .int .i64 f.2.2.2.2.1, .int .i64 f.2.2.2.2.2]
theorem Qe {l : List Flw} {i : Nat} (h : i < l.length) : l[i]? = some (ZJ l i) := by
  unfold ZJ; rw [List.getD_eq_getElem?_getD, List.getElem?_eq_getElem h]; rfl
theorem Ydw (v nodes : Int) (gn : Nat) {B : Nat} {w0 : World} {H : List HP} {w : World} (hm : blk gn (.cells #[.int .i64 nodes] 3 (0, 0)) ∈ H) (hw : St B w0 H w) :
    Calls Tryz.prog 167 [.int .i64 v, .pointer (some ⟨gn, 0, none⟩)].toArray w (Post B w0 fun u K => u = .bool (insE v nodes) ∧ K = H) := by
  refine Yd Tryz.func167 Tryz.ntmps167 rfl rfl hw ?_
  repeat' (first | apply (zs1 ?_) | apply (zs2 ?_) | (apply zg1; first | refine zs3 ?_ | refine zs4 ?_) | (apply zg3; refine zs7 ?_) | (apply zg6; first | refine zs11 ?_ | refine zs12 ?_) | (apply (zs17 ?_ ?_) <;> intro _ <;> try (exfalso; omega)) | (apply (zs20 ?_ ?_) <;> intro _ <;> try (exfalso; omega)) | apply (zs65 ?_) | apply (zs68 ?_) | apply (zs69 ?_) | apply (zs70 ?_) | apply (zs74 ?_) | fail)
  all_goals (
    apply Yc; exact rfl; exact rfl
    first
      | exact ⟨by rw [show insE v nodes = true from decide_eq_true (by omega)], rfl⟩
      | exact ⟨by rw [show insE v nodes = false from decide_eq_false (by omega)], rfl⟩)
set_option maxRecDepth 10000 in
set_option maxHeartbeats 1000000 in
theorem WS (nodes : Int) (f : Flw) {B : Nat} {w0 : World} {H : List HP} {w : World} (hw : St B w0 H w) :
    Calls Tryz.prog 110 [.int .i64 nodes, flwV f].toArray w (Post B w0 fun v K => v = .int .i64 (XW nodes f) ∧ K = H) := by
  refine Yd Tryz.func110 Tryz.ntmps110 rfl rfl hw ?_
  obtain ⟨e, he⟩ : ∃ e, XW nodes f = e := ⟨_, rfl⟩
  rw [he]
  by_cases hA : f.1 < 0 ∨ 255 < f.1
  · repeat' (first | apply (zs1 ?_) | apply (zs2 ?_) | (apply zg1; first | refine zs3 ?_ | refine zs4 ?_) | (apply zg2; refine zs6 ?_) | (apply zg3; refine zs7 ?_) | (apply zg6; first | refine zs11 ?_ | refine zs12 ?_) | (apply (zs17 ?_ ?_) <;> intro _ <;> try (exfalso; omega)) | (apply (zs19 ?_ ?_) <;> intro _ <;> try (exfalso; omega)) | (apply zg23; first | (refine zs52 ?_; intro _) | (refine zs53 ?_; intro _)) | apply (zs65 ?_) | apply (zs68 ?_) | apply (zs69 ?_) | apply (zs70 ?_) | (apply zg27; refine zs71 ?_) | apply (zs73 ?_) | apply (zs74 ?_) | apply (zs77 ?_) | apply (zs78 ?_) | (apply zg29; (apply Yr; exact za ; exact rfl)) | fail)
    all_goals (
      apply Yi H
      · exact zk
      apply Yc; exact rfl; exact rfl
      refine ⟨?_, rfl⟩
      rw [← he]
      unfold XW
      first
        | (rw [if_pos (by first | exact .inl (by omega) | exact .inr (.inl (by omega)) | exact .inr (.inr (.inl (by assumption))) | exact .inr (.inr (.inr (by assumption))))]; done)
        | (rw [if_neg (by rintro (h | h | h | h) <;> first | omega | simp_all)]
           first
             | (rw [if_pos (by omega)]; done)
             | (rw [if_neg (by omega), if_pos (by omega)]; done)
             | (rw [if_neg (by omega), if_neg (by omega)]; done)))
  · repeat' (first | apply (zs1 ?_) | apply (zs2 ?_) | (apply zg1; refine zs4 ?_) | (apply zg2; refine zs6 ?_) | (apply zg3; refine zs7 ?_) | (apply zg6; refine zs12 ?_) | (apply (zs17 ?_ ?_) <;> intro _ <;> try (exfalso; omega)) | (apply (zs19 ?_ ?_) <;> intro _ <;> try (exfalso; omega)) | (apply zg23; first | (refine zs52 ?_; intro _) | (refine zs53 ?_; intro _)) | apply (zs65 ?_) | apply (zs68 ?_) | apply (zs69 ?_) | apply (zs70 ?_) | apply (zs73 ?_) | (apply zg29; (apply Yr; exact za ; exact rfl)) | fail)
    rename_i gn gf _ _
    repeat' (first | ((first | apply Z0 (cs := [.pointer (some ⟨gn, 0, none⟩)]) | apply ZZ (cs := [.pointer (some ⟨gn, 0, none⟩)])); exact rfl; exact YiL; exact za; exact rfl; exact fun _ hw => (Ydw _ nodes gn zm hw); all_goals (intro hB; (try simp only [decide_eq_true_eq, decide_eq_false_iff_not] at hB); try (exfalso; omega))) | apply (zs1 ?_) | apply (zs2 ?_) | (apply zg1; first | refine zs3 ?_ | refine zs4 ?_) | (apply zg2; refine zs6 ?_) | (apply zg3; refine zs7 ?_) | (apply zg6; first | refine zs11 ?_ | refine zs12 ?_) | (apply zg7; (refine zs15 ?_ ?_ <;> intro _ <;> try (exfalso; omega))) | (apply (zs17 ?_ ?_) <;> intro _ <;> try (exfalso; omega)) | (apply (zs19 ?_ ?_) <;> intro _ <;> try (exfalso; omega)) | (apply (zs20 ?_ ?_) <;> intro _ <;> try (exfalso; omega)) | (apply zg20; first | refine zs47 ?_ | refine zs48 ?_) | apply (zs65 ?_) | apply (zs68 ?_) | apply (zs69 ?_) | apply (zs70 ?_) | (apply zg27; first | refine zs71 ?_ | refine zs72 ?_) | apply (zs74 ?_) | apply (zs76 ?_) | apply (zs77 ?_) | apply (zs78 ?_) | apply (zs79 ?_) | fail)
    all_goals (
      apply Yi H
      · exact zk
      apply Yc; exact rfl; exact rfl
      refine ⟨?_, rfl⟩
      rw [← he]
      unfold XW
      first
        | (rw [if_pos (by first | exact .inl (by omega) | exact .inr (.inl (by omega)) | exact .inr (.inr (.inl (by assumption))) | exact .inr (.inr (.inr (by assumption))))]; done)
        | (rw [if_neg (by rintro (h | h | h | h) <;> first | omega | simp_all)]
           first
             | (rw [if_pos (by omega)]; done)
             | (rw [if_neg (by omega), if_pos (by omega)]; done)
             | (rw [if_neg (by omega), if_neg (by omega)]; done)))
set_option maxRecDepth 10000 in
set_option maxHeartbeats 1000000 in
theorem YO (nodes : Int) (l : List Flw) (hl : l.length ≤ 9223372036854775807) {A : Option Addr} {cap B : Nat} {w0 : World} {H : List HP} {w : World} (hr : Rd B w0 H A (l.flatMap flwF)) (hw : St B w0 H w) :
    Calls Tryz.prog 51 [.int .i64 nodes, .slice A l.length cap].toArray w (Post B w0 fun v K => v = .tuple #[.int .i64 (YV nodes l).1, .int .i64 (YV nodes l).2] ∧ K = H) := by
  refine Yd Tryz.func51 Tryz.ntmps51 rfl rfl hw ?_
  by_cases hn : nodes < 2 ∨ 32 < nodes
  · have hE : YV nodes l = (-1, 2) := by unfold YV; exact if_pos hn
    rw [hE]
    repeat' (first | apply (zs1 ?_) | apply (zs2 ?_) | (apply zg1; first | refine zs3 ?_ | refine zs4 ?_) | (apply zg6; first | refine zs11 ?_ | refine zs12 ?_) | (apply (zs17 ?_ ?_) <;> intro _ <;> try (exfalso; omega)) | (apply (zs19 ?_ ?_) <;> intro _ <;> try (exfalso; omega)) | apply (zs65 ?_) | apply (zs68 ?_) | apply (zs69 ?_) | apply (zs70 ?_) | (apply zg27; refine zs71 ?_) | apply (zs74 ?_) | apply (zs77 ?_) | fail)
    all_goals (apply Yp; exact rfl; exact rfl; exact rfl; exact ⟨rfl, rfl⟩)
  by_cases h16 : 16 < l.length
  · have hE : YV nodes l = (-1, 8) := by unfold YV; exact (if_neg hn).trans (if_pos h16)
    rw [hE]
    repeat' (first | apply (zs1 ?_) | apply (zs2 ?_) | (apply zg1; refine zs4 ?_) | (apply zg4; refine zs9 ?_) | (apply zg6; refine zs12 ?_) | (apply (zs17 ?_ ?_) <;> intro _ <;> try (exfalso; omega)) | (apply (zs19 ?_ ?_) <;> intro _ <;> try (exfalso; omega)) | apply (zs65 ?_) | apply (zs68 ?_) | apply (zs69 ?_) | apply (zs70 ?_) | (apply zg27; first | refine zs71 ?_ | refine zs72 ?_) | apply (zs74 ?_) | apply (zs76 ?_) | apply (zs77 ?_) | fail)
    apply Yp; exact rfl; exact rfl; exact rfl; exact ⟨rfl, rfl⟩
  have hE : YV nodes l = Yx (YS nodes l) l.length 0 := by unfold YV; exact (if_neg hn).trans (if_neg h16)
  rw [hE]
  repeat' (first | apply (zs1 ?_) | apply (zs2 ?_) | (apply zg1; refine zs4 ?_) | (apply zg4; refine zs9 ?_) | (apply zg6; refine zs12 ?_) | (apply (zs17 ?_ ?_) <;> intro _ <;> try (exfalso; omega)) | (apply (zs19 ?_ ?_) <;> intro _ <;> try (exfalso; omega)) | apply (zs65 ?_) | apply (zs68 ?_) | apply (zs69 ?_) | apply (zs70 ?_) | (apply zg27; refine zs72 ?_) | apply (zs73 ?_) | apply (zs76 ?_) | fail)
  refine Yk (fun (i : Nat) => [(20, .int .i64 i), (19, .int .i64 l.length), (18, .slice A l.length cap), (0, .int .i64 nodes), (1, .slice A l.length cap)]) (fun _ => H) (fun i => i ≤ l.length ∧ ∀ k, k < i → YS nodes l k = 0) (fun i => l.length - i) 0 ⟨Nat.zero_le _, fun k hk => absurd hk (Nat.not_lt_zero _)⟩ ?_ (fun w hw => hw) ?_
  · exact zu
  rintro i ⟨hi, hall⟩ K hK
  by_cases hlt : i < l.length
  · have hget : l[i]? = some (ZJ l i) := Qe hlt
    have hbad : YS nodes l i ≠ 0 → Yx (YS nodes l) l.length 0 = ((i : Int), YS nodes l i) := fun h => Xb (fun k _ hk => hall k hk) (Nat.zero_le _) (by omega) h
    have hstep : YS nodes l i = 0 → ∀ k, k < i + 1 → YS nodes l k = 0 := fun h k hk => by
      by_cases e : k = i
      · rw [e]; exact h
      · exact hall k (by omega)
    by_cases he : XW nodes (ZJ l i) ≠ 0
    · have hf : YS nodes l i = XW nodes (ZJ l i) := by unfold YS; exact if_pos he
      rw [hbad (by rw [hf]; exact he), hf]
      repeat' (first | ((first | apply Ya WK | apply Yb WK); exact za; exact rfl; exact fun _ hw => (WS nodes (ZJ l i) hw)) | apply (zs1 ?_) | apply (zs2 ?_) | (apply zg3; first | refine zs8 ?_ | refine zs61 ?_) | (apply zg5; refine zs57 ?_) | (apply zg8; (refine zs16 ?_ ?_ <;> intro _ <;> try (exfalso; omega))) | (apply (zs17 ?_ ?_) <;> intro _ <;> try (exfalso; omega)) | (apply zg22; refine zs51 ?_) | (apply zg24; (refine zs54 ?_; intro _)) | apply (zs65 ?_) | apply (zs68 ?_) | apply (zs69 ?_) | apply (zs70 ?_) | (apply zg27; refine zs71 ?_) | apply (zs73 ?_) | apply (zs74 ?_) | apply (zs76 ?_) | apply (zs77 ?_) | apply (zs78 ?_) | fail)
      apply Yi H
      · exact zk
      apply Yp; exact rfl; exact rfl; exact rfl; exact ⟨rfl, rfl⟩
    have he0 := Decidable.not_not.1 he
    have hck := fun {H' : List HP} {w : World} (hw : St B w0 H' w) => WS nodes (ZJ l i) hw
    rw [he0] at hck
    rcases Nat.eq_zero_or_pos i with h0 | h0
    · subst h0
      have hf : YS nodes l 0 = 0 := by unfold YS; rw [if_neg he, if_neg (by omega)]
      repeat' (first | ((first | apply Ya WK | apply Yb WK); exact za; exact rfl; exact fun _ hw => (hck hw)) | apply (zs1 ?_) | apply (zs2 ?_) | (apply zg1; refine zs3 ?_) | (apply zg3; first | refine zs8 ?_ | refine zs61 ?_) | (apply zg5; refine zs57 ?_) | (apply zg6; refine zs12 ?_) | (apply zg8; (refine zs16 ?_ ?_ <;> intro _ <;> try (exfalso; omega))) | (apply (zs17 ?_ ?_) <;> intro _ <;> try (exfalso; omega)) | (apply (zs19 ?_ ?_) <;> intro _ <;> try (exfalso; omega)) | (apply zg13; refine zs30 ?_) | (apply zg22; refine zs51 ?_) | (apply zg24; (refine zs54 ?_; intro _)) | apply (zs65 ?_) | apply (zs66 ?_) | apply (zs68 ?_) | apply (zs69 ?_) | apply (zs70 ?_) | (apply zg27; first | refine zs71 ?_ | refine zs72 ?_) | apply (zs73 ?_) | apply (zs76 ?_) | apply (zs79 ?_) | (apply zg28; refine zs83 ?_) | fail)
      apply hK (0 + 1)
      · exact ⟨by omega, hstep hf⟩
      · omega
      · exact zu
      · exact zk
    have hget2 : l[((i : Int) - 1).toNat]? = some (ZJ l (i - 1)) := by
      rw [show ((i : Int) - 1).toNat = i - 1 by omega]
      exact Qe (by omega)
    by_cases hle : (ZJ l i).1 ≤ (ZJ l (i - 1)).1
    · have hf : YS nodes l i = 5 := by unfold YS; rw [if_neg he, if_pos ⟨h0, hle⟩]
      rw [hbad (by rw [hf]; decide), hf]
      repeat' (first | ((first | apply Ya WK | apply Yb WK); exact za; exact rfl; exact fun _ hw => (hck hw)) | apply (zs1 ?_) | apply (zs2 ?_) | (apply zg1; refine zs4 ?_) | (apply zg2; first | refine zs6 ?_ | refine zs58 ?_) | (apply zg3; first | refine zs7 ?_ | refine zs8 ?_ | refine zs59 ?_ | refine zs61 ?_) | (apply zg5; refine zs57 ?_) | (apply zg6; refine zs11 ?_) | (apply zg8; (refine zs16 ?_ ?_ <;> intro _ <;> try (exfalso; omega))) | (apply (zs17 ?_ ?_) <;> intro _ <;> try (exfalso; omega)) | (apply (zs18 ?_ ?_) <;> intro _ <;> try (exfalso; omega)) | (apply (zs19 ?_ ?_) <;> intro _ <;> try (exfalso; omega)) | (apply zg14; refine zs31 ?_) | (apply zg22; refine zs51 ?_) | (apply zg24; (refine zs54 ?_; intro _)) | apply (zs65 ?_) | apply (zs66 ?_) | apply (zs68 ?_) | apply (zs69 ?_) | apply (zs70 ?_) | (apply zg27; first | refine zs71 ?_ | refine zs72 ?_) | apply (zs73 ?_) | apply (zs74 ?_) | apply (zs76 ?_) | apply (zs77 ?_) | apply (zs78 ?_) | (apply zg28; refine zs83 ?_) | fail)
      apply Yi H
      · exact zk
      apply Yp; exact rfl; exact rfl; exact rfl; exact ⟨rfl, rfl⟩
    · have hf : YS nodes l i = 0 := by unfold YS; rw [if_neg he, if_neg (fun h => hle h.2)]
      repeat' (first | ((first | apply Ya WK | apply Yb WK); exact za; exact rfl; exact fun _ hw => (hck hw)) | apply (zs1 ?_) | apply (zs2 ?_) | (apply zg1; refine zs4 ?_) | (apply zg2; first | refine zs6 ?_ | refine zs58 ?_) | (apply zg3; first | refine zs7 ?_ | refine zs8 ?_ | refine zs59 ?_ | refine zs61 ?_) | (apply zg5; refine zs57 ?_) | (apply zg6; refine zs11 ?_) | (apply zg8; (refine zs16 ?_ ?_ <;> intro _ <;> try (exfalso; omega))) | (apply (zs17 ?_ ?_) <;> intro _ <;> try (exfalso; omega)) | (apply (zs18 ?_ ?_) <;> intro _ <;> try (exfalso; omega)) | (apply (zs19 ?_ ?_) <;> intro _ <;> try (exfalso; omega)) | (apply zg13; refine zs30 ?_) | (apply zg14; refine zs31 ?_) | (apply zg22; refine zs51 ?_) | (apply zg24; (refine zs54 ?_; intro _)) | apply (zs65 ?_) | apply (zs66 ?_) | apply (zs68 ?_) | apply (zs69 ?_) | apply (zs70 ?_) | (apply zg27; first | refine zs71 ?_ | refine zs72 ?_) | apply (zs73 ?_) | apply (zs76 ?_) | apply (zs79 ?_) | (apply zg28; refine zs83 ?_) | fail)
      apply hK (i + 1)
      · exact ⟨by omega, hstep hf⟩
      · omega
      · exact zu
      · exact zk
  · repeat' (first | apply (zs2 ?_) | (apply (zs17 ?_ ?_) <;> intro _ <;> try (exfalso; omega)) | apply (zs65 ?_) | apply (zs68 ?_) | apply (zs69 ?_) | apply (zs70 ?_) | (apply zg27; refine zs72 ?_) | apply (zs74 ?_) | apply (zs75 ?_) | apply (zs80 ?_) | apply (zs81 ?_) | fail)
    rw [show i = l.length by omega] at hall
    rw [Xx fun k _ hk => hall k (by omega)]
    apply Yp; exact rfl; exact rfl; exact rfl; exact ⟨rfl, rfl⟩
theorem Qm (p : Flw → Bool) (l : List Flw) (f : Nat) (cs : List Value) (hen : ∀ xs w, (callFunc f xs).run Tryz.prog w = .ok (.enter f xs) w) (hlen : l.length ≤ 1000) {A : Option Addr} {cap B : Nat} {w0 : World} {H : List HP} {w : World} (hr : Rd B w0 H A (l.flatMap flwF))
    (hp : ∀ a ∈ l, ∀ w, St B w0 H w → Calls Tryz.prog f ([flwV a] ++ cs).toArray w (Post B w0 fun v K => v = .bool (p a) ∧ K = H)) (hw : St B w0 H w) :
    Calls Tryz.prog 111 [.slice A l.length cap, .func (.func f) #[] cs.toArray].toArray w (Post B w0 fun v K => v = .int .i64 (Yt p l 0) ∧ K = H) := by
  refine Yd Tryz.func111 Tryz.ntmps111 rfl rfl hw ?_
  repeat' (first | apply (zs1 ?_) | apply (zs2 ?_) | (apply zg4; refine zs9 ?_) | apply (zs65 ?_) | apply (zs68 ?_) | apply (zs69 ?_) | apply (zs70 ?_) | apply (zs73 ?_) | fail)
  refine Yk (fun (k : Nat) => [(8, .int .i64 k), (7, .int .i64 l.length), (0, .slice A l.length cap), (1, .func (.func f) #[] cs.toArray)]) (fun _ => H) (fun k => k ≤ l.length ∧ Yt p l 0 = Yt p (l.drop k) k) (fun k => l.length - k) 0 ⟨Nat.zero_le _, by simp⟩ ?_ (fun w hw => hw) ?_
  · exact zu
  rintro k ⟨hk, hi⟩ K hK
  by_cases hlt : k < l.length
  · obtain ⟨a, ha⟩ : ∃ a, l[k]? = some a := ⟨_, List.getElem?_eq_getElem hlt⟩
    have hpa := hp a (List.mem_of_getElem? ha)
    rw [JL p l ha] at hi
    repeat' (first | ((first | apply YG (cs := cs)); exact rfl; exact hen; exact za; exact rfl; exact fun _ hw => hpa _ hw) | apply (zs1 ?_) | apply (zs2 ?_) | (apply zg3; refine zs61 ?_) | (apply zg5; refine zs57 ?_) | (apply (zs17 ?_ ?_) <;> intro _ <;> try (exfalso; omega)) | apply (zs65 ?_) | apply (zs68 ?_) | apply (zs69 ?_) | apply (zs70 ?_) | (apply zg27; refine zs71 ?_) | apply (zs73 ?_) | apply (zs76 ?_) | fail)
    cases hpv : p a
    · rw [hpv] at hi
      repeat' (first | apply (zs1 ?_) | (apply zg13; refine zs30 ?_) | apply (zs65 ?_) | apply (zs68 ?_) | apply (zs70 ?_) | (apply zg27; refine zs72 ?_) | apply (zs76 ?_) | apply (zs79 ?_) | fail)
      apply hK (k + 1)
      · exact ⟨by omega, hi⟩
      · omega
      · exact zu
      · exact fun w hw => hw
    · rw [hpv] at hi
      repeat' (first | apply (zs1 ?_) | apply (zs2 ?_) | apply (zs65 ?_) | apply (zs68 ?_) | apply (zs69 ?_) | apply (zs70 ?_) | (apply zg27; refine zs71 ?_) | apply (zs74 ?_) | apply (zs77 ?_) | apply (zs78 ?_) | fail)
      apply Yc; exact rfl; exact rfl
      exact ⟨by rw [hi]; rfl, rfl⟩
  · repeat' (first | apply (zs2 ?_) | (apply (zs17 ?_ ?_) <;> intro _ <;> try (exfalso; omega)) | apply (zs65 ?_) | apply (zs68 ?_) | apply (zs69 ?_) | apply (zs70 ?_) | (apply zg27; refine zs72 ?_) | apply (zs74 ?_) | apply (zs75 ?_) | apply (zs80 ?_) | apply (zs81 ?_) | fail)
    apply Yc; exact rfl; exact rfl
    rw [hi, List.drop_eq_nil_of_le (by omega)]
    exact ⟨rfl, rfl⟩
theorem Ydv (f : Flw) (id : Int) (gi : Nat) {B : Nat} {w0 : World} {H : List HP} {w : World} (hm : blk gi (.cells #[.int .i64 id] 3 (0, 0)) ∈ H) (hw : St B w0 H w) :
    Calls Tryz.prog 170 [flwV f, .pointer (some ⟨gi, 0, none⟩)].toArray w (Post B w0 fun v K => v = .bool (decide (f.1 = id)) ∧ K = H) := by
  refine Yd Tryz.func170 Tryz.ntmps170 rfl rfl hw ?_
  by_cases h : f.1 = id
  · rw [decide_eq_true h]
    repeat' (first | apply (zs2 ?_) | (apply zg2; refine zs6 ?_) | (apply zg3; refine zs7 ?_) | (apply zg7; (refine zs15 ?_ ?_ <;> intro _ <;> try (exfalso; omega))) | (apply zg23; (refine zs52 ?_; intro _)) | apply (zs65 ?_) | apply (zs68 ?_) | apply (zs69 ?_) | apply (zs70 ?_) | apply (zs74 ?_) | fail)
    all_goals (apply Yq; apply Yc; exact rfl; exact rfl; exact ⟨rfl, rfl⟩)
  · rw [decide_eq_false h]
    repeat' (first | apply (zs2 ?_) | (apply zg2; refine zs6 ?_) | (apply zg3; refine zs7 ?_) | (apply zg7; (refine zs15 ?_ ?_ <;> intro _ <;> try (exfalso; omega))) | (apply zg23; (refine zs52 ?_; intro _)) | apply (zs65 ?_) | apply (zs68 ?_) | apply (zs69 ?_) | apply (zs70 ?_) | apply (zs74 ?_) | fail)
    all_goals (apply Yq; apply Yc; exact rfl; exact rfl; exact ⟨rfl, rfl⟩)
theorem Ydu (l : List Flw) (id : Int) (hlen : l.length ≤ 1000) {A : Option Addr} {cap B : Nat} {w0 : World} {H : List HP} {w : World} (hr : Rd B w0 H A (l.flatMap flwF)) (hw : St B w0 H w) :
    Calls Tryz.prog 114 [.slice A l.length cap, .int .i64 id].toArray w (Post B w0 fun v K => v = .int .i64 (JJ l id) ∧ K = H) := by
  refine Yd Tryz.func114 Tryz.ntmps114 rfl rfl hw ?_
  repeat' (first | apply (zs1 ?_) | apply (zs2 ?_) | (apply zg23; (refine zs53 ?_; intro _)) | apply (zs65 ?_) | apply (zs68 ?_) | apply (zs69 ?_) | apply (zs70 ?_) | (apply zg29; (apply Yr; exact za ; exact rfl)) | fail)
  rename_i gi
  first | apply Ya Yd4 | apply Yb Yd4
  exact za
  exact rfl
  exact fun _ hw => (Qm (fun f => decide (f.1 = id)) l 170 [.pointer (some ⟨gi, 0, none⟩)] YiM hlen hr.cons (fun f _ w hw => Ydv f id gi zm hw) hw)
  repeat' (first | apply (zs2 ?_) | apply (zs65 ?_) | apply (zs68 ?_) | apply (zs74 ?_) | fail)
  apply Yi H
  · exact zk
  apply Yc; exact rfl; exact rfl
  exact ⟨rfl, rfl⟩
theorem YbC (s : SchM) (f : Flw) (gs : Nat) (hs : 1 ≤ s.len ∧ s.len ≤ 512) (hf : 1 ≤ f.2.2.2.1 ∧ f.2.2.2.1 ≤ 512) {B : Nat} {w0 : World} {H : List HP} {w : World} (hm : blk gs (.cells #[.int .i64 s.len, .int .i64 s.off, .slice s.A s.cells.length s.cap] 30 (0, 0)) ∈ H) (hw : St B w0 H w) :
    Calls Tryz.prog 54 [flwV f, .pointer (some ⟨gs, 0, none⟩)].toArray w (Post B w0 fun v K => v = .bool (decide (s.len.tmod f.2.2.2.1 ≠ 0)) ∧ K = H) := by
  refine Yd Tryz.func54 Tryz.ntmps54 rfl rfl hw ?_
  by_cases h : s.len.tmod f.2.2.2.1 ≠ 0
  · rw [decide_eq_true h]
    rw [Int.tmod_eq_emod_of_nonneg (by omega)] at h
    repeat' (first | apply (zs2 ?_) | (apply zg2; refine zs6 ?_) | (apply zg3; refine zs7 ?_) | (apply zg8; (refine zs16 ?_ ?_ <;> intro _ <;> try (exfalso; omega))) | (apply zg17; refine zs37 ?_) | (apply zg23; (refine zs52 ?_; intro _)) | apply (zs65 ?_) | apply (zs68 ?_) | apply (zs69 ?_) | apply (zs70 ?_) | apply (zs74 ?_) | fail)
    all_goals (apply Yq; apply Yc; exact rfl; exact rfl; exact ⟨rfl, rfl⟩)
  · rw [decide_eq_false h]
    rw [Int.tmod_eq_emod_of_nonneg (by omega)] at h
    repeat' (first | apply (zs2 ?_) | (apply zg2; refine zs6 ?_) | (apply zg3; refine zs7 ?_) | (apply zg8; (refine zs16 ?_ ?_ <;> intro _ <;> try (exfalso; omega))) | (apply zg17; refine zs37 ?_) | (apply zg23; (refine zs52 ?_; intro _)) | apply (zs65 ?_) | apply (zs68 ?_) | apply (zs69 ?_) | apply (zs70 ?_) | apply (zs74 ?_) | fail)
    all_goals (apply Yq; apply Yc; exact rfl; exact rfl; exact ⟨rfl, rfl⟩)
theorem Ycw {α : Type} (p : α → Bool) (l : List α) : decide (0 ≤ Yt p l 0) = l.any p := by
  have h := JZ p l 0 (by omega)
  by_cases h0 : 0 ≤ Yt p l 0
  · rw [decide_eq_true h0, h.1 h0]
  · rw [decide_eq_false h0]
    cases h1 : l.any p with
    | false => rfl
    | true => exact absurd (h.2 h1) h0
theorem O2 (p : Flw → Bool) (l : List Flw) (f : Nat) (cs : List Value) (hen : ∀ xs w, (callFunc f xs).run Tryz.prog w = .ok (.enter f xs) w) (hlen : l.length ≤ 1000) {A : Option Addr} {cap B : Nat} {w0 : World} {H : List HP} {w : World} (hr : Rd B w0 H A (l.flatMap flwF))
    (hp : ∀ a ∈ l, ∀ w, St B w0 H w → Calls Tryz.prog f ([flwV a] ++ cs).toArray w (Post B w0 fun v K => v = .bool (p a) ∧ K = H)) (hw : St B w0 H w) :
    Calls Tryz.prog 53 [.slice A l.length cap, .func (.func f) #[] cs.toArray].toArray w (Post B w0 fun v K => v = .bool (l.any p) ∧ K = H) := by
  refine Yd Tryz.func53 Tryz.ntmps53 rfl rfl hw ?_
  rw [← Ycw]
  repeat' (first | apply (zs1 ?_) | apply (zs2 ?_) | apply (zs65 ?_) | apply (zs68 ?_) | apply (zs69 ?_) | apply (zs70 ?_) | fail)
  first | apply Ya Yd4 | apply Yb Yd4
  exact za
  exact rfl
  exact fun _ hw => (Qm p l f cs hen hlen hr hp hw)
  by_cases h0 : 0 ≤ Yt p l 0
  · rw [decide_eq_true h0]
    repeat' (first | apply (zs2 ?_) | (apply (zs20 ?_ ?_) <;> intro _ <;> try (exfalso; omega)) | apply (zs65 ?_) | apply (zs68 ?_) | apply (zs74 ?_) | fail)
    apply Yc; exact rfl; exact rfl
    exact ⟨rfl, rfl⟩
  · rw [decide_eq_false h0]
    repeat' (first | apply (zs2 ?_) | (apply (zs20 ?_ ?_) <;> intro _ <;> try (exfalso; omega)) | apply (zs65 ?_) | apply (zs68 ?_) | apply (zs74 ?_) | fail)
    apply Yc; exact rfl; exact rfl
    exact ⟨rfl, rfl⟩
open Go.RowKit Go.Eng Go.Nw Go.Rt
theorem Yay (n : NetM) (s t : Int) {B : Nat} {w0 : World} {H : List HP} {w : World} (hin : n.In B w0 H) (hw : St B w0 H w) :
    Calls Tryz.prog 205 [n.val, .int .i64 s, .int .i64 t].toArray w (Post B w0 fun v K => v = .int .i64 (WQ n.net s t) ∧ K = H) := by
  refine Yd Tryz.func205 Tryz.ntmps205 rfl rfl hw ?_
  have e7 : n.net.nodes = n.nodes := rfl
  unfold WQ offE
  rw [e7]
  by_cases h0 : YA n.net = 0
  rotate_left
  · rw [if_pos h0]
    repeat' (first | ((first | apply Ya en50 | apply Yb en50); exact za; exact rfl; exact fun _ hw => (YK n hin.cons hw)) | apply (zs2 ?_) | (apply zg3; refine zs8 ?_) | (apply zg8; (refine zs16 ?_ ?_ <;> intro _ <;> try (exfalso; omega))) | (apply zg23; (refine zs52 ?_; intro _)) | apply (zs65 ?_) | apply (zs68 ?_) | apply (zs69 ?_) | apply (zs70 ?_) | (apply zg27; refine zs71 ?_) | apply (zs74 ?_) | apply (zs77 ?_) | fail)
    all_goals ((repeat apply Yq); apply Yc; exact rfl; exact rfl; exact ⟨rfl, rfl⟩)
  rw [if_neg (fun h => h h0)]
  have hck := fun {H : List HP} {w : World} (hin : n.In B w0 H) (hw : St B w0 H w) => YK n hin hw
  rw [h0] at hck
  simp only [decide_eq_true_eq]
  by_cases h1 : (s < 0 ∨ n.nodes ≤ s) ∨ (t < 0 ∨ n.nodes ≤ t) ∨ s = t
  · rw [if_pos h1]
    repeat' (first | ((first | apply Ya en50 | apply Yb en50); exact za; exact rfl; exact fun _ hw => (hck hin.cons hw)) | apply (zs1 ?_) | apply (zs2 ?_) | (apply zg1; first | refine zs3 ?_ | refine zs4 ?_) | (apply zg2; refine zs6 ?_) | (apply zg3; first | refine zs7 ?_ | refine zs8 ?_) | (apply zg6; first | refine zs11 ?_ | refine zs12 ?_) | (apply zg7; (refine zs15 ?_ ?_ <;> intro _ <;> try (exfalso; omega))) | (apply zg8; (refine zs16 ?_ ?_ <;> intro _ <;> try (exfalso; omega))) | (apply (zs17 ?_ ?_) <;> intro _ <;> try (exfalso; omega)) | (apply (zs20 ?_ ?_) <;> intro _ <;> try (exfalso; omega)) | (apply (zs25 ?_ ?_) <;> intro _ <;> try (exfalso; omega)) | (apply zg23; (refine zs52 ?_; intro _)) | (apply (zs62 ?_ ?_) <;> intro _ <;> try (exfalso; omega)) | apply (zs65 ?_) | apply (zs68 ?_) | apply (zs69 ?_) | apply (zs70 ?_) | (apply zg27; first | refine zs71 ?_ | refine zs72 ?_) | apply (zs74 ?_) | apply (zs76 ?_) | apply (zs77 ?_) | fail)
    all_goals ((repeat apply Yq); apply Yc; exact rfl; exact rfl; exact ⟨rfl, rfl⟩)
  · rw [if_neg h1]
    repeat' (first | ((first | apply Ya en50 | apply Yb en50); exact za; exact rfl; exact fun _ hw => (hck hin.cons hw)) | apply (zs1 ?_) | apply (zs2 ?_) | (apply zg1; refine zs4 ?_) | (apply zg2; refine zs6 ?_) | (apply zg3; first | refine zs7 ?_ | refine zs8 ?_) | (apply zg6; refine zs12 ?_) | (apply zg7; (refine zs15 ?_ ?_ <;> intro _ <;> try (exfalso; omega))) | (apply zg8; (refine zs16 ?_ ?_ <;> intro _ <;> try (exfalso; omega))) | (apply (zs17 ?_ ?_) <;> intro _ <;> try (exfalso; omega)) | (apply (zs20 ?_ ?_) <;> intro _ <;> try (exfalso; omega)) | (apply (zs25 ?_ ?_) <;> intro _ <;> try (exfalso; omega)) | (apply zg23; (refine zs52 ?_; intro _)) | (apply (zs62 ?_ ?_) <;> intro _ <;> try (exfalso; omega)) | apply (zs65 ?_) | apply (zs68 ?_) | apply (zs69 ?_) | apply (zs70 ?_) | (apply zg27; refine zs72 ?_) | apply (zs74 ?_) | apply (zs76 ?_) | fail)
    all_goals ((repeat apply Yq); apply Yc; exact rfl; exact rfl; exact ⟨rfl, rfl⟩)
theorem Ycr (n : NetM) (a : Int) (g : Nat) {B : Nat} {w0 : World} {H : List HP} {w : World} (hm : netB g n ∈ H) (hw : St B w0 H w) :
    Calls Tryz.prog 245 [.int .i64 a, .pointer (some ⟨g, 0, none⟩)].toArray w (Post B w0 fun v K => v = .bool (offE n.net a) ∧ K = H) := by
  refine Yd Tryz.func245 Tryz.ntmps245 rfl rfl hw ?_
  have e7 : n.net.nodes = n.nodes := rfl
  unfold offE
  rw [e7]
  by_cases h : a < 0 ∨ n.nodes ≤ a
  · rw [decide_eq_true h]
    repeat' (first | apply (zs1 ?_) | apply (zs2 ?_) | (apply zg1; first | refine zs3 ?_ | refine zs4 ?_) | (apply zg2; refine zs6 ?_) | (apply zg3; refine zs7 ?_) | (apply zg6; first | refine zs11 ?_ | refine zs12 ?_) | (apply (zs17 ?_ ?_) <;> intro _ <;> try (exfalso; omega)) | (apply (zs20 ?_ ?_) <;> intro _ <;> try (exfalso; omega)) | apply (zs65 ?_) | apply (zs68 ?_) | apply (zs69 ?_) | apply (zs70 ?_) | apply (zs74 ?_) | fail)
    all_goals (apply Yc; exact rfl; exact rfl; exact ⟨rfl, rfl⟩)
  · rw [decide_eq_false h]
    repeat' (first | apply (zs1 ?_) | apply (zs2 ?_) | (apply zg1; refine zs4 ?_) | (apply zg2; refine zs6 ?_) | (apply zg3; refine zs7 ?_) | (apply zg6; refine zs12 ?_) | (apply (zs17 ?_ ?_) <;> intro _ <;> try (exfalso; omega)) | (apply (zs20 ?_ ?_) <;> intro _ <;> try (exfalso; omega)) | apply (zs65 ?_) | apply (zs68 ?_) | apply (zs69 ?_) | apply (zs70 ?_) | apply (zs74 ?_) | fail)
    all_goals (apply Yc; exact rfl; exact rfl; exact ⟨rfl, rfl⟩)
open Go.RowKit Go.Eng Go.Nw
theorem YcA (l : List Int) (v : Int) (hlen : l.length ≤ 9223372036854775807) {A : Option Addr} {cap B : Nat} {w0 : World} {H : List HP} {w : World} (hr : Rd B w0 H A (l.flatMap numF)) (hw : St B w0 H w) :
    Calls Tryz.prog 45 [.slice A l.length cap, .int .i64 v].toArray w (Post B w0 fun u K => u = .int .i64 (Yt (fun x => decide (v = x)) l 0) ∧ K = H) := by
  refine Yd Tryz.func45 Tryz.ntmps45 rfl rfl hw ?_
  repeat' (first | apply (zs1 ?_) | apply (zs2 ?_) | (apply zg4; refine zs9 ?_) | apply (zs65 ?_) | apply (zs68 ?_) | apply (zs69 ?_) | apply (zs70 ?_) | apply (zs73 ?_) | fail)
  refine Yk (fun (k : Nat) => [(8, .int .i64 k), (7, .int .i64 l.length), (0, .slice A l.length cap), (1, .int .i64 v)]) (fun _ => H) (fun k => k ≤ l.length ∧ Yt (fun x => decide (v = x)) l 0 = Yt (fun x => decide (v = x)) (l.drop k) k) (fun k => l.length - k) 0 ⟨Nat.zero_le _, by simp⟩ ?_ (fun w hw => hw) ?_
  · exact zu
  rintro k ⟨hk, hi⟩ K hK
  by_cases hlt : k < l.length
  · obtain ⟨a, ha⟩ : ∃ a, l[k]? = some a := ⟨_, List.getElem?_eq_getElem hlt⟩
    rw [JL _ l ha] at hi
    repeat' (first | apply (zs1 ?_) | apply (zs2 ?_) | (apply zg3; refine zs60 ?_) | (apply zg5; refine zs57 ?_) | (apply zg7; (refine zs15 ?_ ?_ <;> intro _ <;> try (exfalso; omega))) | (apply (zs17 ?_ ?_) <;> intro _ <;> try (exfalso; omega)) | (apply zg13; refine zs30 ?_) | apply (zs65 ?_) | apply (zs68 ?_) | apply (zs69 ?_) | apply (zs70 ?_) | (apply zg27; first | refine zs71 ?_ | refine zs72 ?_) | apply (zs73 ?_) | apply (zs74 ?_) | apply (zs76 ?_) | apply (zs77 ?_) | apply (zs78 ?_) | apply (zs79 ?_) | fail)
    · rename_i h
      rw [if_pos (decide_eq_true h)] at hi
      ((repeat apply Yq); apply Yc; exact rfl; exact rfl; refine ⟨congrArg _ ?_, rfl⟩)
      rw [hi]
    · rename_i h
      rw [if_neg (by simp [h])] at hi
      repeat' (first | fail)
      apply hK (k + 1)
      · exact ⟨by omega, hi⟩
      · omega
      · exact zu
      · exact fun w hw => hw
  · repeat' (first | apply (zs2 ?_) | (apply (zs17 ?_ ?_) <;> intro _ <;> try (exfalso; omega)) | apply (zs65 ?_) | apply (zs68 ?_) | apply (zs69 ?_) | apply (zs70 ?_) | (apply zg27; refine zs72 ?_) | apply (zs74 ?_) | apply (zs75 ?_) | apply (zs80 ?_) | apply (zs81 ?_) | fail)
    ((repeat apply Yq); apply Yc; exact rfl; exact rfl; refine ⟨congrArg _ ?_, rfl⟩)
    rw [hi, List.drop_eq_nil_of_le (by omega)]; rfl
theorem O3 (l : List Int) (v : Int) (hlen : l.length ≤ 9223372036854775807) {A : Option Addr} {cap B : Nat} {w0 : World} {H : List HP} {w : World} (hr : Rd B w0 H A (l.flatMap numF)) (hw : St B w0 H w) :
    Calls Tryz.prog 246 [.slice A l.length cap, .int .i64 v].toArray w (Post B w0 fun u K => u = .bool (decide (v ∈ l)) ∧ K = H) := by
  refine Yd Tryz.func246 Tryz.ntmps246 rfl rfl hw ?_
  have hia := JZ (fun x => decide (v = x)) l 0 (by omega)
  have hmm : l.any (fun x => decide (v = x)) = true ↔ v ∈ l := by simp [List.any_eq_true]
  repeat' (first | ((first | apply Ya en45 | apply Yb en45); exact za; exact rfl; exact fun _ hw => (YcA l v hlen hr hw)) | apply (zs1 ?_) | apply (zs2 ?_) | (apply (zs20 ?_ ?_) <;> intro _ <;> try (exfalso; omega)) | apply (zs65 ?_) | apply (zs68 ?_) | apply (zs69 ?_) | apply (zs70 ?_) | apply (zs74 ?_) | fail)
  all_goals (apply Yc; exact rfl; exact rfl)
  · rename_i h; exact ⟨by rw [decide_eq_true (hmm.1 (hia.1 h))], rfl⟩
  · rename_i h
    exact ⟨by rw [decide_eq_false fun e => by have := hia.2 (hmm.2 e); omega], rfl⟩
theorem WR (l m : List Int) (hlen : l.length ≤ 9223372036854775807) (_hlen2 : m.length ≤ 9223372036854775807) {A A2 : Option Addr} {cap cap2 B : Nat} {w0 : World} {H : List HP} {w : World} (hr : Rd B w0 H A (l.flatMap numF)) (hr2 : Rd B w0 H A2 (m.flatMap numF)) (hw : St B w0 H w) :
    Calls Tryz.prog 33 [.slice A l.length cap, .slice A2 m.length cap2].toArray w (Post B w0 fun u K => u = .bool (decide (l = m)) ∧ K = H) := by
  refine Yd Tryz.func33 Tryz.ntmps33 rfl rfl hw ?_
  by_cases hll : l.length = m.length
  rotate_left
  · repeat' (first | apply (zs1 ?_) | apply (zs2 ?_) | (apply zg4; refine zs9 ?_) | (apply zg8; (refine zs16 ?_ ?_ <;> intro _ <;> try (exfalso; omega))) | apply (zs65 ?_) | apply (zs68 ?_) | apply (zs69 ?_) | apply (zs70 ?_) | (apply zg27; refine zs71 ?_) | apply (zs74 ?_) | apply (zs77 ?_) | fail)
    apply Yc; exact rfl; exact rfl
    exact ⟨by rw [decide_eq_false fun e => hll (by rw [e])], rfl⟩
  repeat' (first | apply (zs1 ?_) | apply (zs2 ?_) | (apply zg4; refine zs9 ?_) | (apply zg8; (refine zs16 ?_ ?_ <;> intro _ <;> try (exfalso; omega))) | apply (zs65 ?_) | apply (zs68 ?_) | apply (zs69 ?_) | apply (zs70 ?_) | (apply zg27; refine zs72 ?_) | apply (zs73 ?_) | apply (zs76 ?_) | fail)
  refine Yk (fun (k : Nat) => [(13, .int .i64 k), (12, .int .i64 l.length), (0, .slice A l.length cap), (1, .slice A2 m.length cap2)]) (fun _ => H) (fun k => k ≤ l.length ∧ l.take k = m.take k) (fun k => l.length - k) 0 ⟨Nat.zero_le _, by simp⟩ ?_ (fun w hw => hw) ?_
  · exact zu
  rintro k ⟨hk, hi⟩ K hK
  by_cases hlt : k < l.length
  · obtain ⟨a, ha⟩ : ∃ a, l[k]? = some a := ⟨_, List.getElem?_eq_getElem hlt⟩
    obtain ⟨b, hb⟩ : ∃ b, m[k]? = some b := ⟨_, List.getElem?_eq_getElem (by omega)⟩
    repeat' (first | apply (zs1 ?_) | apply (zs2 ?_) | (apply zg3; refine zs60 ?_) | (apply zg5; refine zs57 ?_) | (apply zg8; (refine zs16 ?_ ?_ <;> intro _ <;> try (exfalso; omega))) | (apply (zs17 ?_ ?_) <;> intro _ <;> try (exfalso; omega)) | (apply zg13; refine zs30 ?_) | apply (zs65 ?_) | apply (zs66 ?_) | apply (zs68 ?_) | apply (zs69 ?_) | apply (zs70 ?_) | (apply zg27; first | refine zs71 ?_ | refine zs72 ?_) | apply (zs73 ?_) | apply (zs74 ?_) | apply (zs76 ?_) | apply (zs77 ?_) | apply (zs78 ?_) | apply (zs79 ?_) | (apply zg28; refine zs83 ?_) | fail)
    · rename_i h
      apply Yc; exact rfl; exact rfl
      exact ⟨by rw [decide_eq_false fun e => by rw [e, hb] at ha; exact h (Option.some.inj ha).symm], rfl⟩
    · rename_i h
      apply hK (k + 1)
      · exact ⟨by omega, by rw [ZX ha, ZX hb, hi, h]⟩
      · omega
      · exact zu
      · exact fun w hw => hw
  · repeat' (first | apply (zs2 ?_) | (apply (zs17 ?_ ?_) <;> intro _ <;> try (exfalso; omega)) | apply (zs65 ?_) | apply (zs68 ?_) | apply (zs69 ?_) | apply (zs70 ?_) | (apply zg27; refine zs72 ?_) | apply (zs74 ?_) | apply (zs75 ?_) | apply (zs80 ?_) | apply (zs81 ?_) | fail)
    apply Yc; exact rfl; exact rfl
    rw [List.take_of_length_le (by omega), List.take_of_length_le (by omega)] at hi
    exact ⟨by rw [decide_eq_true hi], rfl⟩
open Go.RowKit Go.Eng Go.Nw Go.Rt
theorem Yi0 {l : List Int} {A : Option Addr} {cap : Nat} {B : Nat} {w0 : World} {H : List HP} (k : Nat) (hr : Rd B w0 H A (l.flatMap numF)) (hc : l.length ≤ cap) : Rd B w0 H (subA A 0 cap 1) ((l.take k).flatMap numF) := by
  have h := Rd.sub (f := numF) (q := 1) (o := 0) (k := k) (fun _ => rfl) hr hc
  rwa [List.drop_zero] at h
theorem Yi1 {l : List Int} {A : Option Addr} {cap : Nat} {B : Nat} {w0 : World} {H : List HP} (o : Nat) (hr : Rd B w0 H A (l.flatMap numF)) (hc : l.length ≤ cap) : Rd B w0 H (subA A o cap 1) ((l.drop o).flatMap numF) := by
  have h := Rd.sub (f := numF) (q := 1) (o := o) (k := (l.drop o).length) (fun _ => rfl) hr hc
  rwa [List.take_length] at h
theorem Yam {p : Nat → Bool} {k : Nat} (h : (List.range k).any p = false) (h2 : p k = false) : (List.range (k + 1)).any p = false := by
  rw [OO, h, h2]; rfl
theorem Ycb {p : Nat → Bool} {k n : Nat} (hk : k < n) (h : p k = true) : (List.range n).any p = true := List.any_eq_true.2 ⟨k, List.mem_range.2 hk, h⟩
set_option maxHeartbeats 1000000 in
theorem Ydt (n : NetM) (s t : Int) (r : List Int) {A : Option Addr} {cap B : Nat} {w0 : World} {H : List HP} {w : World} (hin : n.In B w0 H) (hck : YA n.net = 0) (hr : Rd B w0 H A (r.flatMap numF)) (hlen : r.length ≤ 9223372036854775807) (hcap : r.length ≤ cap) (hw : St B w0 H w) :
    Calls Tryz.prog 206 [n.val, .int .i64 s, .int .i64 t, .slice A r.length cap].toArray w (Post B w0 fun v K => v = .int .i64 (O9 n.net s t r) ∧ K = H) := by
  refine Yd Tryz.func206 Tryz.ntmps206 rfl rfl hw ?_
  (apply JT; apply ZR; apply Zi; exact rfl; exact rfl; intro g)
  have hnm : netB g n ∈ netB g n :: H := List.mem_cons_self
  unfold O9
  by_cases h1 : r.length < 2
  · rw [if_pos h1]
    repeat' (first | apply (zs1 ?_) | apply (zs2 ?_) | (apply zg4; refine zs9 ?_) | (apply (zs17 ?_ ?_) <;> intro _ <;> try (exfalso; omega)) | apply (zs65 ?_) | apply (zs68 ?_) | apply (zs69 ?_) | apply (zs70 ?_) | (apply zg27; refine zs71 ?_) | apply (zs73 ?_) | apply (zs74 ?_) | apply (zs77 ?_) | apply (zs78 ?_) | fail)
    (repeat apply Yq); apply Yc; exact rfl; exact rfl
    exact ⟨rfl, rfl⟩
  rw [if_neg h1]
  by_cases h2 : 9 < r.length
  · rw [if_pos h2]
    repeat' (first | apply (zs1 ?_) | apply (zs2 ?_) | (apply zg4; refine zs9 ?_) | (apply (zs17 ?_ ?_) <;> intro _ <;> try (exfalso; omega)) | (apply (zs19 ?_ ?_) <;> intro _ <;> try (exfalso; omega)) | apply (zs65 ?_) | apply (zs68 ?_) | apply (zs69 ?_) | apply (zs70 ?_) | (apply zg27; first | refine zs71 ?_ | refine zs72 ?_) | apply (zs73 ?_) | apply (zs74 ?_) | apply (zs77 ?_) | apply (zs78 ?_) | fail)
    (repeat apply Yq); apply Yc; exact rfl; exact rfl
    exact ⟨rfl, rfl⟩
  rw [if_neg h2]
  have hoff := fun {w : World} (hw : St B w0 (netB g n :: H) w) => UG (fun a : Int => Value.int .i64 a) (offE n.net) r 245 [.pointer (some ⟨g, 0, none⟩)] YiU hlen (cap := cap) (hr.cons) (fun a _ w hw => Ycr n a g hnm hw) hw
  obtain ⟨b3, h3⟩ : ∃ b, r.any (offE n.net) = b := ⟨_, rfl⟩
  rw [h3] at hoff ⊢
  cases b3 with
  | true =>
    rw [if_pos rfl]
    repeat' (first | ((first | apply Ya Yax | apply Yb Yax); exact za; exact rfl; exact fun _ hw => (hoff hw)) | apply (zs1 ?_) | apply (zs2 ?_) | (apply zg4; refine zs9 ?_) | (apply (zs17 ?_ ?_) <;> intro _ <;> try (exfalso; omega)) | (apply (zs19 ?_ ?_) <;> intro _ <;> try (exfalso; omega)) | apply (zs65 ?_) | apply (zs68 ?_) | apply (zs69 ?_) | apply (zs70 ?_) | (apply zg27; first | refine zs71 ?_ | refine zs72 ?_) | apply (zs73 ?_) | apply (zs74 ?_) | apply (zs77 ?_) | apply (zs78 ?_) | (apply zg29; (apply Yr; exact za ; exact rfl)) | fail)
    (repeat apply Yq); apply Yc; exact rfl; exact rfl
    exact ⟨rfl, rfl⟩
  | false =>
    rw [if_neg (by decide)]
    have hg0 := Z7 (l := r) (i := 0) (by omega)
    have hg1 := Z7 (l := r) (i := r.length - 1) (by omega)
    have hgi : ((r.length : Int) - 1).toNat = r.length - 1 := by omega
    rw [← hgi] at hg1
    by_cases h4 : r.getD 0 0 ≠ s ∨ r.getD (r.length - 1) 0 ≠ t
    · rw [if_pos h4]
      rw [← hgi] at h4
      repeat' (first | ((first | apply Ya Yax | apply Yb Yax); exact za; exact rfl; exact fun _ hw => (hoff hw)) | apply (zs1 ?_) | apply (zs2 ?_) | (apply zg1; first | refine zs3 ?_ | refine zs4 ?_) | (apply zg3; refine zs60 ?_) | (apply zg4; refine zs9 ?_) | (apply zg5; refine zs57 ?_) | (apply zg6; first | refine zs11 ?_ | refine zs12 ?_) | (apply zg8; (refine zs16 ?_ ?_ <;> intro _ <;> try (exfalso; omega))) | (apply (zs17 ?_ ?_) <;> intro _ <;> try (exfalso; omega)) | (apply (zs19 ?_ ?_) <;> intro _ <;> try (exfalso; omega)) | (apply zg14; refine zs31 ?_) | apply (zs65 ?_) | apply (zs68 ?_) | apply (zs69 ?_) | apply (zs70 ?_) | (apply zg27; first | refine zs71 ?_ | refine zs72 ?_) | apply (zs73 ?_) | apply (zs74 ?_) | apply (zs77 ?_) | apply (zs78 ?_) | (apply zg29; (apply Yr; exact za ; exact rfl)) | fail)
      all_goals first
        | ((repeat apply Yq); apply Yc; exact rfl; exact rfl; exact ⟨rfl, rfl⟩)
        | skip
      done
    rw [if_neg h4]
    rw [← hgi] at h4
    repeat' (first | ((first | apply Ya Yax | apply Yb Yax); exact za; exact rfl; exact fun _ hw => (hoff hw)) | apply (zs1 ?_) | apply (zs2 ?_) | (apply zg1; refine zs4 ?_) | (apply zg3; refine zs60 ?_) | (apply zg4; refine zs9 ?_) | (apply zg5; refine zs57 ?_) | (apply zg6; refine zs12 ?_) | (apply zg8; (refine zs16 ?_ ?_ <;> intro _ <;> try (exfalso; omega))) | (apply (zs17 ?_ ?_) <;> intro _ <;> try (exfalso; omega)) | (apply (zs19 ?_ ?_) <;> intro _ <;> try (exfalso; omega)) | (apply zg14; refine zs31 ?_) | apply (zs65 ?_) | apply (zs68 ?_) | apply (zs69 ?_) | apply (zs70 ?_) | (apply zg27; refine zs72 ?_) | apply (zs73 ?_) | apply (zs76 ?_) | apply (zs79 ?_) | (apply zg29; (apply Yr; exact za ; exact rfl)) | fail)
    refine Yk (fun (k : Nat) => [(43, .int .i64 k), (42, .int .i64 r.length), (41, .slice A r.length cap), (3, .slice A r.length cap), (4, .pointer (some ⟨g, 0, none⟩))]) (fun _ => netB g n :: H) (fun k => k ≤ r.length ∧ ((List.range k).any fun i => (r.take i).contains (r.getD i 0)) = false) (fun k => r.length - k) 0 ⟨Nat.zero_le _, rfl⟩ ?_ (fun w hw => hw) ?_
    · exact zu
    rintro k ⟨hk, hi⟩ K hK
    by_cases hlt : k < r.length
    · have hgk := Z7 (l := r) (i := k) hlt
      obtain ⟨b, hb⟩ : ∃ b, (r.take k).contains (r.getD k 0) = b := ⟨_, rfl⟩
      have hbm : decide (r.getD k 0 ∈ r.take k) = b := by rw [← hb]; simp
      have hcon := fun {w : World} (hw : St B w0 (netB g n :: H) w) => O3 (r.take k) (r.getD k 0) (by rw [List.length_take]; omega) (cap := cap) (Yi0 k (hr.cons (X := netB g n)) hcap) hw
      rw [hbm] at hcon
      cases b with
      | true =>
        repeat' (first | (apply XU T (l := r) (n' := (r.take k).length); exact rfl; exact rfl; exact rfl; exact rfl; omega; exact hcap; (simp; omega)) | ((first | apply Ya Yeg | apply Yb Yeg); exact za; exact rfl; exact fun _ hw => (hcon hw)) | apply (zs1 ?_) | apply (zs2 ?_) | (apply zg3; refine zs60 ?_) | (apply zg5; refine zs57 ?_) | (apply (zs17 ?_ ?_) <;> intro _ <;> try (exfalso; omega)) | apply (zs65 ?_) | apply (zs68 ?_) | apply (zs69 ?_) | apply (zs70 ?_) | (apply zg27; refine zs71 ?_) | apply (zs73 ?_) | apply (zs74 ?_) | apply (zs76 ?_) | apply (zs77 ?_) | apply (zs78 ?_) | fail)
        (repeat apply Yq); apply Yc; exact rfl; exact rfl
        have htw : QS r = true := Ycb hlt hb
        exact ⟨by rw [if_pos htw], rfl⟩
      | false =>
        repeat' (first | (apply XU T (l := r) (n' := (r.take k).length); exact rfl; exact rfl; exact rfl; exact rfl; omega; exact hcap; (simp; omega)) | ((first | apply Ya Yeg | apply Yb Yeg); exact za; exact rfl; exact fun _ hw => (hcon hw)) | apply (zs1 ?_) | apply (zs2 ?_) | (apply zg3; refine zs60 ?_) | (apply zg5; refine zs57 ?_) | (apply (zs17 ?_ ?_) <;> intro _ <;> try (exfalso; omega)) | (apply zg13; refine zs30 ?_) | apply (zs65 ?_) | apply (zs68 ?_) | apply (zs69 ?_) | apply (zs70 ?_) | (apply zg27; first | refine zs71 ?_ | refine zs72 ?_) | apply (zs73 ?_) | apply (zs76 ?_) | apply (zs79 ?_) | fail)
        apply hK (k + 1)
        · exact ⟨by omega, Yam hi hb⟩
        · omega
        · exact zu
        · exact fun w hw => hw
    obtain rfl : k = r.length := by omega
    clear hK
    have htw : QS r = false := hi
    rw [if_neg (by rw [htw]; decide)]
    have hdl : (r.drop 1).length = r.length - 1 := List.length_drop
    repeat' (first | (apply Vk T (n' := (r.drop 1).length); exact rfl; exact rfl; exact rfl; exact rfl; omega; (rw [hdl]; rfl)) | apply (zs1 ?_) | (apply zg4; refine zs9 ?_) | (apply (zs17 ?_ ?_) <;> intro _ <;> try (exfalso; omega)) | apply (zs65 ?_) | apply (zs68 ?_) | apply (zs69 ?_) | apply (zs70 ?_) | (apply zg27; refine zs72 ?_) | apply (zs73 ?_) | apply (zs75 ?_) | apply (zs80 ?_) | apply (zs81 ?_) | fail)
    refine Yk (fun (k : Nat) => [(57, .int .i64 k), (56, .int .i64 (r.drop 1).length), (55, .slice (subA A 1 cap 1) (r.drop 1).length (cap - 1)), (3, .slice A r.length cap), (4, .pointer (some ⟨g, 0, none⟩))]) (fun _ => netB g n :: H) (fun k => k ≤ (r.drop 1).length ∧ ((List.range k).any fun i => !YY n.net (r.getD i 0) (r.getD (i + 1) 0)) = false) (fun k => (r.drop 1).length - k) 0 ⟨Nat.zero_le _, rfl⟩ ?_ (fun w hw => hw) ?_
    · exact zu
    rintro k ⟨hk, hi⟩ K hK
    have hr1 : Rd B w0 (netB g n :: H) (subA A 1 cap 1) ((r.drop 1).flatMap numF) := Yi1 1 (hr.cons) hcap
    have hr0 : Rd B w0 (netB g n :: H) A (r.flatMap numF) := hr.cons
    by_cases hlt : k < (r.drop 1).length
    · have hgk := Z7 (l := r) (i := k) (by omega)
      have hgk1 : (r.drop 1)[k]? = some (r.getD (k + 1) 0) := by
        rw [List.getElem?_drop, Nat.add_comm]; exact Z7 (by omega)
      obtain ⟨b, hb⟩ : ∃ b, YY n.net (r.getD k 0) (r.getD (k + 1) 0) = b := ⟨_, rfl⟩
      have hus := fun {w : World} (hw : St B w0 (netB g n :: H) w) => Wz n (ZE n.net (r.getD k 0) (r.getD (k + 1) 0)) (hin.cons (X := netB g n)) hw
      rw [YbL hck, hb] at hus
      cases b with
      | true =>
        repeat' (first | ((first | apply Ya en95 | apply Yb en95); exact za; exact rfl; exact fun _ hw => (Zk n _ _ (hin.cons) hw)) | ((first | apply Ya Jr | apply Yb Jr); exact za; exact rfl; exact fun _ hw => (hus hw)) | apply (zs1 ?_) | apply (zs2 ?_) | (apply zg3; first | refine zs8 ?_ | refine zs60 ?_) | (apply zg5; refine zs57 ?_) | (apply (zs17 ?_ ?_) <;> intro _ <;> try (exfalso; omega)) | (apply zg13; refine zs30 ?_) | (apply zg20; refine zs47 ?_) | apply (zs65 ?_) | apply (zs66 ?_) | apply (zs68 ?_) | apply (zs69 ?_) | apply (zs70 ?_) | (apply zg27; first | refine zs71 ?_ | refine zs72 ?_) | apply (zs73 ?_) | apply (zs76 ?_) | apply (zs79 ?_) | (apply zg28; refine zs84 ?_) | fail)
        apply hK (k + 1)
        · exact ⟨by omega, Yam hi (by rw [hb]; rfl)⟩
        · omega
        · exact zu
        · exact fun w hw => hw
      | false =>
        repeat' (first | ((first | apply Ya en95 | apply Yb en95); exact za; exact rfl; exact fun _ hw => (Zk n _ _ (hin.cons) hw)) | ((first | apply Ya Jr | apply Yb Jr); exact za; exact rfl; exact fun _ hw => (hus hw)) | apply (zs1 ?_) | apply (zs2 ?_) | (apply zg3; first | refine zs8 ?_ | refine zs60 ?_) | (apply zg5; refine zs57 ?_) | (apply (zs17 ?_ ?_) <;> intro _ <;> try (exfalso; omega)) | (apply zg20; refine zs48 ?_) | apply (zs65 ?_) | apply (zs66 ?_) | apply (zs68 ?_) | apply (zs69 ?_) | apply (zs70 ?_) | (apply zg27; refine zs71 ?_) | apply (zs73 ?_) | apply (zs74 ?_) | apply (zs76 ?_) | apply (zs77 ?_) | apply (zs78 ?_) | (apply zg28; refine zs84 ?_) | fail)
        (repeat apply Yq); apply Yc; exact rfl; exact rfl
        have hbr : VY n.net r = true := Ycb (k := k) (by omega) (by rw [hb]; rfl)
        exact ⟨by rw [if_pos hbr], rfl⟩
    · obtain rfl : k = (r.drop 1).length := by omega
      clear hK
      repeat' (first | apply (zs2 ?_) | (apply (zs17 ?_ ?_) <;> intro _ <;> try (exfalso; omega)) | apply (zs65 ?_) | apply (zs68 ?_) | apply (zs69 ?_) | apply (zs70 ?_) | (apply zg27; refine zs72 ?_) | apply (zs74 ?_) | apply (zs75 ?_) | apply (zs80 ?_) | apply (zs81 ?_) | fail)
      (repeat apply Yq); apply Yc; exact rfl; exact rfl
      have hbr : VY n.net r = false := by rw [hdl] at hi; exact hi
      exact ⟨by rw [if_neg (by rw [hbr]; decide)], rfl⟩
open Go.RowKit Go.Eng Go.Nw Go.Rt
theorem YaF {n : Net} {a b : Int} (h : YY n a b = true) : 0 ≤ YF n a b := by
  unfold YY at h
  simp only [Bool.and_eq_true, decide_eq_true_eq] at h
  exact h.1
theorem Yge {n : Net} {s t : Int} {r : List Int} (h : O9 n s t r = 0) : (2 ≤ r.length ∧ r.length ≤ 9) ∧ r.any (offE n) = false ∧ (r.getD 0 0 = s ∧ r.getD (r.length - 1) 0 = t) ∧ QS r = false ∧ VY n r = false := by
  unfold O9 at h
  by_cases h1 : r.length < 2
  · rw [if_pos h1] at h; cases h
  rw [if_neg h1] at h
  by_cases h2 : 9 < r.length
  · rw [if_pos h2] at h; cases h
  rw [if_neg h2] at h
  cases h3 : r.any (offE n) with
  | true => rw [h3, if_pos rfl] at h; cases h
  | false =>
    rw [h3, if_neg (by decide)] at h
    by_cases h4 : r.getD 0 0 ≠ s ∨ r.getD (r.length - 1) 0 ≠ t
    · rw [if_pos h4] at h; cases h
    rw [if_neg h4] at h
    cases h5 : QS r with
    | true => rw [h5, if_pos rfl] at h; cases h
    | false =>
      rw [h5, if_neg (by decide)] at h
      cases h6 : VY n r with
      | true => rw [h6, if_pos rfl] at h; cases h
      | false => exact ⟨by omega, rfl, by omega, rfl, rfl⟩
theorem OC (n : NetM) (s t : Int) (r : List Int) {A : Option Addr} {cap B : Nat} {w0 : World} {H : List HP} {w : World} (hin : n.In B w0 H) (hr : Rd B w0 H A (r.flatMap numF)) (hlen : r.length ≤ 9223372036854775807) (hcap : r.length ≤ cap) (hw : St B w0 H w) :
    Calls Tryz.prog 148 [n.val, .int .i64 s, .int .i64 t, .slice A r.length cap].toArray w (Post B w0 fun v K => v = .int .i64 (ZB n.net s t r) ∧ K = H) := by
  refine Yd Tryz.func148 Tryz.ntmps148 rfl rfl hw ?_
  unfold ZB
  by_cases h0 : WQ n.net s t = 0
  · have hck : YA n.net = 0 := by
      unfold WQ at h0
      by_cases h : YA n.net = 0
      · exact h
      · rw [if_pos h] at h0; cases h0
    have hen := fun {H : List HP} {w : World} (hin : n.In B w0 H) (hw : St B w0 H w) => Yay n s t hin hw
    rw [h0] at hen
    rw [if_neg (fun h => h h0)]
    repeat' (first | ((first | apply Ya Yee | apply Yb Yee); exact za; exact rfl; exact fun _ hw => (hen hin.cons hw)) | ((first | apply Ya YhS | apply Yb YhS); exact za; exact rfl; exact fun _ hw => (Ydt n s t r hin.cons hck hr.cons hlen hcap hw)) | apply (zs1 ?_) | apply (zs2 ?_) | (apply zg3; refine zs8 ?_) | (apply zg8; (refine zs16 ?_ ?_ <;> intro _ <;> try (exfalso; omega))) | (apply zg23; (refine zs52 ?_; intro _)) | apply (zs65 ?_) | apply (zs68 ?_) | apply (zs69 ?_) | apply (zs70 ?_) | (apply zg27; refine zs72 ?_) | apply (zs74 ?_) | apply (zs76 ?_) | fail)
    (repeat apply Yq); apply Yc; exact rfl; exact rfl; exact ⟨rfl, rfl⟩
  · rw [if_pos h0]
    repeat' (first | ((first | apply Ya Yee | apply Yb Yee); exact za; exact rfl; exact fun _ hw => (Yay n s t hin.cons hw)) | apply (zs1 ?_) | apply (zs2 ?_) | (apply zg3; refine zs8 ?_) | (apply zg8; (refine zs16 ?_ ?_ <;> intro _ <;> try (exfalso; omega))) | (apply zg23; (refine zs52 ?_; intro _)) | apply (zs65 ?_) | apply (zs68 ?_) | apply (zs69 ?_) | apply (zs70 ?_) | (apply zg27; refine zs71 ?_) | apply (zs74 ?_) | apply (zs77 ?_) | fail)
    (repeat apply Yq); apply Yc; exact rfl; exact rfl; exact ⟨rfl, rfl⟩
open Go.RowKit Go.Eng Go.Nw Go.Rt
structure WayM where
  n : NetM
  s : SchM
  f : Flw
  A : Option Addr
  cap : Nat
  r : List Int
def WayM.val (x : WayM) : Value := .agg #[.int .i64 x.n.nodes, .slice x.n.pA x.n.rows.length x.n.pcap, .int .i64 x.n.noise, .int .i64 x.n.thr, .slice x.n.lA x.n.links.length x.n.lcap, .slice x.n.mA x.n.margin.length x.n.mcap, .int .i64 x.s.len, .int .i64 x.s.off, .slice x.s.A x.s.cells.length x.s.cap, .int .i64 x.f.1, .int .i64 x.f.2.1, .int .i64 x.f.2.2.1, .int .i64 x.f.2.2.2.1, .int .i64 x.f.2.2.2.2.1, .int .i64 x.f.2.2.2.2.2, .slice x.A x.r.length x.cap, .int .i64 0]
abbrev wayB (g : Nat) (x : WayM) : HP := blk g (.cells #[.int .i64 x.n.nodes, .slice x.n.pA x.n.rows.length x.n.pcap, .int .i64 x.n.noise, .int .i64 x.n.thr, .slice x.n.lA x.n.links.length x.n.lcap, .slice x.n.mA x.n.margin.length x.n.mcap, .int .i64 x.s.len, .int .i64 x.s.off, .slice x.s.A x.s.cells.length x.s.cap, .int .i64 x.f.1, .int .i64 x.f.2.1, .int .i64 x.f.2.2.1, .int .i64 x.f.2.2.2.1, .int .i64 x.f.2.2.2.2.1, .int .i64 x.f.2.2.2.2.2, .slice x.A x.r.length x.cap, .int .i64 0] 151 (0, 0))
structure WayM.In (B : Nat) (w0 : World) (H : List HP) (x : WayM) : Prop where
  n : x.n.In B w0 H
  s : Rd B w0 H x.s.A (x.s.cells.flatMap celF)
  r : Rd B w0 H x.A (x.r.flatMap numF)
  sl : x.s.cells.length ≤ 1000000000000
  rl : x.r.length ≤ 1000000000000
  rc : x.r.length ≤ x.cap
theorem WayM.In.cons {B : Nat} {w0 : World} {H : List HP} {x : WayM} {X : HP} (h : x.In B w0 H) : x.In B w0 (X :: H) := ⟨h.n.cons, h.s.cons, h.r.cons, h.sl, h.rl, h.rc⟩
theorem WayM.In.mono {B : Nat} {w0 : World} {H H' : List HP} {x : WayM} (h : x.In B w0 H) (hH : ∀ w, St B w0 H' w → St B w0 H w) : x.In B w0 H' := ⟨h.n.mono hH, h.s.mono hH, h.r.mono hH, h.sl, h.rl, h.rc⟩
theorem YeL {nodes : Int} {f : Flw} (h : 2 ≤ nodes ∧ nodes ≤ 32) : ((YV nodes [f]).2 = 0 ↔ XW nodes f = 0) := by
  unfold YV
  rw [if_neg (by omega), if_neg (by simp)]
  have e : YS nodes [f] 0 = XW nodes f := by
    unfold YS
    show (if XW nodes f ≠ 0 then XW nodes f else if 0 < 0 ∧ _ then 5 else 0) = _
    by_cases h : XW nodes f = 0
    · rw [if_neg (fun e => e h), if_neg (by omega), h]
    · rw [if_pos h]
  show (Yx _ 1 0).2 = 0 ↔ _
  unfold Yx Yx
  rw [e]
  split
  · rename_i h; exact ⟨fun _ => h, fun _ => rfl⟩
  · rename_i h; exact ⟨fun h2 => absurd h2 h, fun h2 => absurd h2 h⟩
set_option maxRecDepth 10000 in
set_option maxHeartbeats 4000000 in
theorem Ydb (x : WayM) {B : Nat} {w0 : World} {H : List HP} {w : World} (ht : TabsB B w0) (hi : x.In B w0 H) (hw : St B w0 H w) :
    Calls Tryz.prog 85 [x.val].toArray w (Post B w0 fun v K => v = .int .i64 (wayE x.n.net x.s.sch x.f x.r) ∧ K = H) := by
  refine Yd Tryz.func85 Tryz.ntmps85 rfl rfl hw ?_
  have p1 := fun {H' : List HP} {w : World} (hin : x.n.In B w0 H') (hw : St B w0 H' w) => YK x.n hin hw
  have p2 := fun {H' : List HP} {w : World} (hr : Rd B w0 H' x.s.A (x.s.cells.flatMap celF)) (hw : St B w0 H' w) => YdE x.s ht hr hi.sl hw
  have p3 := fun {g cap : Nat} {H' : List HP} {w : World} (hm : blk g (.cells #[.int .i64 x.f.1, .int .i64 x.f.2.1, .int .i64 x.f.2.2.1, .int .i64 x.f.2.2.2.1, .int .i64 x.f.2.2.2.2.1, .int .i64 x.f.2.2.2.2.2] 68 (0, 0)) ∈ H') (hw : St B w0 H' w) => YO x.n.nodes [x.f] (Nat.le_of_ble_eq_true rfl) (A := some ⟨g, 0, none⟩) (cap := cap) (show Rd B w0 H' _ ([x.f].flatMap flwF) from Rd.blk hm) hw
  have p4 := fun {H' : List HP} {w : World} (hin : x.n.In B w0 H') (hr : Rd B w0 H' x.A (x.r.flatMap numF)) (hw : St B w0 H' w) => OC x.n x.f.2.1 x.f.2.2.1 x.r (cap := x.cap) hin hr (Nat.le_trans hi.rl (by decide)) hi.rc hw
  have hn := hi.n
  have hs := hi.s
  have hr := hi.r
  have hfo := @YeL x.n.net.nodes x.f
  have hok := fun h : YA x.n.net = 0 => (Xa h).n0
  have hok1 := fun h : YA x.n.net = 0 => (Xa h).n1
  have hpe : (J7 x.s.sch).2 = 0 ↔ XY x.s.sch = true := by
    unfold J7
    cases hf : XY x.s.sch with
    | true => rw [if_neg (by decide)]; simp
    | false => rw [if_pos rfl]; simp
  unfold wayE
  rw [show x.n.net.nodes = x.n.nodes from rfl] at *
  rw [show x.s.sch.len = x.s.len from rfl] at *
  obtain ⟨c, hc⟩ : ∃ c, YA x.n.net = c := ⟨_, rfl⟩
  obtain ⟨⟨t, e⟩, he⟩ : ∃ e, J7 x.s.sch = e := ⟨_, rfl⟩
  obtain ⟨⟨i, a⟩, ha⟩ : ∃ a, YV x.n.nodes [x.f] = a := ⟨_, rfl⟩
  obtain ⟨k, hk⟩ : ∃ k, ZB x.n.net x.f.2.1 x.f.2.2.1 x.r = k := ⟨_, rfl⟩
  rw [hc] at p1 hok hok1 ⊢
  rw [he] at p2 hpe
  rw [ha] at p3 hfo
  rw [hk] at p4 ⊢
  dsimp only at p2 p3 hpe hfo
  unfold WayM.val
  by_cases h1 : c = 0
  rotate_left
  · rw [if_pos (.inl h1)]
    repeat' (first | ((first | apply Ya en50 | apply Yb en50); exact za; exact rfl; exact fun _ hw => (p1 hn.cons hw)) | (apply Xd T; exact rfl; exact zm; exact rfl; exact zv; exact rfl; exact rfl) | apply (zs2 ?_) | (apply zg2; refine zs6 ?_) | (apply zg8; (refine zs16 ?_ ?_ <;> intro _ <;> try (exfalso; omega))) | (apply zg23; (refine zs52 ?_; intro _)) | apply (zs65 ?_) | apply (zs68 ?_) | apply (zs69 ?_) | apply (zs70 ?_) | (apply zg27; refine zs71 ?_) | apply (zs74 ?_) | apply (zs77 ?_) | fail)
    apply Yi H
    · exact zk
    apply Yc; exact rfl; exact rfl; exact ⟨rfl, rfl⟩
  subst h1
  have hfo := hfo ⟨hok rfl, hok1 rfl⟩
  by_cases h2 : e = 0
  rotate_left
  · rw [if_pos (.inr (.inl (by cases hf : XY x.s.sch with | false => rfl | true => exact absurd (hpe.2 hf) h2)))]
    repeat' (first | ((first | apply Ya en50 | apply Yb en50); exact za; exact rfl; exact fun _ hw => (p1 hn.cons hw)) | ((first | apply Ya en47 | apply Yb en47); exact za; exact rfl; exact fun _ hw => (p2 hs.cons hw)) | (apply Xd T; exact rfl; exact zm; exact rfl; exact zv; exact rfl; exact rfl) | apply (zs1 ?_) | apply (zs2 ?_) | (apply zg2; refine zs6 ?_) | apply (zs13 ?_) | (apply zg8; (refine zs16 ?_ ?_ <;> intro _ <;> try (exfalso; omega))) | (apply zg23; (refine zs52 ?_; intro _)) | apply (zs65 ?_) | apply (zs68 ?_) | apply (zs69 ?_) | apply (zs70 ?_) | (apply zg27; first | refine zs71 ?_ | refine zs72 ?_) | apply (zs74 ?_) | apply (zs76 ?_) | apply (zs77 ?_) | fail)
    apply Yi H
    · exact zk
    apply Yc; exact rfl; exact rfl; exact ⟨rfl, rfl⟩
  subst h2
  have hfe := hpe.1 rfl
  by_cases h3 : a = 0
  rotate_left
  · rw [if_pos (.inr (.inr (fun h => h3 (hfo.2 h))))]
    repeat' (first | ((first | apply Ya en50 | apply Yb en50); exact za; exact rfl; exact fun _ hw => (p1 hn.cons hw)) | ((first | apply Ya en47 | apply Yb en47); exact za; exact rfl; exact fun _ hw => (p2 hs.cons hw)) | ((first | apply Ya en51 | apply Yb en51); exact za; exact rfl; exact fun _ hw => (p3 zm hw)) | (apply Xd T; exact rfl; exact zm; exact rfl; exact zv; exact rfl; exact rfl) | apply (zs1 ?_) | apply (zs2 ?_) | (apply zg2; refine zs6 ?_) | (apply zg3; refine zs7 ?_) | apply (zs13 ?_) | (apply zg8; (refine zs16 ?_ ?_ <;> intro _ <;> try (exfalso; omega))) | (apply zg23; (refine zs52 ?_; intro _)) | (apply zg26; (refine zs56 ?_; intro _)) | apply (zs65 ?_) | apply (zs68 ?_) | apply (zs69 ?_) | apply (zs70 ?_) | (apply zg27; first | refine zs71 ?_ | refine zs72 ?_) | apply (zs74 ?_) | apply (zs76 ?_) | apply (zs77 ?_) | fail)
    apply Yi H
    · exact zk
    apply Yc; exact rfl; exact rfl; exact ⟨rfl, rfl⟩
  subst h3
  have hfz := hfo.1 rfl
  rw [if_neg (by rintro (h | h | h); exact h rfl; rw [hfe] at h; cases h; exact h hfz)]
  have hp1 : 1 ≤ x.f.2.2.2.1 := by
    unfold XW at hfz
    split at hfz
    · cases hfz
    split at hfz
    · cases hfz
    omega
  have hsz : 1 ≤ x.s.len ∧ x.s.len ≤ 512 := by
    have := of_decide_eq_true (Qg.1 hfe).sized
    exact ⟨this.1, this.2.1⟩
  rw [Int.tmod_eq_emod_of_nonneg (show 0 ≤ x.s.len by omega)]
  by_cases h4 : x.s.len % x.f.2.2.2.1 = 0
  rotate_left
  · rw [if_pos h4]
    repeat' (first | ((first | apply Ya en50 | apply Yb en50); exact za; exact rfl; exact fun _ hw => (p1 hn.cons hw)) | ((first | apply Ya en47 | apply Yb en47); exact za; exact rfl; exact fun _ hw => (p2 hs.cons hw)) | ((first | apply Ya en51 | apply Yb en51); exact za; exact rfl; exact fun _ hw => (p3 zm hw)) | (apply Xd T; exact rfl; exact zm; exact rfl; exact zv; exact rfl; exact rfl) | apply (zs1 ?_) | apply (zs2 ?_) | (apply zg2; refine zs6 ?_) | (apply zg3; refine zs7 ?_) | apply (zs13 ?_) | (apply zg8; (refine zs16 ?_ ?_ <;> intro _ <;> try (exfalso; omega))) | (apply zg17; refine zs37 ?_) | (apply zg23; (refine zs52 ?_; intro _)) | (apply zg26; (refine zs56 ?_; intro _)) | apply (zs65 ?_) | apply (zs68 ?_) | apply (zs69 ?_) | apply (zs70 ?_) | (apply zg27; first | refine zs71 ?_ | refine zs72 ?_) | apply (zs74 ?_) | apply (zs76 ?_) | apply (zs77 ?_) | fail)
    apply Yi H
    · exact zk
    apply Yc; exact rfl; exact rfl; exact ⟨rfl, rfl⟩
  rw [if_neg (fun h => h h4)]
  repeat' (first | ((first | apply Ya en50 | apply Yb en50); exact za; exact rfl; exact fun _ hw => (p1 hn.cons hw)) | ((first | apply Ya en47 | apply Yb en47); exact za; exact rfl; exact fun _ hw => (p2 hs.cons hw)) | ((first | apply Ya en51 | apply Yb en51); exact za; exact rfl; exact fun _ hw => (p3 zm hw)) | ((first | apply Ya Yat | apply Yb Yat); exact za; exact rfl; exact fun _ hw => (p4 hn.cons.cons hr.cons.cons hw)) | (apply Xd T; exact rfl; exact zm; exact rfl; exact zv; exact rfl; exact rfl) | apply (zs1 ?_) | apply (zs2 ?_) | (apply zg2; refine zs6 ?_) | (apply zg3; refine zs7 ?_) | apply (zs13 ?_) | (apply zg8; (refine zs16 ?_ ?_ <;> intro _ <;> try (exfalso; omega))) | (apply zg17; refine zs37 ?_) | (apply zg23; (refine zs52 ?_; intro _)) | (apply zg26; (refine zs56 ?_; intro _)) | apply (zs65 ?_) | apply (zs68 ?_) | apply (zs69 ?_) | apply (zs70 ?_) | (apply zg27; refine zs72 ?_) | apply (zs74 ?_) | apply (zs76 ?_) | fail)
  apply Yi H
  · exact zk
  apply Yc; exact rfl; exact rfl; exact ⟨rfl, rfl⟩
open Go.RowKit Go.Eng Go.Nw Go.Rt
theorem Yiv {n : Net} {s : Sch} {f : Flw} {r : List Int} (h : wayE n s f r = 0) : YA n = 0 ∧ XY s = true ∧ XW n.nodes f = 0 ∧ s.len.tmod f.2.2.2.1 = 0 ∧ ZB n f.2.1 f.2.2.1 r = 0 := by
  unfold wayE at h
  split at h
  · cases h
  rename_i h1
  split at h
  · cases h
  rename_i h2
  refine ⟨Decidable.byContradiction fun e => h1 (.inl e), ?_, Decidable.byContradiction fun e => h1 (.inr (.inr e)), Decidable.not_not.1 h2, h⟩
  cases hf : XY s with
  | true => rfl
  | false => exact absurd (.inr (.inl hf)) h1
theorem YgE {n : Net} {s : Sch} {f : Flw} {r : List Int} (h : (Xu n s f r).2 = 0) : wayE n s f r = 0 ∧ ∃ b, Vo n s f r = some b ∧ Xu n s f r = (b, 0) := by
  unfold Xu at h ⊢
  by_cases h1 : wayE n s f r = 0
  · rw [if_neg (fun e => e h1)] at h ⊢
    cases hb : Vo n s f r with
    | none => rw [hb] at h; cases h
    | some b => exact ⟨h1, b, rfl, rfl⟩
  · rw [if_pos h1] at h
    exact absurd h h1
theorem Yfd {q : List Rqs} {i : Nat} (h : i < q.length) : q[i]? = some (rqAt q i) := by
  unfold rqAt; rw [List.getD_eq_getElem?_getD, List.getElem?_eq_getElem h]; rfl
theorem YaV {l : List (List Int)} {i : Nat} (h : i < l.length) : l[i]? = some (rtAt l i) := by
  unfold rtAt; rw [List.getD_eq_getElem?_getD, List.getElem?_eq_getElem h]; rfl
theorem Yhs {n : Net} {x : Rqs} (h : rtsE n x = 0) : x.2.length = 1 ∨ x.2.length = 2 ∧ rtAt x.2 0 ≠ rtAt x.2 1 := by
  unfold rtsE at h
  split at h
  · cases h
  split at h
  · cases h
  split at h
  · exact absurd h (by assumption)
  split at h
  · cases h
  rename_i h1 h2 h3 h4
  by_cases h5 : x.2.length = 1
  · exact .inl h5
  · exact .inr ⟨by omega, fun e => h4 ⟨by omega, e⟩⟩
open Go.RowKit Go.Eng Go.Nw Go.Rt
structure Vl (x : WayM) : Prop where
  ck : YA x.n.net = 0
  len : 2 ≤ x.r.length ∧ x.r.length ≤ 9
  good : ∀ i, i + 1 < x.r.length → YY x.n.net (x.r.getD i 0) (x.r.getD (i + 1) 0) = true
  per : 1 ≤ x.f.2.2.2.1 ∧ x.f.2.2.2.1 ≤ 512
  ph : 0 ≤ x.f.2.2.2.2.1 ∧ x.f.2.2.2.2.1 < x.f.2.2.2.1
  slen : 1 ≤ x.s.len ∧ x.s.len ≤ 512
  few : x.s.cells.length ≤ 512
theorem Ydl {n : Net} {s t : Int} {r : List Int} (h : ZB n s t r = 0) : YA n = 0 ∧ (2 ≤ r.length ∧ r.length ≤ 9) ∧ ∀ i, i + 1 < r.length → YY n (r.getD i 0) (r.getD (i + 1) 0) = true := by
  unfold ZB at h
  by_cases h0 : WQ n s t = 0
  rotate_left
  · rw [if_pos h0] at h; exact absurd h h0
  rw [if_neg (fun e => e h0)] at h
  have hck : YA n = 0 := by
    unfold WQ at h0
    by_cases h1 : YA n = 0
    · exact h1
    · rw [if_pos h1] at h0; cases h0
  obtain ⟨h1, _, _, _, h2⟩ := Yge h
  refine ⟨hck, h1, fun i hi => ?_⟩
  unfold VY at h2
  rw [List.any_eq_false] at h2
  have := h2 i (List.mem_range.2 (by omega))
  simpa using this
theorem Yes {x : WayM} (h : wayE x.n.net x.s.sch x.f x.r = 0) : Vl x := by
  obtain ⟨_, h2, h3, _, h5⟩ := Yiv h
  obtain ⟨k1, k2, k3⟩ := Ydl h5
  have hfr := Qg.1 h2
  have hsz := of_decide_eq_true hfr.sized
  unfold XW at h3
  split at h3
  · cases h3
  split at h3
  · cases h3
  exact ⟨k1, k2, k3, by omega, by omega, ⟨hsz.1, hsz.2.1⟩, hfr.few⟩
def Zm (x : WayM) : List (List Value) := (YE x.n.net x.r).map fun l => [lkV l]
theorem Uo {n : Net} {r : List Int} {i : Nat} (h : i + 1 < r.length) : (YE n r)[i]? = some (Wn n r i) := by
  unfold YE
  rw [List.getElem?_map, List.getElem?_range (by omega)]; rfl
theorem J2 {n : Net} {r : List Int} : (YE n r).length = r.length - 1 := by unfold YE; simp
set_option maxRecDepth 10000 in
set_option maxHeartbeats 4000000 in
theorem WX (x : WayM) (g : Nat) (hok : Vl x) {B : Nat} {w0 : World} {HI : List HP} (hi : x.In B w0 HI) (hm : wayB g x ∈ HI) :
    Yaj Tryz.prog 285 [.pointer (some ⟨g, 0, none⟩)] (Zm x) B w0 HI := by
  refine YbN Tryz.func285 Tryz.ntmps285 rfl rfl ?_
  intro l SS X hy L0 h0
  have hck := hok.ck
  have hlen := hok.len
  have p1 := fun {H' : List HP} {w : World} (a b : Int) (hin : x.n.In B w0 H') (hw : St B w0 H' w) => Zk x.n a b hin hw
  have hix : ∀ a b : Int, ZE x.n.net a b = YF x.n.net a b := fun a b => by unfold ZE; rw [if_neg (fun e => e hck)]
  unfold wayB at hm
  repeat' (first | apply (zs2 ?_) | apply (zs65 ?_) | apply (zs68 ?_) | apply (zs69 ?_) | apply (zs70 ?_) | apply (zs73 ?_) | fail)
  refine Yk (fun (y : Nat × List HP) => [(3, .int .i64 (y.1 + 1 : Nat)), (0, .func (.yield l) #[] #[]), (1, .pointer (some ⟨g, 0, none⟩))]) (fun y => many y.2 :: HI) (fun y => y.1 + 1 ≤ x.r.length ∧ SS y.1 y.2) (fun y => x.r.length - 1 - y.1) (0, L0) ⟨by show 0 + 1 ≤ _; omega, h0⟩ ?_ (fun w hw => hw) ?_
  · exact zu
  rintro ⟨i, L⟩ ⟨hile, hS⟩ K hK
  dsimp only at hile hS ⊢
  by_cases hlt : i + 1 < x.r.length
  · have hg := hok.good i hlt
    have hf := YaF hg
    have hfl := Js hf
    have hlx : x.n.links[(YF x.n.net (x.r.getD i 0) (x.r.getD (i + 1) 0)).toNat]? = some (lnk x.n.net (YF x.n.net (x.r.getD i 0) (x.r.getD (i + 1) 0)).toNat) := YcI x.n.net hfl
    have hla : Wn x.n.net x.r i = lnk x.n.net (YF x.n.net (x.r.getD i 0) (x.r.getD (i + 1) 0)).toNat := rfl
    have hg0 := Z7 (l := x.r) (i := i) (by omega)
    have hg1 := Z7 (l := x.r) (i := i + 1) (by omega)
    have hgi : ((((i + 1 : Nat) : Int) - 1).toNat) = i := by omega
    have hgi1 : (((i + 1 : Nat) : Int).toNat) = i + 1 := by omega
    have hll : (YF x.n.net (x.r.getD i 0) (x.r.getD (i + 1) 0)).toNat < x.n.links.length := hfl
    have p2 := fun {H' : List HP} {w : World} (hin : x.n.In B w0 H') (hw : St B w0 H' w) => p1 (x.r.getD i 0) (x.r.getD (i + 1) 0) hin hw
    rw [hix] at p2
    have hx : (Zm x)[i]? = some [lkV (Wn x.n.net x.r i)] := by
      unfold Zm; rw [List.getElem?_map, Uo hlt]; rfl
    rw [hla] at hx
    obtain ⟨a, ha⟩ : ∃ a, x.r.getD i 0 = a := ⟨_, rfl⟩
    obtain ⟨b, hb⟩ : ∃ b, x.r.getD (i + 1) 0 = b := ⟨_, rfl⟩
    rw [ha] at hg0 p2 hlx hll hf hx
    rw [hb] at hg1 p2 hlx hll hf hx
    obtain ⟨z, hz⟩ : ∃ z, YF x.n.net a b = z := ⟨_, rfl⟩
    rw [hz] at p2 hlx hll hf hx
    obtain ⟨lk, hlk⟩ : ∃ k, lnk x.n.net z.toNat = k := ⟨_, rfl⟩
    rw [hlk] at hlx hx
    obtain ⟨R, hR1, hR2⟩ := Yfo hm
    have hg0i : x.r[(((i + 1 : Nat) : Int) - 1).toNat]? = some a := by rw [hgi]; exact hg0
    have hg1i : x.r[((i + 1 : Nat) : Int).toNat]? = some b := by rw [hgi1]; exact hg1
    have hwb : ∀ w, St B w0 (many L :: (blk g (.cells #[.int .i64 x.n.nodes, .slice x.n.pA x.n.rows.length x.n.pcap, .int .i64 x.n.noise, .int .i64 x.n.thr, .slice x.n.lA x.n.links.length x.n.lcap, .slice x.n.mA x.n.margin.length x.n.mcap, .int .i64 x.s.len, .int .i64 x.s.off, .slice x.s.A x.s.cells.length x.s.cap, .int .i64 x.f.1, .int .i64 x.f.2.1, .int .i64 x.f.2.2.1, .int .i64 x.f.2.2.2.1, .int .i64 x.f.2.2.2.2.1, .int .i64 x.f.2.2.2.2.2, .slice x.A x.r.length x.cap, .int .i64 0] 151 (0, 0))) :: [many R]) w → St B w0 (many L :: HI) w := fun w hw => hw.perm (Perm.cons _ hR2)
    have hl0 : 0 ≤ lk.2.2 ∧ lk.2.2 ≤ 7 := by
      have h1 := (Xa hck).lk z.toNat hll
      rw [← hlk]; exact ⟨h1.l0, h1.l1⟩
    have hiK : x.In B w0 [wayB g x, many R] := hi.mono fun w hw => hw.perm hR2
    have hrr := hiK.r
    have hlr := hiK.n.lk
    unfold wayB at hiK hrr hlr
    refine Yal (blk g (.cells #[.int .i64 x.n.nodes, .slice x.n.pA x.n.rows.length x.n.pcap, .int .i64 x.n.noise, .int .i64 x.n.thr, .slice x.n.lA x.n.links.length x.n.lcap, .slice x.n.mA x.n.margin.length x.n.mcap, .int .i64 x.s.len, .int .i64 x.s.off, .slice x.s.A x.s.cells.length x.s.cap, .int .i64 x.f.1, .int .i64 x.f.2.1, .int .i64 x.f.2.2.1, .int .i64 x.f.2.2.2.1, .int .i64 x.f.2.2.2.2.1, .int .i64 x.f.2.2.2.2.2, .slice x.A x.r.length x.cap, .int .i64 0] 151 (0, 0)) :: many L :: [many R]) (fun w hw => hw.perm ((Perm.cons _ hR1).trans (Perm.swap _ _ _))) ?_
    repeat' (first | apply (zs1 ?_) | (apply zg2; refine zs6 ?_) | (apply zg3; refine zs7 ?_) | (apply zg4; refine zs9 ?_) | (apply (zs17 ?_ ?_) <;> intro _ <;> try (exfalso; omega)) | apply (zs65 ?_) | apply (zs68 ?_) | apply (zs69 ?_) | apply (zs70 ?_) | (apply zg27; refine zs71 ?_) | apply (zs73 ?_) | apply (zs76 ?_) | fail)
    apply Ur (.n1 0 (.n1 1 (.n1 2 (.n1 3 (.n1 4 (.n1 5 (.n1 6 (.n1 7 (.n1 8 (.n1 9 (.n1 10 (.n1 11 (.n1 12 (.n1 13 (.n1 14 (.n1 15 (.n2 16 (.n1 17 (.n1 18 (.n1 19 .done))) 19 (.n1 16 (.n1 17 (.n1 18 .done)))))))))))))))))))) [20] [true, false, true]
    kernel_rfl
    kernel_rfl
    exact zy
    (simp only [Yj, nthO]; rfl)
    repeat' (first | (apply Xd T; exact rfl; exact zm; exact rfl; exact zv; exact rfl; exact rfl) | apply (zs1 ?_) | (apply zg2; refine zs6 ?_) | (apply zg3; first | refine zs7 ?_ | refine zs60 ?_) | (apply zg5; refine zs57 ?_) | (apply zg14; refine zs31 ?_) | (apply zg24; (refine zs54 ?_; intro _)) | apply (zs65 ?_) | (apply Yn; exact zp) | apply (zs87 ?_) | (apply Yl; (repeat (first | with_reducible exact Yh | (with_reducible apply Yg; (repeat (first | with_reducible exact Yf | with_reducible apply Ye)))))) | apply (zs90 ?_) | apply (zs91 ?_ ?_) | (apply Xl; (repeat (first | with_reducible exact Yh | (with_reducible apply Yg; (repeat (first | with_reducible exact Yf | with_reducible apply Ye)))))) | fail)
    all_goals (
      first | apply Ya en95 | apply Yb en95
      exact za
      exact rfl
      exact fun _ hw => (p2 (hiK.mono zk).n hw)
      repeat' (first | (refine YbP 2 37 rfl rfl rfl (by rintro ⟨_, _, _, _, h, _⟩; cases h) ?_) | apply (zs1 ?_) | (apply zg2; refine zs6 ?_) | (apply zg3; first | refine zs7 ?_ | refine zs8 ?_ | refine zs61 ?_) | (apply zg5; refine zs57 ?_) | (apply zg13; refine zs30 ?_) | (apply zg22; first | refine zs50 ?_ | refine zs51 ?_) | (apply zg24; (refine zs54 ?_; intro _)) | apply (zs65 ?_) | (apply Yn; exact zp) | apply (zs68 ?_) | apply (zs69 ?_) | apply (zs70 ?_) | apply (zs87 ?_) | (apply Yl; (repeat (first | with_reducible exact Yh | (with_reducible apply Yg; (repeat (first | with_reducible exact Yf | with_reducible apply Ye)))))) | (apply Uz; exact zp) | apply (zs90 ?_) | (apply Xl; (repeat (first | with_reducible exact Yh | (with_reducible apply Yg; (repeat (first | with_reducible exact Yf | with_reducible apply Ye)))))) | apply (zs93 ?_) | apply (zs94 ?_) | fail)
      rename_i g5
      rw [show lk.2.2 + 0 = lk.2.2 from Int.add_zero _]
      apply Yi (blk g5 (.cells #[.int .i64 lk.1, .int .i64 lk.2.1, .int .i64 lk.2.2] 172 (0, 0)) :: many L :: HI)
      · intro w hw
        have h5 : St B w0 (blk g5 (.cells #[.int .i64 lk.1, .int .i64 lk.2.1, .int .i64 lk.2.2] 172 (0, 0)) :: many L :: blk g (.cells #[.int .i64 x.n.nodes, .slice x.n.pA x.n.rows.length x.n.pcap, .int .i64 x.n.noise, .int .i64 x.n.thr, .slice x.n.lA x.n.links.length x.n.lcap, .slice x.n.mA x.n.margin.length x.n.mcap, .int .i64 x.s.len, .int .i64 x.s.off, .slice x.s.A x.s.cells.length x.s.cap, .int .i64 x.f.1, .int .i64 x.f.2.1, .int .i64 x.f.2.2.1, .int .i64 x.f.2.2.2.1, .int .i64 x.f.2.2.2.2.1, .int .i64 x.f.2.2.2.2.2, .slice x.A x.r.length x.cap, .int .i64 0] 151 (0, 0)) :: [many R]) w := by
          revert w
          exact zk
        exact h5.perm (Perm.cons _ (Perm.cons _ hR2))
      have hY := hy _ _ hx [blk g5 (.cells #[.int .i64 lk.1, .int .i64 lk.2.1, .int .i64 lk.2.2] 172 (0, 0))] L hS
      apply Yb9 _ _ (hy := hY)
      · exact Oa
      · exact rfl
      · exact za
      · exact rfl
      · rintro ⟨_, _, _, _, h, _⟩; cases h
      · rintro _ ⟨L', hS', rfl⟩
        repeat' (first | apply (zs1 ?_) | apply (zs2 ?_) | (apply zg13; refine zs30 ?_) | (apply zg20; refine zs47 ?_) | apply (zs65 ?_) | apply (zs68 ?_) | apply (zs70 ?_) | (apply zg27; refine zs72 ?_) | apply (zs76 ?_) | apply (zs79 ?_) | fail)
        apply hK (i + 1, L')
        · exact ⟨by show i + 1 + 1 ≤ _; omega, hS'⟩
        · dsimp only; omega
        · exact zu
        · exact fun w hw => hw.tail
      · rintro _ ⟨L', hX', rfl⟩
        repeat' (first | (apply zg20; refine zs48 ?_) | apply (zs65 ?_) | apply (zs68 ?_) | (apply zg27; refine zs71 ?_) | apply (zs74 ?_) | apply (zs77 ?_) | apply (zs78 ?_) | fail)
        apply Yi (many L' :: HI)
        · exact fun w hw => hw.tail
        apply Ux; exact rfl
        exact .inr ⟨L', hX', rfl⟩)
  · repeat' (first | apply (zs1 ?_) | (apply zg2; refine zs6 ?_) | (apply zg3; refine zs7 ?_) | (apply zg4; refine zs9 ?_) | (apply (zs17 ?_ ?_) <;> intro _ <;> try (exfalso; omega)) | apply (zs65 ?_) | apply (zs68 ?_) | apply (zs69 ?_) | apply (zs70 ?_) | (apply zg27; refine zs72 ?_) | apply (zs75 ?_) | apply (zs80 ?_) | apply (zs81 ?_) | fail)
    apply Zs; exact rfl
    have hl0 : i = (Zm x).length := by unfold Zm; rw [List.length_map, J2]; omega
    rw [hl0] at hS
    exact .inl ⟨L, hS, rfl⟩
def Yhy (g : Nat) : Value := .func (.func 285) #[] #[.pointer (some ⟨g, 0, none⟩)]
theorem Qs (x : WayM) {B : Nat} {w0 : World} {H : List HP} {w : World} (hw : St B w0 H w) :
    Calls Tryz.prog 248 [x.val].toArray w (Post B w0 fun v K => ∃ g, v = Yhy g ∧ K = wayB g x :: H) := by
  refine Yd Tryz.func248 Tryz.ntmps248 rfl rfl hw ?_
  unfold WayM.val
  repeat' (first | apply (zs2 ?_) | (apply zg23; (refine zs52 ?_; intro _)) | apply (zs65 ?_) | apply (zs68 ?_) | apply (zs69 ?_) | apply (zs70 ?_) | apply (zs74 ?_) | (apply zg29; (apply Yr; exact za ; exact rfl)) | fail)
  apply Yc; exact rfl; exact rfl
  exact ⟨_, rfl, rfl⟩
open Go.RowKit Go.Eng Go.Nw Go.Rt
theorem Ych (x : WayM) (l : Lk) (g gl : Nat) (c : Cel) {B : Nat} {w0 : World} {H : List HP} {w : World} (hm : wayB g x ∈ H) (hml : blk gl (.cells #[.int .i64 l.1, .int .i64 l.2.1, .int .i64 l.2.2] 172 (0, 0)) ∈ H) (hw : St B w0 H w) :
    Calls Tryz.prog 287 [celV c, .pointer (some ⟨g, 0, none⟩), .pointer (some ⟨gl, 0, none⟩)].toArray w (Post B w0 fun v K => v = .bool (!(onP x.f.1 l.1 l.2.1 c)) ∧ K = H) := by
  refine Yd Tryz.func287 Tryz.ntmps287 rfl rfl hw ?_
  unfold wayB at hm
  have hb : onP x.f.1 l.1 l.2.1 c = true ↔ c.2.2.2.2 = x.f.1 ∧ c.2.2.1 = l.1 ∧ c.2.2.2.1 = l.2.1 := by unfold onP UL YR toC; rw [decide_eq_true_eq]
  obtain ⟨b, hbe⟩ : ∃ b, onP x.f.1 l.1 l.2.1 c = b := ⟨_, rfl⟩
  rw [hbe] at hb ⊢
  repeat' (first | apply (zs1 ?_) | apply (zs2 ?_) | (apply zg1; first | refine zs3 ?_ | refine zs4 ?_) | (apply zg2; refine zs6 ?_) | (apply zg3; refine zs7 ?_) | (apply zg6; first | refine zs11 ?_ | refine zs12 ?_) | (apply zg8; (refine zs16 ?_ ?_ <;> intro _ <;> try (exfalso; omega))) | (apply zg23; (refine zs52 ?_; intro _)) | apply (zs65 ?_) | apply (zs68 ?_) | apply (zs69 ?_) | apply (zs70 ?_) | apply (zs74 ?_) | fail)
  all_goals (
    apply Yi H
    · exact zk
    apply Yc; exact rfl; exact rfl
    cases b <;> simp at hb <;> first | exact ⟨rfl, rfl⟩ | (exfalso; omega))
set_option maxRecDepth 10000 in
theorem Ydk (x : WayM) (l : Lk) (hfew : x.s.cells.length ≤ 1000) {B : Nat} {w0 : World} {H : List HP} {w : World} (hr : Rd B w0 H x.s.A (x.s.cells.flatMap celF)) (hw : St B w0 H w) :
    Calls Tryz.prog 249 [x.val, lkV l].toArray w (Post B w0 fun v K => ∃ A cap, v = .slice A (Ue x.s.sch x.f.1 l).length cap ∧ K = cels A cap (Ue x.s.sch x.f.1 l) :: H) := by
  refine Yd Tryz.func249 Tryz.ntmps249 rfl rfl hw ?_
  unfold WayM.val lkV
  repeat' (first | apply (zs2 ?_) | (apply zg2; refine zs6 ?_) | (apply zg3; refine zs7 ?_) | (apply zg23; (refine zs52 ?_; intro _)) | apply (zs65 ?_) | apply (zs68 ?_) | apply (zs69 ?_) | apply (zs70 ?_) | fail)
  rename_i gw gl
  apply Yo _ en64
  exact za
  exact rfl
  exact fun _ hw => (Yck x.s.cells (by omega) hr.cons.cons (hw))
  rintro _ _ ⟨A', cap', rfl, rfl⟩
  repeat' (first | (apply zg29; (apply Yr; exact za ; exact rfl)) | fail)
  apply Yo _ YiX
  exact za
  exact rfl
  exact fun _ hw => (Ycp (fun c => !(onP x.f.1 l.1 l.2.1 c)) x.s.cells 287 [.pointer (some ⟨gw, 0, none⟩), .pointer (some ⟨gl, 0, none⟩)] YiY hfew (fun c _ X w hw => Ych x l gw gl c (List.mem_append_right _ (by unfold wayB; exact zm)) (List.mem_append_right _ zm) hw) (hw))
  rintro _ _ ⟨rfl, rfl⟩
  have e : x.s.cells.filter (fun c => !!(onP x.f.1 l.1 l.2.1 c)) = Ue x.s.sch x.f.1 l := List.filter_congr fun c _ => Bool.not_not _
  rw [e]
  repeat' (first | apply (zs2 ?_) | apply (zs65 ?_) | apply (zs68 ?_) | apply (zs74 ?_) | fail)
  apply Yi (cels A' cap' (Ue x.s.sch x.f.1 l) :: H)
  · exact zk
  apply Yc; exact rfl; exact rfl
  exact ⟨A', cap', rfl, rfl⟩
theorem US {x : WayM} (hok : Vl x) {i : Nat} {l : Lk} (h : (YE x.n.net x.r)[i]? = some l) : i + 1 < x.r.length ∧ 0 ≤ l.2.2 ∧ l.2.2 ≤ 7 := by
  have hi := (List.getElem?_eq_some_iff.1 h).1
  rw [J2] at hi
  have hi : i + 1 < x.r.length := by omega
  rw [Uo hi] at h
  have hg := hok.good i hi
  have h1 := (Xa hok.ck).lk _ (Js (YaF hg))
  have e := Option.some.inj h
  unfold Wn at e
  have h2 := h1.l0; have h3 := h1.l1
  rw [e] at h2 h3
  exact ⟨hi, h2, h3⟩
theorem YaQ {ls : List Lk} {i : Nat} {l : Lk} (h : ls[i]? = some l) : Xp (ls.take (i + 1)) = Xp (ls.take i) + Y0 l := by
  unfold Xp
  rw [List.take_add_one, h, List.map_append, List.sum_append]
  simp
theorem J1 {x : WayM} {i : Nat} {args : List Value} (h : (Zm x)[i]? = some args) : ∃ l, (YE x.n.net x.r)[i]? = some l ∧ args = [lkV l] := by
  unfold Zm at h
  rw [List.getElem?_map] at h
  cases hl : (YE x.n.net x.r)[i]? with
  | none => rw [hl] at h; cases h
  | some l => rw [hl] at h; exact ⟨l, rfl, (Option.some.inj h).symm⟩
theorem Ow {x : WayM} (hok : Vl x) : ∀ i, Xp ((YE x.n.net x.r).take i) ≤ 8 * i
  | 0 => Nat.le_refl _
  | i + 1 => by
    have ih := Ow hok i
    cases h : (YE x.n.net x.r)[i]? with
    | none =>
      have := List.getElem?_eq_none_iff.1 h
      rw [List.take_of_length_le (by omega)] at ih ⊢
      omega
    | some l =>
      rw [YaQ h]
      have := US hok h
      unfold Y0
      omega
set_option maxRecDepth 10000 in
set_option maxHeartbeats 1000000 in
theorem YcM (x : WayM) (hok : Vl x) {B : Nat} {w0 : World} {H : List HP} {w : World} (hi : x.In B w0 H) (hw : St B w0 H w) :
    Calls Tryz.prog 208 [x.val].toArray w (Post B w0 fun v K => v = .int .i64 (Xp (YE x.n.net x.r)) ∧ K = H) := by
  refine XR Tryz.func208 Tryz.ntmps208 rfl rfl hw ?_
  unfold WayM.val
  repeat' (first | apply (zs2 ?_) | (apply zg3; refine zs8 ?_) | (apply zg22; refine zs50 ?_) | (apply zg23; (refine zs52 ?_; intro _)) | (apply zg24; (refine zs54 ?_; intro _)) | apply (zs65 ?_) | apply (zs68 ?_) | apply (zs69 ?_) | apply (zs70 ?_) | fail)
  rename_i g gN
  apply Yo _ YhV
  exact za
  exact rfl
  exact fun _ hw => (Qs x (hw))
  rintro _ _ ⟨g2, rfl, rfl⟩
  repeat' (first | apply (zs65 ?_) | apply (zs68 ?_) | apply (zs73 ?_) | fail)
  have hl9 := hok.len
  have hiK : x.In B w0 (wayB g2 x :: wayB g x :: H) := hi.cons.cons
  refine XT (gf := 285) (lb := [.pointer (some ⟨g2, 0, none⟩)]) (xs := Zm x) (wayB g2 x :: wayB g x :: H) (fun z : Int => [blk gN (.cells #[.int .i64 z] 3 (0, 0))]) (fun i z => z = (Xp ((YE x.n.net x.r).take i) : Int)) (fun _ _ => False) 0 rfl YhX (WX x g2 hok hiK (.head _)) rfl ?_ (by kernel_rfl) (by kernel_rfl) ?_ rfl ?_ ?_ (fun _ _ _ h => h.elim)
  · intro args h
    obtain ⟨k, hk⟩ := List.mem_iff_getElem?.1 h
    obtain ⟨l, _, rfl⟩ := J1 hk
    rfl
  · unfold wayB
    simp only [List.cons_append, List.nil_append]
    exact zk
  · rintro l k args R z hk hI
    obtain ⟨lk, hlk, rfl⟩ := J1 hk
    have hbd := US hok hlk
    have hne := Ow hok k
    have hst := YaQ hlk
    try dsimp only at hI
    dsimp only [VH, List.cons_append, List.nil_append]
    unfold lkV
    repeat' (first | (apply zg22; refine zs51 ?_) | (apply zg24; (refine zs54 ?_; intro _)) | apply (zs65 ?_) | apply (zs70 ?_) | fail)
    apply JE (Ye Yf)
    intro R'
    unfold wayB
    repeat' (first | (apply zg2; refine zs6 ?_) | (apply zg3; refine zs7 ?_) | (apply zg13; refine zs30 ?_) | (apply zg22; refine zs50 ?_) | apply (zs65 ?_) | apply (zs70 ?_) | apply (zs73 ?_) | apply (zs79 ?_) | fail)
    apply JV (z + (lk.2.2 + 1))
    · show z + (lk.2.2 + 1) = _
      rw [hI, hst]
      unfold Y0
      omega
    · dsimp only [List.cons_append, List.nil_append]
      exact zk
  · rintro D z hI
    try dsimp only at hI
    have hle : (Zm x).length = (YE x.n.net x.r).length := by unfold Zm; rw [List.length_map]
    rw [hle, List.take_length] at hI
    dsimp only [List.cons_append, List.nil_append]
    unfold wayB
    repeat' (first | apply (zs2 ?_) | (apply zg3; refine zs7 ?_) | apply (zs65 ?_) | apply (zs68 ?_) | apply (zs69 ?_) | apply (zs70 ?_) | apply (zs74 ?_) | apply (zs79 ?_) | fail)
    apply Zt Yf
    apply VQ_m
    apply Yi H
    · exact zk
    apply Yc; exact rfl; exact rfl
    exact ⟨by rw [hI], rfl⟩
open Go.RowKit Go.Eng Go.Nw Go.Rt
theorem Za (l m : List Int) (hlen : l.length ≤ 1000000000000) (_hlen2 : m.length ≤ 1000000000000) {A A2 : Option Addr} {cap cap2 B : Nat} {w0 : World} {H : List HP} {w : World} (hr : Rd B w0 H A (l.flatMap numF)) (hr2 : Rd B w0 H A2 (m.flatMap numF)) (hw : St B w0 H w) :
    Calls Tryz.prog 126 [.slice A l.length cap, .slice A2 m.length cap2].toArray w (Post B w0 fun u K => u = .bool (decide (l = m)) ∧ K = H) := by
  refine Yd Tryz.func126 Tryz.ntmps126 rfl rfl hw ?_
  by_cases hll : l.length = m.length
  rotate_left
  · repeat' (first | apply (zs1 ?_) | apply (zs2 ?_) | (apply zg4; refine zs9 ?_) | (apply zg8; (refine zs16 ?_ ?_ <;> intro _ <;> try (exfalso; omega))) | apply (zs65 ?_) | apply (zs68 ?_) | apply (zs69 ?_) | apply (zs70 ?_) | (apply zg27; refine zs71 ?_) | apply (zs74 ?_) | apply (zs77 ?_) | fail)
    apply Yc; exact rfl; exact rfl
    exact ⟨by rw [decide_eq_false fun e => hll (by rw [e])], rfl⟩
  repeat' (first | apply (zs1 ?_) | apply (zs2 ?_) | (apply zg4; refine zs9 ?_) | (apply zg8; (refine zs16 ?_ ?_ <;> intro _ <;> try (exfalso; omega))) | apply (zs65 ?_) | apply (zs68 ?_) | apply (zs69 ?_) | apply (zs70 ?_) | (apply zg27; refine zs72 ?_) | apply (zs73 ?_) | apply (zs76 ?_) | fail)
  refine Yk (fun (k : Nat) => [(5, .int .i64 k), (0, .slice A l.length cap), (1, .slice A2 m.length cap2)]) (fun _ => H) (fun k => k ≤ l.length ∧ l.take k = m.take k) (fun k => l.length - k) 0 ⟨Nat.zero_le _, by simp⟩ ?_ (fun w hw => hw) ?_
  · exact zu
  rintro k ⟨hk, hi⟩ K hK
  by_cases hlt : k < l.length
  · obtain ⟨a, ha⟩ : ∃ a, l[k]? = some a := ⟨_, List.getElem?_eq_getElem hlt⟩
    obtain ⟨b, hb⟩ : ∃ b, m[k]? = some b := ⟨_, List.getElem?_eq_getElem (by omega)⟩
    by_cases hab : a = b
    · repeat' (first | apply (zs1 ?_) | apply (zs2 ?_) | (apply zg3; refine zs60 ?_) | (apply zg4; refine zs9 ?_) | (apply zg5; refine zs57 ?_) | (apply zg8; (refine zs16 ?_ ?_ <;> intro _ <;> try (exfalso; omega))) | (apply (zs17 ?_ ?_) <;> intro _ <;> try (exfalso; omega)) | (apply zg13; refine zs30 ?_) | apply (zs65 ?_) | apply (zs66 ?_) | apply (zs68 ?_) | apply (zs69 ?_) | apply (zs70 ?_) | (apply zg27; first | refine zs71 ?_ | refine zs72 ?_) | apply (zs73 ?_) | apply (zs76 ?_) | apply (zs79 ?_) | (apply zg28; refine zs83 ?_) | fail)
      apply hK (k + 1)
      · exact ⟨by omega, by rw [ZX ha, ZX hb, hi, hab]⟩
      · omega
      · exact zu
      · exact fun w hw => hw
    · repeat' (first | apply (zs1 ?_) | apply (zs2 ?_) | (apply zg3; refine zs60 ?_) | (apply zg4; refine zs9 ?_) | (apply zg5; refine zs57 ?_) | (apply zg8; (refine zs16 ?_ ?_ <;> intro _ <;> try (exfalso; omega))) | (apply (zs17 ?_ ?_) <;> intro _ <;> try (exfalso; omega)) | apply (zs65 ?_) | apply (zs66 ?_) | apply (zs68 ?_) | apply (zs69 ?_) | apply (zs70 ?_) | (apply zg27; refine zs71 ?_) | apply (zs73 ?_) | apply (zs74 ?_) | apply (zs76 ?_) | apply (zs77 ?_) | apply (zs78 ?_) | (apply zg28; refine zs83 ?_) | fail)
      apply Yc; exact rfl; exact rfl
      exact ⟨by rw [decide_eq_false fun e => by rw [e, hb] at ha; exact hab (Option.some.inj ha).symm], rfl⟩
  · repeat' (first | apply (zs1 ?_) | apply (zs2 ?_) | (apply zg4; refine zs9 ?_) | (apply (zs17 ?_ ?_) <;> intro _ <;> try (exfalso; omega)) | apply (zs65 ?_) | apply (zs68 ?_) | apply (zs69 ?_) | apply (zs70 ?_) | (apply zg27; refine zs72 ?_) | apply (zs74 ?_) | apply (zs75 ?_) | apply (zs80 ?_) | apply (zs81 ?_) | fail)
    apply Yc; exact rfl; exact rfl
    rw [List.take_of_length_le (by omega), List.take_of_length_le (by omega)] at hi
    exact ⟨by rw [decide_eq_true hi], rfl⟩
theorem Oj (l m : List RowM) (hlen : l.length ≤ 1000000000000) (_hlen2 : m.length ≤ 1000000000000) (hl2 : ∀ r ∈ l, r.xs.length ≤ 1000000000000) (hm2 : ∀ r ∈ m, r.xs.length ≤ 1000000000000) {A A2 : Option Addr} {cap cap2 B : Nat} {w0 : World} {H : List HP} {w : World} (hr : Rd B w0 H A (l.flatMap rowF)) (hr2 : Rd B w0 H A2 (m.flatMap rowF)) (hrl : ∀ r ∈ l, Rd B w0 H r.A (r.xs.flatMap numF)) (hrm : ∀ r ∈ m, Rd B w0 H r.A (r.xs.flatMap numF)) (hw : St B w0 H w) :
    Calls Tryz.prog 129 [.slice A l.length cap, .slice A2 m.length cap2].toArray w (Post B w0 fun u K => u = .bool (decide (l.map (·.xs) = m.map (·.xs))) ∧ K = H) := by
  refine Yd Tryz.func129 Tryz.ntmps129 rfl rfl hw ?_
  by_cases hll : l.length = m.length
  rotate_left
  · repeat' (first | apply (zs1 ?_) | apply (zs2 ?_) | (apply zg4; refine zs9 ?_) | (apply zg8; (refine zs16 ?_ ?_ <;> intro _ <;> try (exfalso; omega))) | apply (zs65 ?_) | apply (zs68 ?_) | apply (zs69 ?_) | apply (zs70 ?_) | (apply zg27; refine zs71 ?_) | apply (zs74 ?_) | apply (zs77 ?_) | fail)
    apply Yc; exact rfl; exact rfl
    exact ⟨by rw [decide_eq_false fun e => hll (by have := congrArg List.length e; simpa using this)], rfl⟩
  repeat' (first | apply (zs1 ?_) | apply (zs2 ?_) | (apply zg4; refine zs9 ?_) | (apply zg8; (refine zs16 ?_ ?_ <;> intro _ <;> try (exfalso; omega))) | apply (zs65 ?_) | apply (zs68 ?_) | apply (zs69 ?_) | apply (zs70 ?_) | (apply zg27; refine zs72 ?_) | apply (zs73 ?_) | apply (zs76 ?_) | fail)
  refine Yk (fun (k : Nat) => [(5, .int .i64 k), (0, .slice A l.length cap), (1, .slice A2 m.length cap2)]) (fun _ => H) (fun k => k ≤ l.length ∧ (l.take k).map (·.xs) = (m.take k).map (·.xs)) (fun k => l.length - k) 0 ⟨Nat.zero_le _, by simp⟩ ?_ (fun w hw => hw) ?_
  · exact zu
  rintro k ⟨hk, hi⟩ K hK
  by_cases hlt : k < l.length
  · obtain ⟨a, ha⟩ : ∃ a, l[k]? = some a := ⟨_, List.getElem?_eq_getElem hlt⟩
    obtain ⟨b, hb⟩ : ∃ b, m[k]? = some b := ⟨_, List.getElem?_eq_getElem (by omega)⟩
    have ham := List.mem_of_getElem? ha
    have hbm := List.mem_of_getElem? hb
    have hss := fun {w : World} (hw : St B w0 H w) => Za a.xs b.xs (cap := a.cap) (cap2 := b.cap) (hl2 a ham) (hm2 b hbm) (hrl a ham) (hrm b hbm) hw
    by_cases hab : a.xs = b.xs
    · rw [decide_eq_true hab] at hss
      repeat' (first | ((first | apply Ya Xy | apply Yb Xy); exact za; exact rfl; exact fun _ hw => (hss hw)) | apply (zs1 ?_) | apply (zs2 ?_) | (apply zg3; refine zs60 ?_) | (apply zg4; refine zs9 ?_) | (apply zg5; refine zs57 ?_) | (apply (zs17 ?_ ?_) <;> intro _ <;> try (exfalso; omega)) | (apply zg13; refine zs30 ?_) | (apply zg20; refine zs47 ?_) | apply (zs65 ?_) | apply (zs66 ?_) | apply (zs68 ?_) | apply (zs69 ?_) | apply (zs70 ?_) | (apply zg27; first | refine zs71 ?_ | refine zs72 ?_) | apply (zs73 ?_) | apply (zs76 ?_) | apply (zs79 ?_) | (apply zg28; refine zs84 ?_) | fail)
      apply hK (k + 1)
      · exact ⟨by omega, by rw [List.take_add_one, List.take_add_one, ha, hb, List.map_append, List.map_append, hi]; simp [hab]⟩
      · omega
      · exact zu
      · exact fun w hw => hw
    · rw [decide_eq_false hab] at hss
      repeat' (first | ((first | apply Ya Xy | apply Yb Xy); exact za; exact rfl; exact fun _ hw => (hss hw)) | apply (zs1 ?_) | apply (zs2 ?_) | (apply zg3; refine zs60 ?_) | (apply zg4; refine zs9 ?_) | (apply zg5; refine zs57 ?_) | (apply (zs17 ?_ ?_) <;> intro _ <;> try (exfalso; omega)) | (apply zg20; refine zs48 ?_) | apply (zs65 ?_) | apply (zs66 ?_) | apply (zs68 ?_) | apply (zs69 ?_) | apply (zs70 ?_) | (apply zg27; refine zs71 ?_) | apply (zs73 ?_) | apply (zs74 ?_) | apply (zs76 ?_) | apply (zs77 ?_) | apply (zs78 ?_) | (apply zg28; refine zs84 ?_) | fail)
      apply Yc; exact rfl; exact rfl
      have hne : ¬ (l.map (·.xs) = m.map (·.xs)) := fun e => by
        have h1 : (l.map (·.xs))[k]? = (m.map (·.xs))[k]? := by rw [e]
        rw [List.getElem?_map, List.getElem?_map, ha, hb] at h1
        exact hab (Option.some.inj h1)
      exact ⟨by rw [decide_eq_false hne], rfl⟩
  · repeat' (first | apply (zs1 ?_) | apply (zs2 ?_) | (apply zg4; refine zs9 ?_) | (apply (zs17 ?_ ?_) <;> intro _ <;> try (exfalso; omega)) | apply (zs65 ?_) | apply (zs68 ?_) | apply (zs69 ?_) | apply (zs70 ?_) | (apply zg27; refine zs72 ?_) | apply (zs74 ?_) | apply (zs75 ?_) | apply (zs80 ?_) | apply (zs81 ?_) | fail)
    apply Yc; exact rfl; exact rfl
    rw [List.take_of_length_le (by omega), List.take_of_length_le (by omega)] at hi
    exact ⟨by rw [decide_eq_true hi], rfl⟩
def rowQ (r : RowM) : HP := ints r.A r.cap r.xs
open Go.RowKit Go.Eng Go.Nw Go.Rt
structure RqM where
  f : Flw
  A : Option Addr
  cap : Nat
  rows : List RowM
def rqF (x : RqM) : List Value := [.int .i64 x.f.1, .int .i64 x.f.2.1, .int .i64 x.f.2.2.1, .int .i64 x.f.2.2.2.1, .int .i64 x.f.2.2.2.2.1, .int .i64 x.f.2.2.2.2.2, .slice x.A x.rows.length x.cap]
def rqV (x : RqM) : Value := .agg #[.int .i64 x.f.1, .int .i64 x.f.2.1, .int .i64 x.f.2.2.1, .int .i64 x.f.2.2.2.1, .int .i64 x.f.2.2.2.2.1, .int .i64 x.f.2.2.2.2.2, .slice x.A x.rows.length x.cap]
def RqM.rq (x : RqM) : Rqs := (x.f, x.rows.map (·.xs))
abbrev netA (g : Nat) (n : NetM) : HP := blk g (.cells #[.int .i64 n.nodes, .slice n.pA n.rows.length n.pcap, .int .i64 n.noise, .int .i64 n.thr, .slice n.lA n.links.length n.lcap, .slice n.mA n.margin.length n.mcap] 26 (0, 0))
abbrev schA (g : Nat) (s : SchM) : HP := blk g (.cells #[.int .i64 s.len, .int .i64 s.off, .slice s.A s.cells.length s.cap] 30 (0, 0))
abbrev rqA (g : Nat) (x : RqM) : HP := blk g (.cells #[.int .i64 x.f.1, .int .i64 x.f.2.1, .int .i64 x.f.2.2.1, .int .i64 x.f.2.2.2.1, .int .i64 x.f.2.2.2.2.1, .int .i64 x.f.2.2.2.2.2, .slice x.A x.rows.length x.cap] 70 (0, 0))
structure RqM.In (B : Nat) (w0 : World) (H : List HP) (x : RqM) : Prop where
  rt : Rd B w0 H x.A (x.rows.flatMap rowF)
  rw_ : ∀ r ∈ x.rows, Rd B w0 H r.A (r.xs.flatMap numF)
  ln : x.rows.length ≤ 1000000000000
  rl : ∀ r ∈ x.rows, r.xs.length ≤ 1000000000000 ∧ r.xs.length ≤ r.cap
theorem RqM.In.mono {B : Nat} {w0 : World} {H H' : List HP} {x : RqM} (h : x.In B w0 H) (hH : ∀ w, St B w0 H' w → St B w0 H w) : x.In B w0 H' := ⟨h.rt.mono hH, fun r hr => (h.rw_ r hr).mono hH, h.ln, h.rl⟩
theorem RqM.In.cons {B : Nat} {w0 : World} {H : List HP} {X : HP} {x : RqM} (h : x.In B w0 H) : x.In B w0 (X :: H) := h.mono fun _ hw => hw.tail
structure QIn (B : Nat) (w0 : World) (H : List HP) (A : Option Addr) (q : List RqM) : Prop where
  rd : Rd B w0 H A (q.flatMap rqF)
  x : ∀ x ∈ q, x.In B w0 H
  ln : q.length ≤ 1000000000000
theorem QIn.mono {B : Nat} {w0 : World} {H H' : List HP} {A : Option Addr} {q : List RqM} (h : QIn B w0 H A q) (hH : ∀ w, St B w0 H' w → St B w0 H w) : QIn B w0 H' A q := ⟨h.rd.mono hH, fun x hx => (h.x x hx).mono hH, h.ln⟩
theorem QIn.cons {B : Nat} {w0 : World} {H : List HP} {X : HP} {A : Option Addr} {q : List RqM} (h : QIn B w0 H A q) : QIn B w0 (X :: H) A q := h.mono fun _ hw => hw.tail
structure ClM where
  flow : Int
  rA : Option Addr
  rcap : Nat
  rs : List RowM
  bA : Option Addr
  bcap : Nat
  bs : List Int
  wA : Option Addr
  wcap : Nat
  ws : List Int
  sA : Option Addr
  scap : Nat
  ss : List RowM
def clF (c : ClM) : List Value := [.int .i64 c.flow, .slice c.rA c.rs.length c.rcap, .slice c.bA c.bs.length c.bcap, .slice c.wA c.ws.length c.wcap, .slice c.sA c.ss.length c.scap]
def clV (c : ClM) : Value := .agg #[.int .i64 c.flow, .slice c.rA c.rs.length c.rcap, .slice c.bA c.bs.length c.bcap, .slice c.wA c.ws.length c.wcap, .slice c.sA c.ss.length c.scap]
def ClM.clm (c : ClM) : Clm := ⟨c.flow, c.rs.map (·.xs), c.bs, c.ws, c.ss.map (·.xs)⟩
structure ClM.In (B : Nat) (w0 : World) (H : List HP) (c : ClM) : Prop where
  rt : Rd B w0 H c.rA (c.rs.flatMap rowF)
  rw_ : ∀ r ∈ c.rs, Rd B w0 H r.A (r.xs.flatMap numF)
  bd : Rd B w0 H c.bA (c.bs.flatMap numF)
  ws : Rd B w0 H c.wA (c.ws.flatMap numF)
  st : Rd B w0 H c.sA (c.ss.flatMap rowF)
  sw : ∀ r ∈ c.ss, Rd B w0 H r.A (r.xs.flatMap numF)
  ln : c.rs.length ≤ 1000000000000 ∧ c.bs.length ≤ 1000000000000 ∧ c.ws.length ≤ 1000000000000 ∧ c.ss.length ≤ 1000000000000
  rl : ∀ r ∈ c.rs, r.xs.length ≤ 1000000000000
  sl : ∀ r ∈ c.ss, r.xs.length ≤ 1000000000000
theorem ClM.In.mono {B : Nat} {w0 : World} {H H' : List HP} {c : ClM} (h : c.In B w0 H) (hH : ∀ w, St B w0 H' w → St B w0 H w) : c.In B w0 H' :=
  ⟨h.rt.mono hH, fun r hr => (h.rw_ r hr).mono hH, h.bd.mono hH, h.ws.mono hH, h.st.mono hH, fun r hr => (h.sw r hr).mono hH, h.ln, h.rl, h.sl⟩
theorem ClM.In.cons {B : Nat} {w0 : World} {H : List HP} {X : HP} {c : ClM} (h : c.In B w0 H) : c.In B w0 (X :: H) := h.mono fun _ hw => hw.tail
structure CIn (B : Nat) (w0 : World) (H : List HP) (A : Option Addr) (c : List ClM) : Prop where
  rd : Rd B w0 H A (c.flatMap clF)
  x : ∀ x ∈ c, x.In B w0 H
  ln : c.length ≤ 1000000000000
theorem CIn.mono {B : Nat} {w0 : World} {H H' : List HP} {A : Option Addr} {c : List ClM} (h : CIn B w0 H A c) (hH : ∀ w, St B w0 H' w → St B w0 H w) : CIn B w0 H' A c := ⟨h.rd.mono hH, fun x hx => (h.x x hx).mono hH, h.ln⟩
theorem CIn.cons {B : Nat} {w0 : World} {H : List HP} {X : HP} {A : Option Addr} {c : List ClM} (h : CIn B w0 H A c) : CIn B w0 (X :: H) A c := h.mono fun _ hw => hw.tail
def clP (c : ClM) : List HP := [sl 72 1 c.rA c.rs.length c.rcap (c.rs.flatMap rowF), many (c.rs.map rowQ), nrs c.bA c.bcap c.bs, nrs c.wA c.wcap c.ws, sl 24 1 c.sA c.ss.length c.scap (c.ss.flatMap rowF), many (c.ss.map rowQ)]
def clQ (c : ClM) : HP := many (clP c)
def nilC (f : Int) : ClM := ⟨f, none, 0, [], none, 0, [], none, 0, [], none, 0, []⟩
theorem Yih {c : ClM} {B : Nat} {w0 : World} {H : List HP} (hm : clQ c ∈ H) (hl : (c.rs.length ≤ 1000000000000 ∧ c.bs.length ≤ 1000000000000 ∧ c.ws.length ≤ 1000000000000 ∧ c.ss.length ≤ 1000000000000) ∧ (∀ r ∈ c.rs, r.xs.length ≤ 1000000000000) ∧ ∀ r ∈ c.ss, r.xs.length ≤ 1000000000000) : c.In B w0 H := by
  have hb : ∀ w, St B w0 H w → St B w0 (clP c) w := fun w hw => hw.inM hm
  refine ClM.In.mono (H := clP c) ?_ hb
  unfold clP
  refine ⟨.sl (.head _), fun r hr => ?_, .sl (.tail _ (.tail _ (.head _))), .sl (.tail _ (.tail _ (.tail _ (.head _)))), .sl (.tail _ (.tail _ (.tail _ (.tail _ (.head _))))), fun r hr => ?_, hl.1, hl.2.1, hl.2.2⟩
  · exact Rd.many (L := c.rs.map rowQ) (.tail _ (.head _)) (List.mem_map_of_mem hr)
  · exact Rd.many (L := c.ss.map rowQ) (.tail _ (.tail _ (.tail _ (.tail _ (.tail _ (.head _)))))) (List.mem_map_of_mem hr)
theorem UT {B : Nat} {w0 w : World} {H : List HP} (f : Int) (h : St B w0 H w) : St B w0 (clQ (nilC f) :: H) w := by
  unfold clQ clP nilC
  dsimp only [List.flatMap_nil, List.map_nil, List.length_nil]
  have h1 := (h.perm (.noMany H)).nilSlice 24 1
  have h2 := (((h1.nilSlice 3 1).nilSlice 3 1).perm (.noMany _)).nilSlice 72 1
  exact h2.perm (.close [_, _, _, _, _, _] H)
open Go.ChangeShapes Go.WideShapes Go.ChangeAt Go.RowKit Go.Eng Go.Nw Go.Rt
section
variable {H : Type} {enc : TypeId × Value → H} {W : World} {spare : Nat → Bool} {held : Bool}
structure RtG (W : World) (r : RowM) : Prop where
  old : Old W r.A (r.xs.flatMap numF)
  len : r.xs.length ≤ 9223372036854775807
  cap : r.xs.length ≤ r.cap
  good : ∀ z ∈ r.xs, I64 z
theorem Ygt : Opn enc Tryz.prog W spare held 72 rowF (RtG W) :=
  YdB (VD (q := 1) Tryz.underlying72 (by kernel_rfl) (by decide) op_i) YhZ (fun _ => rfl) (fun _ h => ⟨h.old, Nat.le_trans h.len maxL, h.cap, h.good⟩)
theorem Ybz : Opn enc Tryz.prog W spare held 24 rowF (RtG W) :=
  YdB Yho YhZ (fun _ => rfl) (fun _ h => ⟨h.old, Nat.le_trans h.len maxL, h.cap, h.good⟩)
theorem Ye1 : Opn enc Tryz.prog W spare held 59 (fun s : SlM RowM => [s.val]) (SlG W rowF (RtG W)) := VD (q := 1) Tryz.underlying59 (by kernel_rfl) (by decide) Ygt
theorem Ygs : Opn enc Tryz.prog W spare held 22 (fun s : SlM RowM => [s.val]) (SlG W rowF (RtG W)) := VD (q := 1) Tryz.underlying22 (by kernel_rfl) (by decide) Ybz
structure ClG (W : World) (c : ClM) : Prop where
  f : I64 c.flow
  rt : Old W c.rA (c.rs.flatMap rowF)
  rg : ∀ r ∈ c.rs, RtG W r
  bd : RtG W ⟨c.bA, c.bcap, c.bs⟩
  ws : RtG W ⟨c.wA, c.wcap, c.ws⟩
  st : Old W c.sA (c.ss.flatMap rowF)
  sg : ∀ r ∈ c.ss, RtG W r
  rl : c.rs.length ≤ 9223372036854775807
  sl : c.ss.length ≤ 9223372036854775807
  rc : c.rs.length ≤ c.rcap
  sc : c.ss.length ≤ c.scap
theorem Ygr : Opn enc Tryz.prog W spare held 61 clF (ClG W) :=
  YdB (Ye2 (ts := [3, 59, 24, 24, 22]) (by kernel_rfl) (Vv op_i (Vv Ye1 (Vv Ybz (Vv Ybz (Vv Ygs Yhj))))))
    (fun x => ⟨x.1, x.2.1.A, x.2.1.cap, x.2.1.xs, x.2.2.1.A, x.2.2.1.cap, x.2.2.1.xs, x.2.2.2.1.A, x.2.2.2.1.cap, x.2.2.2.1.xs, x.2.2.2.2.1.A, x.2.2.2.2.1.cap, x.2.2.2.2.1.xs⟩) (fun x => by simp [clF, numF, rowF, SlM.val]) (fun x h => by
      obtain ⟨h1, h2, h3, h4, h5, _⟩ := h
      exact ⟨h1, h2.old, h2.good, h3, h4, h5.old, h5.good, Nat.le_trans h2.len maxL, Nat.le_trans h5.len maxL, h2.cap, h5.cap⟩)
theorem Ye0 : Opn enc Tryz.prog W spare held 48 (fun s : SlM ClM => [s.val]) (SlG W clF (ClG W)) := VD (q := 5) Tryz.underlying48 (by kernel_rfl) (by decide) Ygr
set_option maxRecDepth 100000 in
theorem Yiw {r : Reach} {b0 : Nat} {v : Value} {d : DataW H} {p : List MemPlace} (hv : Value.okWide Tryz.prog W r b0 48 v) (h : DataW.Trod enc Tryz.prog W 0 spare held 48 v d p) : ∃ s : SlM ClM, v = s.val ∧ SlG W clF (ClG W) s := by
  obtain ⟨a, len, cap, rfl⟩ := okWide_slice Tryz.underlying48 hv
  obtain ⟨fuel, hf⟩ := h
  obtain ⟨n, h1, h2⟩ := Ye0 fuel _ _ hf
  refine ⟨n, ?_, h2⟩
  injection h1
end
open Go.RowKit Go.Eng Go.Nw Go.Rt
abbrev flws (A : Option Addr) (cap : Nat) (l : List Flw) : HP := sl 68 6 A l.length cap (l.flatMap flwF)
theorem YeM (A : Option Addr) (cap : Nat) (l : List Flw) (f : Flw) : sl 68 6 A (l.length + 1) cap (l.flatMap flwF ++ #[.int .i64 f.1, .int .i64 f.2.1, .int .i64 f.2.2.1, .int .i64 f.2.2.2.1, .int .i64 f.2.2.2.2.1, .int .i64 f.2.2.2.2.2].toList) = flws A cap (l ++ [f]) := by simp [flws, List.flatMap_append, flwF]
structure FlM where
  i : Nat
  A : Option Addr
  cap : Nat
def RqM.fl (q : List RqM) : List Flw := q.map (·.f)
set_option maxRecDepth 10000 in
theorem WF (q : List RqM) {A : Option Addr} {cap B : Nat} {w0 : World} {H : List HP} {w : World} (hl : q.length ≤ 1000000000000) (hr : Rd B w0 H A (q.flatMap rqF)) (hw : St B w0 H w) :
    Calls Tryz.prog 68 [.slice A q.length cap].toArray w (Post B w0 fun v K => ∃ A2 cap2, v = .slice A2 (RqM.fl q).length cap2 ∧ K = flws A2 cap2 (RqM.fl q) :: H) := by
  refine Yd Tryz.func68 Tryz.ntmps68 rfl rfl hw ?_
  repeat' (first | apply (zs1 ?_) | apply (zs2 ?_) | (apply zg4; refine zs9 ?_) | apply (zs65 ?_) | apply (zs68 ?_) | apply (zs69 ?_) | apply (zs70 ?_) | apply (zs73 ?_) | fail)
  refine Jo 68 6 ?_
  refine Yk (fun z : FlM => [(8, .int .i64 (z.i : Nat)), (7, .int .i64 q.length), (6, .slice A q.length cap), (3, .slice z.A (RqM.fl (q.take z.i)).length z.cap)]) (fun z => flws z.A z.cap (RqM.fl (q.take z.i)) :: H) (fun z => z.i ≤ q.length) (fun z => q.length - z.i) ⟨0, none, 0⟩ (Nat.zero_le _) ?_ (fun w hw => hw) ?_
  · exact zu
  rintro ⟨i, A2, cap2⟩ hi K hK
  dsimp only at hi ⊢
  have hlen : (RqM.fl (q.take i)).length = i := by unfold RqM.fl; rw [List.length_map, List.length_take]; omega
  have hr' := hr.cons (X := flws A2 cap2 (RqM.fl (q.take i)))
  by_cases hlt : i < q.length
  · obtain ⟨x, hx⟩ : ∃ x, q[i]? = some x := ⟨_, List.getElem?_eq_getElem hlt⟩
    have hst : RqM.fl (q.take (i + 1)) = RqM.fl (q.take i) ++ [x.f] := by unfold RqM.fl; rw [List.take_add_one, hx, Option.toList_some, List.map_append]; rfl
    repeat' (first | (apply Xd T; exact rfl; exact zm; exact rfl; exact zv; exact rfl; exact rfl) | apply (zs1 ?_) | apply (zs2 ?_) | (apply zg2; refine zs6 ?_) | (apply zg3; refine zs61 ?_) | (apply zg5; refine zs57 ?_) | (apply (zs17 ?_ ?_) <;> intro _ <;> try (exfalso; omega)) | (apply zg13; refine zs30 ?_) | (apply zg21; (refine zs49 ?_; intro _ _)) | (apply zg22; refine zs51 ?_) | (apply zg24; (refine zs54 ?_; intro _)) | (apply zg26; (refine zs56 ?_; intro _)) | apply (zs65 ?_) | apply (zs68 ?_) | apply (zs69 ?_) | apply (zs70 ?_) | (apply zg27; refine zs71 ?_) | apply (zs73 ?_) | apply (zs76 ?_) | apply (zs79 ?_) | fail)
    rename_i A' cap'
    rw [YeM, ← hst, show (RqM.fl (q.take i)).length + 1 = (RqM.fl (q.take (i + 1))).length from by rw [hst]; simp]
    apply hK ⟨i + 1, A', cap'⟩
    · show i + 1 ≤ _
      omega
    · dsimp only; omega
    · exact zu
    · exact zk
  · obtain rfl : i = q.length := by omega
    rw [List.take_length]
    repeat' (first | apply (zs1 ?_) | apply (zs2 ?_) | (apply (zs17 ?_ ?_) <;> intro _ <;> try (exfalso; omega)) | apply (zs65 ?_) | apply (zs68 ?_) | apply (zs69 ?_) | apply (zs70 ?_) | (apply zg27; refine zs72 ?_) | apply (zs74 ?_) | apply (zs75 ?_) | apply (zs80 ?_) | apply (zs81 ?_) | fail)
    apply Yc; exact rfl; exact rfl
    exact ⟨A2, cap2, rfl, rfl⟩
theorem QC {x : RqM} {k : Nat} {r : RowM} (h : x.rows[k]? = some r) : rtAt x.rq.2 k = r.xs := by
  have h2 : x.rq.2[k]? = some r.xs := by
    show (x.rows.map (·.xs))[k]? = _
    rw [List.getElem?_map, h]; rfl
  exact Option.some.inj ((YaV (List.getElem?_eq_some_iff.1 h2).1).symm.trans h2)
set_option maxRecDepth 10000 in
set_option maxHeartbeats 4000000 in
theorem Wd (n : NetM) (x : RqM) {B : Nat} {w0 : World} {H : List HP} {w : World} (hin : n.In B w0 H) (hx : x.In B w0 H) (hw : St B w0 H w) :
    Calls Tryz.prog 121 [n.val, rqV x].toArray w (Post B w0 fun v K => v = .int .i64 (rtsE n.net x.rq) ∧ K = H) := by
  refine Yd Tryz.func121 Tryz.ntmps121 rfl rfl hw ?_
  have hln : x.rq.2.length = x.rows.length := by unfold RqM.rq; rw [List.length_map]
  have hlx := hx.ln
  have e1 : x.rq.1 = x.f := rfl
  unfold rtsE
  rw [hln, e1]
  have p1 := fun {H' : List HP} {w : World} (r : RowM) (hr : r ∈ x.rows) (hin : n.In B w0 H') (hx : x.In B w0 H') (hw : St B w0 H' w) => OC n x.f.2.1 x.f.2.2.1 r.xs (cap := r.cap) hin (hx.rw_ r hr) (Nat.le_trans (hx.rl r hr).1 (by decide)) (hx.rl r hr).2 hw
  unfold NetM.val rqV
  by_cases h0 : x.rows.length = 0
  · rw [if_pos h0]
    repeat' (first | apply (zs2 ?_) | (apply zg2; refine zs6 ?_) | (apply zg3; refine zs7 ?_) | (apply zg4; refine zs9 ?_) | (apply zg7; (refine zs15 ?_ ?_ <;> intro _ <;> try (exfalso; omega))) | (apply zg23; (refine zs52 ?_; intro _)) | apply (zs65 ?_) | apply (zs68 ?_) | apply (zs69 ?_) | apply (zs70 ?_) | (apply zg27; refine zs71 ?_) | apply (zs74 ?_) | apply (zs77 ?_) | fail)
    apply Yi H
    · exact zk
    apply Yc; exact rfl; exact rfl; exact ⟨rfl, rfl⟩
  rw [if_neg h0]
  by_cases h2 : 2 < x.rows.length
  · rw [if_pos h2]
    repeat' (first | apply (zs2 ?_) | (apply zg2; refine zs6 ?_) | (apply zg3; refine zs7 ?_) | (apply zg4; refine zs9 ?_) | (apply zg7; (refine zs15 ?_ ?_ <;> intro _ <;> try (exfalso; omega))) | (apply (zs19 ?_ ?_) <;> intro _ <;> try (exfalso; omega)) | (apply zg23; (refine zs52 ?_; intro _)) | apply (zs65 ?_) | apply (zs68 ?_) | apply (zs69 ?_) | apply (zs70 ?_) | (apply zg27; first | refine zs71 ?_ | refine zs72 ?_) | apply (zs74 ?_) | apply (zs76 ?_) | apply (zs77 ?_) | fail)
    apply Yi H
    · exact zk
    apply Yc; exact rfl; exact rfl; exact ⟨rfl, rfl⟩
  rw [if_neg h2]
  obtain ⟨F, hF⟩ : ∃ F, (fun k => ZB n.net x.f.2.1 x.f.2.2.1 (rtAt x.rq.2 k)) = F := ⟨_, rfl⟩
  rw [hF]
  have hFv : ∀ {k : Nat} {r : RowM}, x.rows[k]? = some r → F k = ZB n.net x.f.2.1 x.f.2.2.1 r.xs := fun h => by rw [← hF]; show ZB _ _ _ _ = _; rw [QC h]
  repeat' (first | apply (zs1 ?_) | apply (zs2 ?_) | (apply zg2; refine zs6 ?_) | (apply zg3; refine zs7 ?_) | (apply zg4; refine zs9 ?_) | (apply zg7; (refine zs15 ?_ ?_ <;> intro _ <;> try (exfalso; omega))) | (apply (zs19 ?_ ?_) <;> intro _ <;> try (exfalso; omega)) | (apply zg23; (refine zs52 ?_; intro _)) | apply (zs65 ?_) | apply (zs68 ?_) | apply (zs69 ?_) | apply (zs70 ?_) | (apply zg27; refine zs72 ?_) | apply (zs73 ?_) | apply (zs76 ?_) | fail)
  rename_i gn gx _ _
  refine Yk (fun k : Nat => [(19, .int .i64 (k : Nat)), (18, .int .i64 x.rows.length), (17, .slice x.A x.rows.length x.cap), (3, .pointer (some ⟨gx, 0, none⟩)), (2, .pointer (some ⟨gn, 0, none⟩))]) (fun _ => rqA gx x :: netA gn n :: H) (fun k => k ≤ x.rows.length ∧ ∀ j, 0 ≤ j → j < k → F j = 0) (fun k => x.rows.length - k) 0 ⟨Nat.zero_le _, fun j _ h => absurd h (Nat.not_lt_zero _)⟩ ?_ (fun w hw => hw) ?_
  · exact zu
  rintro k ⟨hk, hz⟩ K hK
  have hrt : Rd B w0 (rqA gx x :: netA gn n :: H) x.A (x.rows.flatMap rowF) := hx.rt.cons.cons
  by_cases hlt : k < x.rows.length
  · obtain ⟨r, hr⟩ : ∃ r, x.rows[k]? = some r := ⟨_, List.getElem?_eq_getElem hlt⟩
    have hFk := hFv hr
    have p2 := fun {H' : List HP} {w : World} (hin : n.In B w0 H') (hx : x.In B w0 H') (hw : St B w0 H' w) => p1 r (List.mem_of_getElem? hr) hin hx hw
    rw [← hFk] at p2
    by_cases hFz : F k = 0
    · rw [hFz] at p2
      repeat' (first | ((first | apply Ya Yat | apply Yb Yat); exact za; exact rfl; exact fun _ hw => (p2 (hin.mono zk) (hx.mono zk) hw)) | apply (zs1 ?_) | apply (zs2 ?_) | (apply zg2; refine zs6 ?_) | (apply zg3; first | refine zs7 ?_ | refine zs8 ?_ | refine zs60 ?_) | (apply zg5; refine zs57 ?_) | (apply zg8; (refine zs16 ?_ ?_ <;> intro _ <;> try (exfalso; omega))) | (apply (zs17 ?_ ?_) <;> intro _ <;> try (exfalso; omega)) | (apply zg13; refine zs30 ?_) | apply (zs65 ?_) | apply (zs68 ?_) | apply (zs69 ?_) | apply (zs70 ?_) | (apply zg27; first | refine zs71 ?_ | refine zs72 ?_) | apply (zs73 ?_) | apply (zs76 ?_) | apply (zs79 ?_) | fail)
      apply hK (k + 1)
      · exact ⟨by omega, fun j h1 h2 => by
          rcases Nat.lt_succ_iff_lt_or_eq.1 h2 with h | rfl
          · exact hz j h1 h
          · exact hFz⟩
      · omega
      · exact zu
      · exact zk
    · have hfe := Xb (f := F) (r := x.rows.length) (i0 := 0) (i := k) (fun j h1 h2 => hz j h1 h2) (Nat.zero_le _) (by omega) hFz
      rw [hfe, if_pos hFz]
      clear hK
      repeat' (first | ((first | apply Ya Yat | apply Yb Yat); exact za; exact rfl; exact fun _ hw => (p2 (hin.mono zk) (hx.mono zk) hw)) | apply (zs1 ?_) | apply (zs2 ?_) | (apply zg2; refine zs6 ?_) | (apply zg3; first | refine zs7 ?_ | refine zs8 ?_ | refine zs60 ?_) | (apply zg5; refine zs57 ?_) | (apply zg8; (refine zs16 ?_ ?_ <;> intro _ <;> try (exfalso; omega))) | (apply (zs17 ?_ ?_) <;> intro _ <;> try (exfalso; omega)) | apply (zs65 ?_) | apply (zs68 ?_) | apply (zs69 ?_) | apply (zs70 ?_) | (apply zg27; refine zs71 ?_) | apply (zs73 ?_) | apply (zs74 ?_) | apply (zs76 ?_) | apply (zs77 ?_) | apply (zs78 ?_) | fail)
      apply Yi H
      · exact zk
      apply Yc; exact rfl; exact rfl; exact ⟨rfl, rfl⟩
  · obtain rfl : k = x.rows.length := by omega
    have hfe := Xx (f := F) (r := x.rows.length) (i0 := 0) fun j h1 h2 => hz j h1 (by omega)
    rw [hfe, if_neg (fun e => e rfl)]
    clear hK
    by_cases h3 : x.rows.length = 2
    rotate_left
    · rw [if_neg (fun e => h3 e.1)]
      repeat' (first | apply (zs1 ?_) | apply (zs2 ?_) | (apply zg1; refine zs3 ?_) | (apply zg2; refine zs6 ?_) | (apply zg3; refine zs7 ?_) | (apply zg4; refine zs9 ?_) | (apply zg6; refine zs12 ?_) | (apply zg7; (refine zs15 ?_ ?_ <;> intro _ <;> try (exfalso; omega))) | (apply (zs17 ?_ ?_) <;> intro _ <;> try (exfalso; omega)) | apply (zs65 ?_) | apply (zs66 ?_) | apply (zs68 ?_) | apply (zs69 ?_) | apply (zs70 ?_) | (apply zg27; refine zs72 ?_) | apply (zs74 ?_) | apply (zs75 ?_) | apply (zs76 ?_) | apply (zs80 ?_) | apply (zs81 ?_) | (apply zg28; refine zs84 ?_) | fail)
      apply Yi H
      · exact zk
      apply Yc; exact rfl; exact rfl; exact ⟨rfl, rfl⟩
    obtain ⟨r0, hr0⟩ : ∃ r, x.rows[0]? = some r := ⟨_, List.getElem?_eq_getElem (by omega)⟩
    obtain ⟨r1, hr1⟩ : ∃ r, x.rows[1]? = some r := ⟨_, List.getElem?_eq_getElem (by omega)⟩
    rw [QC hr0, QC hr1]
    have p3 := fun {H' : List HP} {w : World} (hx : x.In B w0 H') (hw : St B w0 H' w) => WR r0.xs r1.xs (cap := r0.cap) (cap2 := r1.cap) (Nat.le_trans (hx.rl r0 (List.mem_of_getElem? hr0)).1 (by decide)) (Nat.le_trans (hx.rl r1 (List.mem_of_getElem? hr1)).1 (by decide)) (hx.rw_ r0 (List.mem_of_getElem? hr0)) (hx.rw_ r1 (List.mem_of_getElem? hr1)) hw
    by_cases heq : r0.xs = r1.xs
    · rw [if_pos ⟨h3, heq⟩]
      rw [decide_eq_true heq] at p3
      repeat' (first | (apply (zs17 ?_ ?_) <;> intro _ <;> try (exfalso; omega)) | apply (zs65 ?_) | apply (zs68 ?_) | apply (zs69 ?_) | apply (zs70 ?_) | (apply zg27; refine zs72 ?_) | apply (zs75 ?_) | apply (zs80 ?_) | apply (zs81 ?_) | fail)
      apply YB [0, 1, 2, 3, 4, 5, 6, 7, 8, 9, 10, 11, 12, 13, 14] []
      kernel_rfl
      kernel_rfl
      (simp only [Yj, nthO]; rfl)
      exact rfl
      repeat' (first | apply (zs1 ?_) | (apply zg1; refine zs4 ?_) | (apply zg2; refine zs6 ?_) | (apply zg3; first | refine zs7 ?_ | refine zs60 ?_) | (apply zg4; refine zs9 ?_) | (apply zg5; refine zs57 ?_) | (apply zg7; (refine zs15 ?_ ?_ <;> intro _ <;> try (exfalso; omega))) | apply (zs87 ?_) | fail)
      first | apply Ya en33 | apply Yb en33
      exact za
      exact rfl
      exact fun _ hw => (p3 (hx.mono zk) hw)
      repeat' (first | apply (zs2 ?_) | (apply zg6; refine zs11 ?_) | apply (zs65 ?_) | (apply Yn; exact zp) | apply (zs68 ?_) | apply (zs69 ?_) | apply (zs70 ?_) | (apply zg27; refine zs71 ?_) | apply (zs74 ?_) | apply (zs77 ?_) | (apply Yl; (repeat (first | with_reducible exact Yh | (with_reducible apply Yg; (repeat (first | with_reducible exact Yf | with_reducible apply Ye)))))) | apply (zs93 ?_) | apply (zs94 ?_) | fail)
      · show Perm H (H ++ [])
        rw [List.append_nil]; exact Perm.refl _
      repeat' (first | fail)
      apply Yi H
      · exact zk
      apply Yc; exact rfl; exact rfl; exact ⟨rfl, rfl⟩
    · rw [if_neg (fun e => heq e.2)]
      rw [decide_eq_false heq] at p3
      repeat' (first | (apply (zs17 ?_ ?_) <;> intro _ <;> try (exfalso; omega)) | apply (zs65 ?_) | apply (zs68 ?_) | apply (zs69 ?_) | apply (zs70 ?_) | (apply zg27; refine zs72 ?_) | apply (zs75 ?_) | apply (zs80 ?_) | apply (zs81 ?_) | fail)
      apply YB [0, 1, 2, 3, 4, 5, 6, 7, 8, 9, 10, 11, 12, 13, 14] []
      kernel_rfl
      kernel_rfl
      (simp only [Yj, nthO]; rfl)
      exact rfl
      repeat' (first | apply (zs1 ?_) | (apply zg1; refine zs4 ?_) | (apply zg2; refine zs6 ?_) | (apply zg3; first | refine zs7 ?_ | refine zs60 ?_) | (apply zg4; refine zs9 ?_) | (apply zg5; refine zs57 ?_) | (apply zg7; (refine zs15 ?_ ?_ <;> intro _ <;> try (exfalso; omega))) | apply (zs87 ?_) | fail)
      first | apply Ya en33 | apply Yb en33
      exact za
      exact rfl
      exact fun _ hw => (p3 (hx.mono zk) hw)
      repeat' (first | apply (zs2 ?_) | (apply zg6; refine zs11 ?_) | apply (zs65 ?_) | (apply Yn; exact zp) | apply (zs68 ?_) | apply (zs69 ?_) | apply (zs70 ?_) | (apply zg27; refine zs72 ?_) | apply (zs74 ?_) | apply (zs76 ?_) | (apply Yl; (repeat (first | with_reducible exact Yh | (with_reducible apply Yg; (repeat (first | with_reducible exact Yf | with_reducible apply Ye)))))) | apply (zs93 ?_) | apply (zs94 ?_) | fail)
      · show Perm H (H ++ [])
        rw [List.append_nil]; exact Perm.refl _
      repeat' (first | fail)
      apply Yi H
      · exact zk
      apply Yc; exact rfl; exact rfl; exact ⟨rfl, rfl⟩
theorem Ygg (q : List RqM) : RqM.fl q = Wj (q.map RqM.rq) := by unfold RqM.fl Wj; rw [List.map_map]; rfl
theorem QB {q : List RqM} {i : Nat} {x : RqM} (h : q[i]? = some x) : rqAt (q.map RqM.rq) i = x.rq := by
  have h2 : (q.map RqM.rq)[i]? = some x.rq := by rw [List.getElem?_map, h]; rfl
  exact Option.some.inj ((Yfd (List.getElem?_eq_some_iff.1 h2).1).symm.trans h2)
set_option maxRecDepth 10000 in
set_option maxHeartbeats 4000000 in
theorem Yaa (n : NetM) (q : List RqM) {A : Option Addr} {cap B : Nat} {w0 : World} {H : List HP} {w : World} (hin : n.In B w0 H) (hq : QIn B w0 H A q) (hw : St B w0 H w) :
    Calls Tryz.prog 67 [n.val, .slice A q.length cap].toArray w (Post B w0 fun v K => v = .tuple #[.int .i64 (rqsE n.net (q.map RqM.rq)).1, .int .i64 (rqsE n.net (q.map RqM.rq)).2] ∧ K = H) := by
  refine Yd Tryz.func67 Tryz.ntmps67 rfl rfl hw ?_
  have hql := hq.ln
  have hqr := hq.rd
  have p1 := fun {H' : List HP} {w : World} (hin : n.In B w0 H') (hw : St B w0 H' w) => YK n hin hw
  have p2 := fun {H' : List HP} {w : World} (hq : QIn B w0 H' A q) (hw : St B w0 H' w) => WF q (cap := cap) hql hq.rd hw
  have p3 := fun {A2 : Option Addr} {cap2 : Nat} {H' : List HP} {w : World} (hr : Rd B w0 H' A2 ((RqM.fl q).flatMap flwF)) (hw : St B w0 H' w) => YO n.nodes (RqM.fl q) (by unfold RqM.fl; rw [List.length_map]; omega) (cap := cap2) hr hw
  unfold rqsE
  rw [← Ygg, List.length_map]
  rw [show n.net.nodes = n.nodes from rfl]
  obtain ⟨c, hc⟩ : ∃ c, YA n.net = c := ⟨_, rfl⟩
  obtain ⟨⟨fi, fe⟩, hf⟩ : ∃ f, YV n.nodes (RqM.fl q) = f := ⟨_, rfl⟩
  obtain ⟨F, hF⟩ : ∃ F, (fun i => rtsE n.net (rqAt (q.map RqM.rq) i)) = F := ⟨_, rfl⟩
  rw [hc] at p1 ⊢
  rw [hf] at p3 ⊢
  rw [hF]
  dsimp only at p3 ⊢
  have hFv : ∀ {k : Nat} {x : RqM}, q[k]? = some x → F k = rtsE n.net x.rq := fun h => by rw [← hF]; show rtsE _ _ = _; rw [QB h]
  unfold NetM.val
  by_cases h0 : c = 0
  rotate_left
  · rw [if_pos h0]
    repeat' (first | ((first | apply Ya en50 | apply Yb en50); exact za; exact rfl; exact fun _ hw => (p1 hin.cons hw)) | apply (zs2 ?_) | (apply zg3; refine zs8 ?_) | (apply zg8; (refine zs16 ?_ ?_ <;> intro _ <;> try (exfalso; omega))) | (apply zg23; (refine zs52 ?_; intro _)) | apply (zs65 ?_) | apply (zs68 ?_) | apply (zs69 ?_) | apply (zs70 ?_) | (apply zg27; refine zs71 ?_) | apply (zs74 ?_) | apply (zs77 ?_) | fail)
    apply Yi H
    · exact zk
    apply Yp; exact rfl; exact rfl; exact rfl; exact ⟨rfl, rfl⟩
  subst h0
  rw [if_neg (fun e => e rfl)]
  by_cases h1 : fe = 0
  rotate_left
  · rw [if_pos h1]
    repeat' (first | ((first | apply Ya en50 | apply Yb en50); exact za; exact rfl; exact fun _ hw => (p1 hin.cons hw)) | apply (zs2 ?_) | (apply zg3; refine zs8 ?_) | (apply zg8; (refine zs16 ?_ ?_ <;> intro _ <;> try (exfalso; omega))) | (apply zg23; (refine zs52 ?_; intro _)) | apply (zs65 ?_) | apply (zs68 ?_) | apply (zs69 ?_) | apply (zs70 ?_) | (apply zg27; refine zs72 ?_) | apply (zs76 ?_) | fail)
    apply ZL [0, 1, 2, 3, 4, 5, 6, 7, 8, 9] [] [true]
    kernel_rfl
    kernel_rfl
    exact zy
    (simp only [Yj, nthO]; rfl)
    exact rfl
    repeat' (first | apply (zs1 ?_) | (apply zg2; refine zs6 ?_) | (apply zg3; refine zs7 ?_) | apply (zs87 ?_) | fail)
    apply Yo _ en68
    exact za
    exact rfl
    exact fun _ hw => (p2 (hq.mono zk) (hw))
    rintro _ _ ⟨A2, cap2, rfl, rfl⟩
    repeat' (first | apply (zs65 ?_) | apply (zs87 ?_) | (apply Yl; (repeat (first | with_reducible exact Yh | (with_reducible apply Yg; (repeat (first | with_reducible exact Yf | with_reducible apply Ye)))))) | fail)
    first | apply Ya en51 | apply Yb en51
    exact za
    exact rfl
    exact fun _ hw => (p3 (Rd.sl zm) hw)
    repeat' (first | apply (zs1 ?_) | apply (zs2 ?_) | apply (zs13 ?_) | (apply zg8; (refine zs16 ?_ ?_ <;> intro _ <;> try (exfalso; omega))) | apply (zs65 ?_) | (apply Yn; exact zp) | apply (zs68 ?_) | apply (zs69 ?_) | apply (zs70 ?_) | (apply zg27; refine zs71 ?_) | apply (zs74 ?_) | apply (zs77 ?_) | (apply Yl; (repeat (first | with_reducible exact Yh | (with_reducible apply Yg; (repeat (first | with_reducible exact Yf | with_reducible apply Ye)))))) | apply (zs93 ?_) | apply (zs94 ?_) | fail)
    apply Yi H
    · exact zk
    apply Yp; exact rfl; exact rfl; exact rfl; exact ⟨rfl, rfl⟩
  subst h1
  rw [if_neg (fun e => e rfl)]
  repeat' (first | ((first | apply Ya en50 | apply Yb en50); exact za; exact rfl; exact fun _ hw => (p1 hin.cons hw)) | apply (zs2 ?_) | (apply zg3; refine zs8 ?_) | (apply zg8; (refine zs16 ?_ ?_ <;> intro _ <;> try (exfalso; omega))) | (apply zg23; (refine zs52 ?_; intro _)) | apply (zs65 ?_) | apply (zs68 ?_) | apply (zs69 ?_) | apply (zs70 ?_) | (apply zg27; refine zs72 ?_) | apply (zs76 ?_) | fail)
  first | (rename_i gn; guard_hyp gn : Nat) | (rename_i gn _; guard_hyp gn : Nat) | (rename_i gn _ _; guard_hyp gn : Nat)
  apply ZL [0, 1, 2, 3, 4, 5, 6, 7, 8, 9] [] [true]
  kernel_rfl
  kernel_rfl
  exact zy
  (simp only [Yj, nthO]; rfl)
  exact rfl
  repeat' (first | apply (zs1 ?_) | (apply zg2; refine zs6 ?_) | (apply zg3; refine zs7 ?_) | apply (zs87 ?_) | fail)
  apply Yo _ en68
  exact za
  exact rfl
  exact fun _ hw => (p2 (hq.mono zk) (hw))
  rintro _ _ ⟨A2, cap2, rfl, rfl⟩
  repeat' (first | apply (zs65 ?_) | apply (zs87 ?_) | (apply Yl; (repeat (first | with_reducible exact Yh | (with_reducible apply Yg; (repeat (first | with_reducible exact Yf | with_reducible apply Ye)))))) | fail)
  first | apply Ya en51 | apply Yb en51
  exact za
  exact rfl
  exact fun _ hw => (p3 (Rd.sl zm) hw)
  repeat' (first | apply (zs1 ?_) | apply (zs2 ?_) | (apply zg4; refine zs9 ?_) | apply (zs13 ?_) | (apply zg8; (refine zs16 ?_ ?_ <;> intro _ <;> try (exfalso; omega))) | apply (zs65 ?_) | (apply Yn; exact zp) | apply (zs68 ?_) | apply (zs69 ?_) | apply (zs70 ?_) | (apply zg27; refine zs72 ?_) | apply (zs73 ?_) | apply (zs76 ?_) | (apply Yl; (repeat (first | with_reducible exact Yh | (with_reducible apply Yg; (repeat (first | with_reducible exact Yf | with_reducible apply Ye)))))) | apply (zs93 ?_) | apply (zs94 ?_) | fail)
  refine Yk (fun k : Nat => [(28, .int .i64 (k : Nat)), (27, .int .i64 q.length), (26, .slice A q.length cap), (2, .pointer (some ⟨gn, 0, none⟩))]) (fun _ => netA gn n :: H) (fun k => k ≤ q.length ∧ ∀ j, 0 ≤ j → j < k → F j = 0) (fun k => q.length - k) 0 ⟨Nat.zero_le _, fun j _ h => absurd h (Nat.not_lt_zero _)⟩ ?_ ?_ ?_
  · exact zu
  · exact zk
  rintro k ⟨hk, hz⟩ K hK
  have hqr' : Rd B w0 (netA gn n :: H) A (q.flatMap rqF) := hqr.cons
  by_cases hlt : k < q.length
  · obtain ⟨x, hx⟩ : ∃ x, q[k]? = some x := ⟨_, List.getElem?_eq_getElem hlt⟩
    have hFk := hFv hx
    have hxi := hq.x x (List.mem_of_getElem? hx)
    have p4 := fun {H' : List HP} {w : World} (hin : n.In B w0 H') (hx : x.In B w0 H') (hw : St B w0 H' w) => Wd n x hin hx hw
    rw [← hFk] at p4
    by_cases hFz : F k = 0
    · rw [hFz] at p4
      repeat' (first | ((first | apply Ya Yd6 | apply Yb Yd6); exact za; exact rfl; exact fun _ hw => (p4 (hin.mono zk) (hxi.mono zk) hw)) | apply (zs1 ?_) | apply (zs2 ?_) | (apply zg3; first | refine zs8 ?_ | refine zs61 ?_) | (apply zg5; refine zs57 ?_) | (apply zg8; (refine zs16 ?_ ?_ <;> intro _ <;> try (exfalso; omega))) | (apply (zs17 ?_ ?_) <;> intro _ <;> try (exfalso; omega)) | (apply zg13; refine zs30 ?_) | (apply zg22; refine zs51 ?_) | (apply zg24; (refine zs54 ?_; intro _)) | apply (zs65 ?_) | apply (zs68 ?_) | apply (zs69 ?_) | apply (zs70 ?_) | (apply zg27; first | refine zs71 ?_ | refine zs72 ?_) | apply (zs73 ?_) | apply (zs76 ?_) | apply (zs79 ?_) | fail)
      apply hK (k + 1)
      · exact ⟨by omega, fun j h1 h2 => by
          rcases Nat.lt_succ_iff_lt_or_eq.1 h2 with h | rfl
          · exact hz j h1 h
          · exact hFz⟩
      · omega
      · exact zu
      · exact zk
    · have hfe := Xb (f := F) (r := q.length) (i0 := 0) (i := k) (fun j h1 h2 => hz j h1 h2) (Nat.zero_le _) (by omega) hFz
      rw [hfe]
      clear hK
      repeat' (first | ((first | apply Ya Yd6 | apply Yb Yd6); exact za; exact rfl; exact fun _ hw => (p4 (hin.mono zk) (hxi.mono zk) hw)) | apply (zs1 ?_) | apply (zs2 ?_) | (apply zg3; first | refine zs8 ?_ | refine zs61 ?_) | (apply zg5; refine zs57 ?_) | (apply zg8; (refine zs16 ?_ ?_ <;> intro _ <;> try (exfalso; omega))) | (apply (zs17 ?_ ?_) <;> intro _ <;> try (exfalso; omega)) | (apply zg22; refine zs51 ?_) | (apply zg24; (refine zs54 ?_; intro _)) | apply (zs65 ?_) | apply (zs68 ?_) | apply (zs69 ?_) | apply (zs70 ?_) | (apply zg27; refine zs71 ?_) | apply (zs73 ?_) | apply (zs74 ?_) | apply (zs76 ?_) | apply (zs77 ?_) | apply (zs78 ?_) | fail)
      apply Yi H
      · exact zk
      apply Yp; exact rfl; exact rfl; exact rfl; exact ⟨rfl, rfl⟩
  · obtain rfl : k = q.length := by omega
    have hfe := Xx (f := F) (r := q.length) (i0 := 0) fun j h1 h2 => hz j h1 (by omega)
    rw [hfe]
    clear hK
    repeat' (first | apply (zs2 ?_) | (apply (zs17 ?_ ?_) <;> intro _ <;> try (exfalso; omega)) | apply (zs65 ?_) | apply (zs68 ?_) | apply (zs69 ?_) | apply (zs70 ?_) | (apply zg27; refine zs72 ?_) | apply (zs74 ?_) | apply (zs75 ?_) | apply (zs80 ?_) | apply (zs81 ?_) | fail)
    apply Yi H
    · exact zk
    apply Yp; exact rfl; exact rfl; exact rfl; exact ⟨rfl, rfl⟩
open Go.RowKit Go.Eng Go.Nw Go.Rt
def runW (x : WayM) (a : Int) : List (Cel × Int) := runP x.s.len (Ue x.s.sch x.f.1) (a + x.f.2.2.2.1) (YE x.n.net x.r) a
def cntV (z : Cel × Int) : List Value := [celV z.1, .int .i64 z.2]
def Yd1 (x : WayM) (a : Int) : List (List Value) := (runW x a).map cntV
structure CtM where
  c : Nat
  a : Int
  L : List HP
structure CuM where
  k : Nat
  slot : Int
  a : Int
  c : Nat
  L : List HP
structure CvM where
  j : Nat
  k : Nat
  a : Int
  c : Nat
  L : List HP
theorem YgM {α : Type} {W r : List α} {c : Nat} {z : α} (hc : c ≤ W.length) (h : W = W.take c ++ z :: r) : W[c]? = some z ∧ c + 1 ≤ W.length ∧ W = W.take (c + 1) ++ r := by
  have hl : (W.take c).length = c := by rw [List.length_take]; omega
  have hg : W[c]? = some z := by
    rw [h, List.getElem?_append_right (by omega), hl, Nat.sub_self]; rfl
  refine ⟨hg, (List.getElem?_eq_some_iff.1 hg).1, ?_⟩
  rw [List.take_add_one, hg]
  conv => lhs; rw [h]
  simp
theorem Yc7 {α : Type} {W : List α} {c : Nat} (hc : c ≤ W.length) (h : W = W.take c ++ []) : c = W.length := by
  rw [List.append_nil] at h
  have := congrArg List.length h
  rw [List.length_take] at this
  omega
set_option maxRecDepth 10000 in
set_option maxHeartbeats 8000000 in
theorem Ybp (x : WayM) (at0 : Int) (hok : Vl x) (hat : 0 ≤ at0 ∧ at0 ≤ 1000000) (ga gw : Nat) {B : Nat} {w0 : World} {H : List HP} (hi : x.In B w0 H) :
    Yaj Tryz.prog 247 [.pointer (some ⟨ga, 0, none⟩), .pointer (some ⟨gw, 0, none⟩)] (Yd1 x at0) B w0 (intB ga at0 :: wayB gw x :: H) := by
  refine Yet Tryz.func247 Tryz.ntmps247 rfl rfl ?_
  intro l SS XX hy L0 h0
  have hper := hok.per
  have hslen := hok.slen
  obtain ⟨W, hW⟩ : ∃ W, runW x at0 = W := ⟨_, rfl⟩
  have hxs : Yd1 x at0 = W.map cntV := by unfold Yd1; rw [hW]
  rw [hxs] at hy ⊢
  rw [List.length_map]
  obtain ⟨endd, hend⟩ : ∃ e, at0 + x.f.2.2.2.1 = e := ⟨_, rfl⟩
  unfold runW at hW
  rw [hend] at hW
  unfold intB at hy ⊢
  iterate 3 (first | (apply zg23; (refine zs53 ?_; intro _)) | apply (zs69 ?_) | apply (zs70 ?_) | fail)
  rename_i gy
  apply YfK
  apply Ybf
  apply JT
  refine Om (fun z : Nat × Nat => [(5, .pointer (some ⟨z.2, 0, none⟩)), (4, .pointer (some ⟨z.1, 0, none⟩)), (3, .pointer (some ⟨gy, 0, none⟩)), (1, .pointer (some ⟨ga, 0, none⟩)), (2, .pointer (some ⟨gw, 0, none⟩))])
    (fun z => intB z.1 at0 :: many L0 :: intB z.2 endd :: blk gy (.cells #[.func (.yield l) #[] #[]] 291 (0, 0)) :: intB ga at0 :: wayB gw x :: H) ?_ ?_
  · intro K hK
    repeat' (first | fail)
    apply Ur (.n1 0 (.n1 1 (.n1 2 (.n1 3 (.n1 4 (.n1 5 (.n2 6 (.n1 7 (.n1 8 .done)) 7 (.n1 6 (.n1 8 .done))))))))) [9] [false, false, true, true]
    kernel_rfl
    kernel_rfl
    exact zy
    (simp only [Yj, nthO]; rfl)
    repeat' (first | (apply zg2; refine zs6 ?_) | (apply zg3; refine zs7 ?_) | (apply zg13; refine zs30 ?_) | (apply zg22; refine zs50 ?_) | (apply zg24; (refine zs54 ?_; intro _)) | apply (zs65 ?_) | (apply Yn; exact zp) | apply (zs87 ?_) | (apply Yl; (repeat (first | with_reducible exact Yh | (with_reducible apply Yg; (repeat (first | with_reducible exact Yf | with_reducible apply Ye)))))) | (apply Uz; exact zp) | apply (zs90 ?_) | apply (zs91 ?_ ?_) | (apply Xl; (repeat (first | with_reducible exact Yh | (with_reducible apply Yg; (repeat (first | with_reducible exact Yf | with_reducible apply Ye)))))) | apply (zs93 ?_) | apply (zs94 ?_) | fail)
    · rename_i a b
      rw [hend]
      apply hK (a, b)
      · exact zu
      · unfold intB
        dsimp only
        exact zk
    · rename_i a b
      rw [hend]
      apply hK (b, a)
      · exact zu
      · unfold intB
        dsimp only
        exact zk
  rintro ⟨g4, g5⟩
  unfold intB
  dsimp only
  repeat' (first | (apply zg3; refine zs8 ?_) | apply (zs69 ?_) | apply (zs70 ?_) | fail)
  apply Yo _ YhV
  exact za
  exact rfl
  exact fun _ hw => (Qs x (hw))
  rintro _ _ ⟨g2, rfl, rfl⟩
  repeat' (first | apply (zs65 ?_) | apply (zs68 ?_) | apply (zs73 ?_) | fail)
  have hiK : x.In B w0 (wayB g2 x :: blk g5 (.cells #[.int .i64 endd] 3 (0, 0)) :: blk gy (.cells #[.func (.yield l) #[] #[]] 291 (0, 0)) :: blk ga (.cells #[.int .i64 at0] 3 (0, 0)) :: wayB gw x :: H) := hi.cons.cons.cons.cons.cons
  refine XT (gf := 285) (lb := [.pointer (some ⟨g2, 0, none⟩)]) (xs := Zm x) (wayB g2 x :: blk g5 (.cells #[.int .i64 endd] 3 (0, 0)) :: blk gy (.cells #[.func (.yield l) #[] #[]] 291 (0, 0)) :: blk ga (.cells #[.int .i64 at0] 3 (0, 0)) :: wayB gw x :: H) (fun y : CtM => [blk g4 (.cells #[.int .i64 y.a] 3 (0, 0)), many y.L])
    (fun k y => y.c ≤ W.length ∧ W = W.take y.c ++ runP x.s.len (Ue x.s.sch x.f.1) endd ((YE x.n.net x.r).drop k) y.a ∧ SS y.c y.L ∧ at0 ≤ y.a ∧ y.a ≤ endd)
    (fun e K => e = .ret ∧ ∃ a L, (SS W.length L ∨ XX L) ∧ K = [blk g4 (.cells #[.int .i64 a] 3 (0, 0)), many L]) ⟨0, at0, L0⟩ rfl YhX (WX x g2 hok hiK (.head _)) rfl ?_ (by kernel_rfl) (by kernel_rfl) ?_ ⟨Nat.zero_le _, by simpa using hW.symm, h0, Int.le_refl _, by show at0 ≤ endd; omega⟩ ?_ ?_ ?_
  · intro args h
    obtain ⟨k, hk⟩ := List.mem_iff_getElem?.1 h
    obtain ⟨l, _, rfl⟩ := J1 hk
    rfl
  · simp only [List.cons_append, List.nil_append]
    exact zk
  · rintro l2 k args R ⟨c, a, L⟩ hk ⟨hc, hWk, hS, ha0, ha1⟩
    obtain ⟨lk, hlk, rfl⟩ := J1 hk
    have hbd := US hok hlk
    dsimp only at hc hWk hS ha0 ha1
    dsimp only [VH, List.cons_append, List.nil_append]
    unfold lkV
    repeat' (first | (apply zg22; refine zs51 ?_) | (apply zg24; (refine zs54 ?_; intro _)) | apply (zs65 ?_) | apply (zs70 ?_) | fail)
    rename_i gl
    apply JE (Ye Yf)
    intro R'
    repeat' (first | apply (zs2 ?_) | (apply zg2; refine zs6 ?_) | (apply zg3; first | refine zs7 ?_ | refine zs8 ?_) | (apply zg13; refine zs30 ?_) | apply (zs65 ?_) | apply (zs68 ?_) | apply (zs69 ?_) | apply (zs70 ?_) | apply (zs73 ?_) | fail)
    have hfew := hok.few
    apply Yo _ YiW
    exact za
    exact rfl
    exact fun _ hw => (Ydk x lk (by omega) (hi.mono zk).s (hw))
    rintro _ _ ⟨A, cap, rfl, rfl⟩
    have hcsl : (Ue x.s.sch x.f.1 lk).length ≤ 512 := Nat.le_trans (List.length_filter_le _ _) hfew
    have hdk : (YE x.n.net x.r).drop k = lk :: (YE x.n.net x.r).drop (k + 1) := by
      obtain ⟨h1, h2⟩ := List.getElem?_eq_some_iff.1 hlk
      rw [← h2]; exact List.drop_eq_getElem_cons h1
    rw [hdk, YgF] at hWk
    obtain ⟨cs, hcs⟩ : ∃ cs, Ue x.s.sch x.f.1 lk = cs := ⟨_, rfl⟩
    obtain ⟨ls, hls⟩ : ∃ ls, (YE x.n.net x.r).drop (k + 1) = ls := ⟨_, rfl⟩
    obtain ⟨C, hC⟩ : ∃ C, Ue x.s.sch x.f.1 = C := ⟨_, rfl⟩
    rw [hcs, hls, hC] at hWk
    rw [hcs] at hcsl ⊢
    rw [hC, hls]
    unfold cels
    repeat' (first | apply (zs2 ?_) | (apply zg3; refine zs7 ?_) | apply (zs65 ?_) | apply (zs68 ?_) | apply (zs69 ?_) | apply (zs70 ?_) | apply (zs73 ?_) | fail)
    rw [show lk.2.2 + 1 = ((Y0 lk : Nat) : Int) from by unfold Y0; omega]
    have hnl8 : Y0 lk ≤ 8 := by unfold Y0; omega
    refine Yk (fun z : CuM => [(9, .int .i64 z.slot), (7, .int .i64 (z.k : Nat)), (8, .slice A cs.length cap), (6, .pointer (some ⟨gl, 0, none⟩)), (5, .pointer (some ⟨g5, 0, none⟩)), (4, .pointer (some ⟨g4, 0, none⟩)), (3, .pointer (some ⟨gy, 0, none⟩)), (1, .pointer (some ⟨ga, 0, none⟩)), (2, .pointer (some ⟨gw, 0, none⟩))])
      (fun z => R' :: blk g4 (.cells #[.int .i64 z.a] 3 (0, 0)) :: many z.L :: sl 40 5 A cs.length cap (cs.flatMap celF) :: blk gl (.cells #[.int .i64 lk.1, .int .i64 lk.2.1, .int .i64 lk.2.2] 172 (0, 0)) :: wayB g2 x :: blk g5 (.cells #[.int .i64 endd] 3 (0, 0)) :: blk gy (.cells #[.func (.yield l) #[] #[]] 291 (0, 0)) :: blk ga (.cells #[.int .i64 at0] 3 (0, 0)) :: wayB gw x :: H)
      (fun z => z.c ≤ W.length ∧ W = W.take z.c ++ Vh x.s.len C endd cs ls (endd - z.slot).toNat z.k z.slot z.a ∧ SS z.c z.L ∧ (at0 ≤ z.a ∧ z.a ≤ endd) ∧ (at0 ≤ z.slot ∧ z.slot ≤ endd) ∧ z.k ≤ 8) (fun z => (endd - z.slot).toNat) ⟨Y0 lk, a, a, c, L⟩ ⟨hc, hWk, hS, ⟨ha0, ha1⟩, ⟨ha0, ha1⟩, hnl8⟩ ?_ ?_ ?_
    · exact zu
    · exact zk
    rintro ⟨kk, slot, a, c, L⟩ ⟨hc, hWk, hS, ⟨ha0, ha1⟩, ⟨hs0, hs1⟩, hk8⟩ K hK
    dsimp only at hc hWk hS ha0 ha1 hs0 hs1 hk8 ⊢
    by_cases hk0 : kk = 0
    · subst hk0
      rw [Yfq] at hWk
      clear hK
      repeat' (first | apply (zs1 ?_) | (apply (zs19 ?_ ?_) <;> intro _ <;> try (exfalso; omega)) | apply (zs65 ?_) | apply (zs68 ?_) | apply (zs69 ?_) | apply (zs70 ?_) | (apply zg27; refine zs72 ?_) | apply (zs75 ?_) | apply (zs79 ?_) | apply (zs80 ?_) | apply (zs81 ?_) | fail)
      apply JV (CtM.mk c a L)
      · exact ⟨hc, hWk, hS, ha0, ha1⟩
      · dsimp only [List.cons_append, List.nil_append]
        exact zk
    by_cases hse : endd ≤ slot
    · rw [show (endd - slot).toNat = 0 by omega, YgL hk0] at hWk
      have hce := Yc7 hc hWk
      rw [hce] at hS
      clear hK
      repeat' (first | apply (zs1 ?_) | (apply zg3; refine zs7 ?_) | (apply (zs19 ?_ ?_) <;> intro _ <;> try (exfalso; omega)) | (apply (zs20 ?_ ?_) <;> intro _ <;> try (exfalso; omega)) | apply (zs65 ?_) | apply (zs68 ?_) | apply (zs69 ?_) | apply (zs70 ?_) | (apply zg27; refine zs71 ?_) | apply (zs73 ?_) | apply (zs74 ?_) | apply (zs76 ?_) | apply (zs77 ?_) | apply (zs78 ?_) | fail)
      apply OK [blk g4 (.cells #[.int .i64 a] 3 (0, 0)), many L]
      · exact ⟨rfl, a, L, .inl hS, rfl⟩
      · dsimp only [List.cons_append, List.nil_append]
        exact zk
    obtain ⟨f, hf⟩ : ∃ f, (endd - (slot + 1)).toNat = f := ⟨_, rfl⟩
    have hf1 : (endd - slot).toNat = f + 1 := by omega
    have hmt : slot.tmod x.s.len = slot % x.s.len := Int.tmod_eq_emod_of_nonneg (by omega)
    rw [hf1, ← YgB] at hWk
    repeat' (first | apply (zs1 ?_) | (apply zg3; refine zs7 ?_) | (apply zg4; refine zs9 ?_) | (apply (zs19 ?_ ?_) <;> intro _ <;> try (exfalso; omega)) | (apply (zs20 ?_ ?_) <;> intro _ <;> try (exfalso; omega)) | apply (zs65 ?_) | apply (zs68 ?_) | apply (zs69 ?_) | apply (zs70 ?_) | (apply zg27; first | refine zs71 ?_ | refine zs72 ?_) | apply (zs73 ?_) | apply (zs76 ?_) | fail)
    refine Yk (fun y : CvM => [(37, .int .i64 (y.j : Nat)), (36, .int .i64 cs.length), (35, .slice A cs.length cap), (9, .int .i64 slot), (7, .int .i64 (y.k : Nat)), (8, .slice A cs.length cap), (6, .pointer (some ⟨gl, 0, none⟩)), (5, .pointer (some ⟨g5, 0, none⟩)), (4, .pointer (some ⟨g4, 0, none⟩)), (3, .pointer (some ⟨gy, 0, none⟩)), (1, .pointer (some ⟨ga, 0, none⟩)), (2, .pointer (some ⟨gw, 0, none⟩))])
      (fun y => R' :: blk g4 (.cells #[.int .i64 y.a] 3 (0, 0)) :: many y.L :: sl 40 5 A cs.length cap (cs.flatMap celF) :: blk gl (.cells #[.int .i64 lk.1, .int .i64 lk.2.1, .int .i64 lk.2.2] 172 (0, 0)) :: wayB g2 x :: blk g5 (.cells #[.int .i64 endd] 3 (0, 0)) :: blk gy (.cells #[.func (.yield l) #[] #[]] 291 (0, 0)) :: blk ga (.cells #[.int .i64 at0] 3 (0, 0)) :: wayB gw x :: H)
      (fun y => y.j ≤ cs.length ∧ y.c ≤ W.length ∧ W = W.take y.c ++ Ug x.s.len C endd cs (cs.drop y.j) ls f y.k slot y.a ∧ SS y.c y.L ∧ (at0 ≤ y.a ∧ y.a ≤ endd) ∧ y.k ≤ 8) (fun y => cs.length - y.j) ⟨0, kk, a, c, L⟩ ⟨Nat.zero_le _, hc, hWk, hS, ⟨ha0, ha1⟩, hk8⟩ ?_ ?_ ?_
    · exact zu
    · exact zk
    clear hWk hS hc hk0 hk8 ha0 ha1
    rintro ⟨j, kk, a, c, L⟩ ⟨hj, hc, hWk, hS, ⟨ha0, ha1⟩, hk8⟩ K2 hK2
    dsimp only at hj hc hWk hS ha0 ha1 hk8 ⊢
    by_cases hjl : j < cs.length
    rotate_left
    · obtain rfl : j = cs.length := by omega
      rw [List.drop_length, YgC] at hWk
      clear hK2
      repeat' (first | apply (zs1 ?_) | apply (zs2 ?_) | (apply (zs17 ?_ ?_) <;> intro _ <;> try (exfalso; omega)) | (apply zg13; refine zs30 ?_) | apply (zs65 ?_) | apply (zs68 ?_) | apply (zs69 ?_) | apply (zs70 ?_) | (apply zg27; refine zs72 ?_) | apply (zs75 ?_) | apply (zs79 ?_) | apply (zs80 ?_) | apply (zs81 ?_) | fail)
      apply hK ⟨kk, slot + 1, a, c, L⟩
      · exact ⟨hc, by rw [hf]; exact hWk, hS, ⟨ha0, ha1⟩, ⟨by show at0 ≤ slot + 1; omega, by show slot + 1 ≤ endd; omega⟩, hk8⟩
      · dsimp only; omega
      · exact zu
      · exact fun w hw => hw
    obtain ⟨d, hd⟩ : ∃ d, cs[j]? = some d := ⟨_, List.getElem?_eq_getElem hjl⟩
    have hdj : cs.drop j = d :: cs.drop (j + 1) := by
      obtain ⟨h1, h2⟩ := List.getElem?_eq_some_iff.1 hd
      rw [← h2]; exact List.drop_eq_getElem_cons h1
    rw [hdj] at hWk
    by_cases hcd : d.1 = slot % x.s.len ∧ kk ≠ 0
    · obtain ⟨hcd1, hcd2⟩ := hcd
      obtain ⟨k3, rfl⟩ : ∃ k3, kk = k3 + 1 := ⟨kk - 1, by omega⟩
      rw [YgD (by rw [hmt]; exact hcd1) hcd2, Nat.add_sub_cancel] at hWk
      obtain ⟨hx, hc1, hW1⟩ := YgM hc hWk
      have hx : (W.map cntV)[c]? = some [celV d, .int .i64 slot] := by rw [List.getElem?_map, hx]; rfl
      repeat' (first | (refine Ya2 3 57 rfl rfl rfl ?_) | apply (zs1 ?_) | apply (zs2 ?_) | (apply zg1; refine zs4 ?_) | (apply zg2; refine zs6 ?_) | (apply zg3; first | refine zs7 ?_ | refine zs8 ?_ | refine zs61 ?_) | (apply zg5; refine zs10 ?_) | (apply zg6; refine zs12 ?_) | (apply zg7; (refine zs15 ?_ ?_ <;> intro _ <;> try (exfalso; omega))) | (apply zg8; (refine zs16 ?_ ?_ <;> intro _ <;> try (exfalso; omega))) | (apply (zs17 ?_ ?_) <;> intro _ <;> try (exfalso; omega)) | (apply zg13; refine zs30 ?_) | (apply zg14; refine zs31 ?_) | (apply zg17; refine zs37 ?_) | (apply zg22; first | refine zs50 ?_ | refine zs51 ?_) | (apply zg24; (refine zs54 ?_; intro _)) | apply (zs65 ?_) | apply (zs66 ?_) | apply (zs68 ?_) | apply (zs69 ?_) | apply (zs70 ?_) | (apply zg27; first | refine zs71 ?_ | refine zs72 ?_) | apply (zs73 ?_) | apply (zs76 ?_) | (apply zg28; refine zs83 ?_) | fail)
      first | (rename_i gc _ _; guard_hyp gc : Nat) | (rename_i gc _; guard_hyp gc : Nat) | (rename_i gc _ _ _; guard_hyp gc : Nat)
      rw [show ((k3 + 1 : Nat) : Int) - 1 = (k3 : Int) by omega]
      apply Yi (R' :: blk gc (.cells #[.int .i64 d.1, .int .i64 d.2.1, .int .i64 d.2.2.1, .int .i64 d.2.2.2.1, .int .i64 d.2.2.2.2] 40 (0, 0)) :: sl 40 5 A cs.length cap (cs.flatMap celF) :: blk gl (.cells #[.int .i64 lk.1, .int .i64 lk.2.1, .int .i64 lk.2.2] 172 (0, 0)) :: blk g4 (.cells #[.int .i64 (slot + 1)] 3 (0, 0)) :: wayB g2 x :: blk g5 (.cells #[.int .i64 endd] 3 (0, 0)) :: blk gy (.cells #[.func (.yield l) #[] #[]] 291 (0, 0)) :: many L :: blk ga (.cells #[.int .i64 at0] 3 (0, 0)) :: wayB gw x :: H)
      · exact zk
      have hY := hy c _ hx [R', blk gc (.cells #[.int .i64 d.1, .int .i64 d.2.1, .int .i64 d.2.2.1, .int .i64 d.2.2.2.1, .int .i64 d.2.2.2.2] 40 (0, 0)), sl 40 5 A cs.length cap (cs.flatMap celF), blk gl (.cells #[.int .i64 lk.1, .int .i64 lk.2.1, .int .i64 lk.2.2] 172 (0, 0)), blk g4 (.cells #[.int .i64 (slot + 1)] 3 (0, 0)), wayB g2 x, blk g5 (.cells #[.int .i64 endd] 3 (0, 0)), blk gy (.cells #[.func (.yield l) #[] #[]] 291 (0, 0))] L hS
      apply YeA _ _ (hy := hY)
      · exact Oa
      · exact rfl
      · exact za
      · exact rfl
      · rintro ⟨_, _, h⟩; exact h
      · exact rfl
      · rintro _ ⟨L', hS', rfl⟩
        dsimp only [List.cons_append, List.nil_append]
        repeat' (first | apply (zs1 ?_) | (apply zg13; refine zs30 ?_) | (apply zg20; refine zs47 ?_) | apply (zs65 ?_) | apply (zs68 ?_) | apply (zs70 ?_) | (apply zg27; refine zs72 ?_) | apply (zs76 ?_) | apply (zs79 ?_) | fail)
        apply hK2 ⟨j + 1, k3, slot + 1, c + 1, L'⟩
        · exact ⟨by show j + 1 ≤ _; omega, hc1, hW1, hS', ⟨by show at0 ≤ slot + 1; omega, by show slot + 1 ≤ endd; omega⟩, by show k3 ≤ 8; omega⟩
        · dsimp only; omega
        · exact zu
        · exact zk
      · rintro _ ⟨L', hX', rfl⟩
        dsimp only [List.cons_append, List.nil_append]
        repeat' (first | (apply zg20; refine zs48 ?_) | apply (zs65 ?_) | apply (zs68 ?_) | (apply zg27; refine zs71 ?_) | apply (zs74 ?_) | apply (zs77 ?_) | apply (zs78 ?_) | fail)
        apply OK [blk g4 (.cells #[.int .i64 (slot + 1)] 3 (0, 0)), many L']
        · exact ⟨rfl, slot + 1, L', .inr hX', rfl⟩
        · dsimp only [List.cons_append, List.nil_append]
          exact zk
    · rw [Yhr (by rw [hmt]; exact hcd)] at hWk
      repeat' (first | apply (zs1 ?_) | (apply zg1; first | refine zs3 ?_ | refine zs4 ?_) | (apply zg2; refine zs6 ?_) | (apply zg3; first | refine zs7 ?_ | refine zs61 ?_) | (apply zg5; refine zs10 ?_) | (apply zg6; first | refine zs11 ?_ | refine zs12 ?_) | (apply zg7; (refine zs15 ?_ ?_ <;> intro _ <;> try (exfalso; omega))) | (apply zg8; (refine zs16 ?_ ?_ <;> intro _ <;> try (exfalso; omega))) | (apply (zs17 ?_ ?_) <;> intro _ <;> try (exfalso; omega)) | (apply zg13; refine zs30 ?_) | (apply zg17; refine zs37 ?_) | (apply zg22; refine zs51 ?_) | (apply zg24; (refine zs54 ?_; intro _)) | apply (zs65 ?_) | apply (zs66 ?_) | apply (zs68 ?_) | apply (zs69 ?_) | apply (zs70 ?_) | (apply zg27; refine zs71 ?_) | apply (zs73 ?_) | apply (zs75 ?_) | apply (zs76 ?_) | apply (zs80 ?_) | apply (zs81 ?_) | (apply zg28; refine zs83 ?_) | fail)
      all_goals (
        apply hK2 ⟨j + 1, kk, a, c, L⟩
        · exact ⟨by show j + 1 ≤ _; omega, hc, hWk, hS, ⟨ha0, ha1⟩, hk8⟩
        · dsimp only; omega
        · exact zu
        · exact zk)
  · rintro D ⟨c, a, L⟩ ⟨hc, hWk, hS, ha0, ha1⟩
    dsimp only at hc hWk hS ha0 ha1
    have hle : (Zm x).length = (YE x.n.net x.r).length := by unfold Zm; rw [List.length_map]
    rw [hle, List.drop_length] at hWk
    have hce := Yc7 hc hWk
    rw [hce] at hS
    dsimp only [List.cons_append, List.nil_append]
    repeat' (first | apply (zs79 ?_) | fail)
    apply Yhb
    apply Zt Yf
    apply VQ_m
    apply Yi (many L :: blk ga (.cells #[.int .i64 at0] 3 (0, 0)) :: wayB gw x :: H)
    · exact zk
    apply Ux; exact rfl
    exact .inl ⟨L, hS, rfl⟩
  · rintro D _ _ ⟨rfl, a, L, hSL, rfl⟩ _
    dsimp only [List.cons_append, List.nil_append]
    repeat' (first | apply (zs78 ?_) | fail)
    apply Zt Yf
    apply VQ_m
    apply Yi (many L :: blk ga (.cells #[.int .i64 at0] 3 (0, 0)) :: wayB gw x :: H)
    · exact zk
    apply Ux; exact rfl
    rcases hSL with h | h
    · exact .inl ⟨L, h, rfl⟩
    · exact .inr ⟨L, h, rfl⟩
end Go.Proofs.YtmalhidldgfeoaaGreatDoor
