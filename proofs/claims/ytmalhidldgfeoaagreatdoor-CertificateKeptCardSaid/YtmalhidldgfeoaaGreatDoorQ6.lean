/- Lemmas for the claim, part 6. -/
import Derived.Test.YtmalhidldgfeoaaGreatDoorQ5

namespace Go.Proofs.YtmalhidldgfeoaaGreatDoor
open Go.RowKit Go.Eng Go.Nw Go.Rt
def wordF : List UInt8 := [102, 108, 111, 119]
def wordR : List UInt8 := [114, 111, 117, 116, 101]
def wordB : List UInt8 := [98, 111, 117, 110, 100]
def wordL : List UInt8 := [115, 108, 111, 116, 115]
def XO (k : Nat) : List UInt8 := if k = 0 then wordF else if k = 1 then wordR else if k = 2 then wordB else wordL
def JN (k : Nat) : Nat := if k = 1 ∨ k = 2 then 2 else 1
def Uf (k : Nat) : Nat := if k = 0 then 1 else if k = 1 then 9 else if k = 2 then 2 else 64
def Xd (k : Nat) : Nat := if k = 0 then 3 else k - 1
def inL (l : List Int) (a b : Int) : Bool := l.all fun x => decide (a ≤ x ∧ x ≤ b)
def rtOk (r l : List Int) : Bool := decide (2 ≤ r.length ∧ r.length ≤ 9) && inL r 0 31 && decide (1 ≤ l.length ∧ l.length ≤ 64) && inL l 0 511
def JE (c : Clm) : Bool := decide (0 ≤ c.flow ∧ c.flow ≤ 255 ∧ 1 ≤ c.routes.length ∧ c.routes.length ≤ 2 ∧ c.bounds.length = c.routes.length ∧ c.worst.length = c.routes.length ∧ c.slots.length = c.routes.length) &&
  inL c.bounds 1 512 && inL c.worst 0 511 && (List.range c.routes.length).all fun i => rtOk (rtAt c.routes i) (rtAt c.slots i)
def Ygg (c : List Clm) (i : Nat) : Bool := JE (Jj c i) && (decide (i = 0) || decide ((Jj c (i - 1)).flow < (Jj c i).flow))
def VJ (c : List Clm) : Bool := decide (c.length ≤ 16) && (List.range c.length).all (Ygg c)
def YeJ (c : Clm) (i : Nat) : List (List UInt8) :=
  YO wordR (rtAt c.routes i) :: ((if i < c.bounds.length then [YO wordB [c.bounds.getD i 0, c.worst.getD i 0]] else []) ++ (if i < c.slots.length then [YO wordL (rtAt c.slots i)] else []))
def Zw (c : Clm) : List (List UInt8) := YO wordF [c.flow] :: (List.range c.routes.length).flatMap (YeJ c)
def OS (c : List Clm) : List UInt8 := (c.flatMap Zw).flatMap fun p => p ++ [10]
def Uj (c : List Clm) : List UInt8 × Int := if VJ c = false then ([], 1) else (OS c, 0)
structure Pst where
  c : List Clm
  last : Nat
def OH (c : List Clm) : Clm := Jj c (c.length - 1)
def Z3 (p : Pst) (k : Nat) : Bool := decide (p.last = Xd k) || (decide (k = 1) && decide (p.last = 3) && decide (0 < p.c.length) && decide ((OH p.c).routes.length < 2))
def YZ (k : Nat) (l : List Int) (x : Clm) : Clm :=
  if k = 1 then ⟨x.flow, x.routes ++ [l], x.bounds, x.worst, x.slots⟩ else if k = 2 then ⟨x.flow, x.routes, x.bounds ++ [l.getD 0 0], x.worst ++ [l.getD 1 0], x.slots⟩ else ⟨x.flow, x.routes, x.bounds, x.worst, x.slots ++ [l]⟩
def Qn (c : List Clm) (x : Clm) : List Clm := c.take (c.length - 1) ++ [x]
def ZU (k : Nat) (l : List Int) (c : List Clm) : List Clm := if k = 0 then c ++ [⟨l.getD 0 0, [], [], [], []⟩] else Qn c (YZ k l (OH c))
def Yao (p : Pst) (line : List UInt8) (k : Nat) : Option Pst :=
  match J4 (cutC 32 line).tail with
  | none => none
  | some l => if JN k ≤ l.length ∧ l.length ≤ Uf k ∧ Z3 p k = true then some ⟨ZU k l p.c, k⟩ else none
def Vm (w : List UInt8) : Option Nat := if w = wordF then some 0 else if w = wordR then some 1 else if w = wordB then some 2 else if w = wordL then some 3 else none
def Zj (p : Pst) (line : List UInt8) : Option Pst :=
  match Vm ((cutC 32 line).headD []) with
  | none => none
  | some k => Yao p line k
def runL : List (List UInt8) → Pst → Option Pst
  | [], p => some p
  | l :: ls, p => match Zj p l with | none => none | some p' => runL ls p'
def startP : Pst := ⟨[], 3⟩
def JJ (ls : List (List UInt8)) (k : Nat) : Option Pst := runL (ls.take k) startP
def badL (ls : List (List UInt8)) (i : Nat) : Int := if (JJ ls (i + 1)).isNone = true then 3 else 0
def Wz (ls : List (List UInt8)) (k : Nat) : Pst := (JJ ls k).getD startP
def Wy (ls : List (List UInt8)) : List Clm × (Int × Int) :=
  if (YG (badL ls) (ls.length - 1) 0).2 ≠ 0 then ([], YG (badL ls) (ls.length - 1) 0)
  else if XB ls (ls.length - 1) ≠ [] ∨ (Wz ls (ls.length - 1)).last ≠ 3 then ([], (((ls.length - 1 : Nat) : Int), 3))
  else if VJ (Wz ls (ls.length - 1)).c = false then ([], (-1, 1)) else ((Wz ls (ls.length - 1)).c, (-1, 0))
def W8 (text : List UInt8) : List Clm × (Int × Int) := Wy (cutC 10 text)
theorem J5 : ∀ (l m : List (List UInt8)) (p : Pst), runL (l ++ m) p = (runL l p).bind (runL m)
  | [], m, p => rfl
  | x :: l, m, p => by
    rw [List.cons_append]
    unfold runL
    cases Zj p x with
    | none => rfl
    | some p' => exact J5 l m p'
theorem Yjh {ls : List (List UInt8)} {k : Nat} {p : Pst} (hk : k < ls.length) (h : JJ ls k = some p) : JJ ls (k + 1) = Zj p (XB ls k) := by
  unfold JJ at h ⊢
  rw [Yem hk, J5, h]
  show runL [XB ls k] p = _
  unfold runL
  cases Zj p (XB ls k) <;> rfl
theorem YaY {k : Nat} (hk : k < 4) : Vm (XO k) = some k ∧ (32 : UInt8) ∉ XO k ∧ (10 : UInt8) ∉ XO k := by
  match k, hk with
  | 0, _ => decide
  | 1, _ => decide
  | 2, _ => decide
  | 3, _ => decide
theorem UA {p : Pst} {k : Nat} {l : List Int} (hk : k < 4) (hl : ∀ n ∈ l, 0 ≤ n ∧ n < 10000) (h1 : JN k ≤ l.length ∧ l.length ≤ Uf k) (hf : Z3 p k = true) : Zj p (YO (XO k) l) = some ⟨ZU k l p.c, k⟩ := by
  obtain ⟨w1, w2, _⟩ := YaY hk
  have hr := YhE w2 hl
  unfold YaB at hr
  split at hr
  · cases hr
  rename_i h
  have hh : (cutC 32 (YO (XO k) l)).headD [] = XO k := Decidable.byContradiction fun e => h (.inr e)
  unfold Zj
  rw [hh, w1]
  show Yao p _ k = _
  unfold Yao
  rw [hr]
  show (if _ then _ else _) = _
  rw [if_pos ⟨h1.1, h1.2, hf⟩]
structure VF (c : Clm) : Prop where
  f : 0 ≤ c.flow ∧ c.flow ≤ 255
  n : 1 ≤ c.routes.length ∧ c.routes.length ≤ 2
  b : c.bounds.length = c.routes.length
  w : c.worst.length = c.routes.length
  s : c.slots.length = c.routes.length
  bs : ∀ x ∈ c.bounds, 1 ≤ x ∧ x ≤ 512
  ws : ∀ x ∈ c.worst, 0 ≤ x ∧ x ≤ 511
  rs : ∀ i, i < c.routes.length → 2 ≤ (rtAt c.routes i).length ∧ (rtAt c.routes i).length ≤ 9 ∧ ∀ x ∈ rtAt c.routes i, 0 ≤ x ∧ x ≤ 31
  ls : ∀ i, i < c.routes.length → 1 ≤ (rtAt c.slots i).length ∧ (rtAt c.slots i).length ≤ 64 ∧ ∀ x ∈ rtAt c.slots i, 0 ≤ x ∧ x ≤ 511
theorem Qf {l : List Int} {a b : Int} : inL l a b = true ↔ ∀ x ∈ l, a ≤ x ∧ x ≤ b := by
  unfold inL; rw [List.all_eq_true]; simp
theorem Yfz {c : Clm} : JE c = true ↔ VF c := by
  unfold JE
  simp only [Bool.and_eq_true, decide_eq_true_eq, Qf, List.all_eq_true, List.mem_range]
  constructor
  · rintro ⟨⟨⟨⟨h1, h2, h3, h4, h5, h6, h7⟩, h8⟩, h9⟩, h10⟩
    have hr : ∀ i, i < c.routes.length → _ := fun i hi => h10 i hi
    refine ⟨⟨h1, h2⟩, ⟨h3, h4⟩, h5, h6, h7, h8, h9, fun i hi => ?_, fun i hi => ?_⟩
    · have := hr i hi
      unfold rtOk at this
      simp only [Bool.and_eq_true, decide_eq_true_eq, Qf] at this
      exact ⟨this.1.1.1.1, this.1.1.1.2, this.1.1.2⟩
    · have := hr i hi
      unfold rtOk at this
      simp only [Bool.and_eq_true, decide_eq_true_eq, Qf] at this
      exact ⟨this.1.2.1, this.1.2.2, this.2⟩
  · intro h
    refine ⟨⟨⟨⟨h.f.1, h.f.2, h.n.1, h.n.2, h.b, h.w, h.s⟩, h.bs⟩, h.ws⟩, fun i hi => ?_⟩
    have h1 := h.rs i hi
    have h2 := h.ls i hi
    unfold rtOk
    simp only [Bool.and_eq_true, decide_eq_true_eq, Qf]
    exact ⟨⟨⟨⟨h1.1, h1.2.1⟩, h1.2.2⟩, h2.1, h2.2.1⟩, h2.2.2⟩
theorem Y6 (c : List Clm) (x : Clm) : OH (c ++ [x]) = x ∧ ∀ y, Qn (c ++ [x]) y = c ++ [y] := by
  unfold OH Qn Jj
  rw [List.length_append, List.length_singleton, Nat.add_sub_cancel]
  exact ⟨by rw [List.getD_eq_getElem?_getD, List.getElem?_append_right (Nat.le_refl _)]; simp, fun y => by rw [List.take_left' rfl]⟩
theorem YaI {cs : List Clm} {x : Clm} {last : Nat} {r sl : List Int} {b w : Int} (hlast : last = 0 ∨ (last = 3 ∧ x.routes.length < 2)) (hr : 2 ≤ r.length ∧ r.length ≤ 9 ∧ ∀ z ∈ r, 0 ≤ z ∧ z ≤ 31) (hs : 1 ≤ sl.length ∧ sl.length ≤ 64 ∧ ∀ z ∈ sl, 0 ≤ z ∧ z ≤ 511)
    (hb : 1 ≤ b ∧ b ≤ 512) (hw : 0 ≤ w ∧ w ≤ 511) : runL [YO wordR r, YO wordB [b, w], YO wordL sl] ⟨cs ++ [x], last⟩ = some ⟨cs ++ [⟨x.flow, x.routes ++ [r], x.bounds ++ [b], x.worst ++ [w], x.slots ++ [sl]⟩], 3⟩ := by
  have h1 : Zj ⟨cs ++ [x], last⟩ (YO wordR r) = some ⟨cs ++ [YZ 1 r x], 1⟩ := by
    have := UA (p := ⟨cs ++ [x], last⟩) (k := 1) (l := r) (by omega) (fun n hn => by have := hr.2.2 n hn; omega) ⟨by show 2 ≤ _; exact hr.1, by show _ ≤ 9; exact hr.2.1⟩ (by
      unfold Z3 Xd
      simp only [(Y6 cs x).1]
      rcases hlast with rfl | ⟨rfl, h⟩
      · rfl
      · simp [h])
    rw [show XO 1 = wordR from rfl] at this
    rw [this]
    unfold ZU
    rw [if_neg (by decide), (Y6 cs x).1, (Y6 cs x).2]
  have h2 : ∀ y, Zj ⟨cs ++ [y], 1⟩ (YO wordB [b, w]) = some ⟨cs ++ [YZ 2 [b, w] y], 2⟩ := fun y => by
    have := UA (p := ⟨cs ++ [y], 1⟩) (k := 2) (l := [b, w]) (by omega) (fun n hn => by
      simp only [List.mem_cons, List.not_mem_nil, or_false] at hn
      rcases hn with rfl | rfl <;> omega) ⟨Nat.le_refl 2, Nat.le_refl 2⟩ rfl
    rw [show XO 2 = wordB from rfl] at this
    rw [this]
    unfold ZU
    rw [if_neg (by decide), (Y6 cs y).1, (Y6 cs y).2]
  have h3 : ∀ y, Zj ⟨cs ++ [y], 2⟩ (YO wordL sl) = some ⟨cs ++ [YZ 3 sl y], 3⟩ := fun y => by
    have := UA (p := ⟨cs ++ [y], 2⟩) (k := 3) (l := sl) (by omega) (fun n hn => by have := hs.2.2 n hn; omega) ⟨by show 1 ≤ _; exact hs.1, by show _ ≤ 64; exact hs.2.1⟩ rfl
    rw [show XO 3 = wordL from rfl] at this
    rw [this]
    unfold ZU
    rw [if_neg (by decide), (Y6 cs y).1, (Y6 cs y).2]
  unfold runL; rw [h1]; dsimp only
  unfold runL; rw [h2]; dsimp only
  unfold runL; rw [h3]; dsimp only
  unfold runL
  rfl
theorem YhJ {c : Clm} (h : VF c) (cs : List Clm) : runL (Zw c) ⟨cs, 3⟩ = some ⟨cs ++ [c], 3⟩ := by
  obtain ⟨fl, rs, bs, ws, ls⟩ := c
  have hf := h.f; have hn := h.n; have hb := h.b; have hw := h.w; have hs := h.s; have hbs := h.bs; have hws := h.ws; have hrs := h.rs; have hls := h.ls
  dsimp only at hf hn hb hw hs hbs hws hrs hls
  have h0 : Zj ⟨cs, 3⟩ (YO wordF [fl]) = some ⟨cs ++ [⟨fl, [], [], [], []⟩], 0⟩ := by
    have := UA (p := ⟨cs, 3⟩) (k := 0) (l := [fl]) (by omega) (fun n hn => by obtain rfl := List.mem_singleton.1 hn; omega) ⟨Nat.le_refl 1, Nat.le_refl 1⟩ rfl
    rw [show XO 0 = wordF from rfl] at this
    rw [this]; rfl
  unfold Zw
  unfold runL
  rw [h0]
  dsimp only
  match rs, bs, ws, ls, hn, hb, hw, hs, hbs, hws, hrs, hls with
  | [r], [b], [w], [sl], _, _, _, _, hbs, hws, hrs, hls =>
    exact YaI (x := ⟨fl, [], [], [], []⟩) (.inl rfl) (hrs 0 (by simp)) (hls 0 (by simp)) (hbs b (by simp)) (hws w (by simp))
  | [r, r2], [b, b2], [w, w2], [sl, sl2], _, _, _, _, hbs, hws, hrs, hls =>
    show runL ([YO wordR r, YO wordB [b, w], YO wordL sl] ++ [YO wordR r2, YO wordB [b2, w2], YO wordL sl2]) _ = _
    have h1 := YaI (cs := cs) (x := ⟨fl, [], [], [], []⟩) (r := r) (sl := sl) (.inl rfl) (hrs 0 (by simp)) (hls 0 (by simp)) (hbs b (by simp)) (hws w (by simp))
    rw [J5, h1]
    exact YaI (x := ⟨fl, [r], [b], [w], [sl]⟩) (.inr ⟨rfl, by simp⟩) (hrs 1 (by simp)) (hls 1 (by simp)) (hbs b2 (by simp)) (hws w2 (by simp))
theorem YaH : ∀ (l cs : List Clm), (∀ c ∈ l, VF c) → runL (l.flatMap Zw) ⟨cs, 3⟩ = some ⟨cs ++ l, 3⟩
  | [], cs, _ => by simp [runL]
  | c :: l, cs, h => by
    rw [List.flatMap_cons, J5, YhJ (h c (by simp)) cs]
    show runL _ _ = _
    rw [YaH l _ fun x hx => h x (by simp [hx])]
    simp
theorem Yfn {c : List Clm} {i : Nat} (h : i < c.length) : c[i]? = some (Jj c i) := by
  unfold Jj; rw [List.getD_eq_getElem?_getD, List.getElem?_eq_getElem h]; rfl
theorem Yee {c : List Clm} (h : VJ c = true) : c.length ≤ 16 ∧ ∀ x ∈ c, VF x := by
  unfold VJ at h
  rw [Bool.and_eq_true, decide_eq_true_eq] at h
  refine ⟨h.1, fun x hx => ?_⟩
  obtain ⟨i, hi⟩ := List.mem_iff_getElem?.1 hx
  have hl := (List.getElem?_eq_some_iff.1 hi).1
  have := List.all_eq_true.1 h.2 i (List.mem_range.2 hl)
  unfold Ygg at this
  rw [Bool.and_eq_true] at this
  have e : Jj c i = x := Option.some.inj ((Yfn hl).symm.trans hi)
  rw [e] at this
  exact Yfz.1 this.1
theorem Uw {l : List Int} {i : Nat} (h : i < l.length) : l.getD i 0 ∈ l := by
  rw [List.getD_eq_getElem?_getD, List.getElem?_eq_getElem h]; exact List.getElem_mem h
theorem YhG {c : Clm} (h : VF c) : ∀ p ∈ Zw c, (10 : UInt8) ∉ p := by
  intro p hp
  unfold Zw at hp
  rcases List.mem_cons.1 hp with rfl | hp
  · exact Uu (by decide) fun n hn => by obtain rfl := List.mem_singleton.1 hn; exact h.f.1
  · obtain ⟨i, hi, hp⟩ := List.mem_flatMap.1 hp
    have hi := List.mem_range.1 hi
    unfold YeJ at hp
    rcases List.mem_cons.1 hp with rfl | hp
    · exact Uu (by decide) fun n hn => ((h.rs i hi).2.2 n hn).1
    rcases List.mem_append.1 hp with hp | hp
    · rw [if_pos (by rw [h.b]; exact hi)] at hp
      obtain rfl := List.mem_singleton.1 hp
      refine Uu (by decide) fun n hn => ?_
      simp only [List.mem_cons, List.not_mem_nil, or_false] at hn
      rcases hn with rfl | rfl
      · have := h.bs _ (Uw (l := c.bounds) (i := i) (by rw [h.b]; exact hi)); omega
      · exact (h.ws _ (Uw (l := c.worst) (i := i) (by rw [h.w]; exact hi))).1
    · rw [if_pos (by rw [h.s]; exact hi)] at hp
      obtain rfl := List.mem_singleton.1 hp
      exact Uu (by decide) fun n hn => ((h.ls i hi).2.2 n hn).1
theorem Yg7 {c : List Clm} (h : ∀ x ∈ c, VF x) : cutC 10 (OS c) = c.flatMap Zw ++ [[]] := by
  unfold OS
  rw [← Yaj]
  refine QS (by simp) fun p hp => ?_
  rcases List.mem_append.1 hp with hp | hp
  · obtain ⟨x, hx, hp⟩ := List.mem_flatMap.1 hp
    exact YhG (h x hx) p hp
  · obtain rfl := List.mem_singleton.1 hp
    exact List.not_mem_nil
theorem Yc0 {c : List Clm} (h : VJ c = true) : W8 (OS c) = (c, (-1, 0)) := by
  obtain ⟨h1, h2⟩ := Yee h
  obtain ⟨ls, hls⟩ : ∃ ls, c.flatMap Zw = ls := ⟨_, rfl⟩
  have hrun : runL ls startP = some ⟨c, 3⟩ := by rw [← hls]; exact YaH c [] h2
  have hl : (ls ++ [[]]).length - 1 = ls.length := by simp
  have hat : JJ (ls ++ [[]]) ls.length = some ⟨c, 3⟩ := by unfold JJ; rw [List.take_left' rfl]; exact hrun
  have hbad : (YG (badL (ls ++ [[]])) ls.length 0).2 = 0 := Y3.2 fun k _ hk => by
    unfold badL JJ
    have h4 : runL (ls.take (k + 1)) startP ≠ none := fun e => by
      have : runL (ls.take (k + 1) ++ ls.drop (k + 1)) startP = some ⟨c, 3⟩ := by rw [List.take_append_drop]; exact hrun
      rw [J5, e] at this
      cases this
    rw [List.take_append_of_le_length (by omega)]
    cases hr : runL (ls.take (k + 1)) startP with
    | none => exact absurd hr h4
    | some p => rfl
  have hlast : XB (ls ++ [[]]) ls.length = [] := by
    unfold XB
    rw [List.getD_eq_getElem?_getD, List.getElem?_append_right (Nat.le_refl _)]
    simp
  unfold W8 Wy
  rw [Yg7 h2, hls, hl, if_neg (fun e => e hbad), hlast]
  unfold Wz
  rw [hat, if_neg (by rintro (e | e) <;> exact e rfl), Option.getD_some, if_neg (by rw [h]; decide)]
structure Rdr (p : Pst) : Prop where
  full : ∀ i x, p.c[i]? = some x → i + 1 < p.c.length → x.bounds.length = x.routes.length ∧ x.worst.length = x.routes.length ∧ x.slots.length = x.routes.length ∧ 1 ≤ x.routes.length ∧ x.routes.length ≤ 2
  some_ : p.c = [] → p.last = 3
  at_ : ∀ cs x, p.c = cs ++ [x] →
    (p.last = 0 ∧ x.routes = [] ∧ x.bounds = [] ∧ x.worst = [] ∧ x.slots = []) ∨
    (p.last = 1 ∧ 1 ≤ x.routes.length ∧ x.routes.length ≤ 2 ∧ x.bounds.length + 1 = x.routes.length ∧ x.worst.length + 1 = x.routes.length ∧ x.slots.length + 1 = x.routes.length) ∨
    (p.last = 2 ∧ 1 ≤ x.routes.length ∧ x.routes.length ≤ 2 ∧ x.bounds.length = x.routes.length ∧ x.worst.length = x.routes.length ∧ x.slots.length + 1 = x.routes.length) ∨
    (p.last = 3 ∧ 1 ≤ x.routes.length ∧ x.routes.length ≤ 2 ∧ x.bounds.length = x.routes.length ∧ x.worst.length = x.routes.length ∧ x.slots.length = x.routes.length)
theorem Yhq {w : List UInt8} {k : Nat} (h : Vm w = some k) : k < 4 ∧ w = XO k := by
  unfold Vm at h
  split at h
  · rename_i e; cases h; exact ⟨by omega, e⟩
  split at h
  · rename_i e; cases h; exact ⟨by omega, e⟩
  split at h
  · rename_i e; cases h; exact ⟨by omega, e⟩
  split at h
  · rename_i e; cases h; exact ⟨by omega, e⟩
  cases h
theorem Yb2 {p p' : Pst} {line : List UInt8} (h : Zj p line = some p') : ∃ k l, k < 4 ∧ line = YO (XO k) l ∧ JN k ≤ l.length ∧ l.length ≤ Uf k ∧ Z3 p k = true ∧ p' = ⟨ZU k l p.c, k⟩ := by
  unfold Zj at h
  split at h
  · cases h
  rename_i k hk
  obtain ⟨hk4, hw⟩ := Yhq hk
  unfold Yao at h
  split at h
  · cases h
  rename_i l hl
  split at h
  · rename_i hc
    refine ⟨k, l, hk4, ?_, hc.1, hc.2.1, hc.2.2, (Option.some.inj h).symm⟩
    have hll : l.length = (cutC 32 line).length - 1 := by
      unfold J4 at hl
      split at hl
      · cases hl
      · have := Option.some.inj hl
        rw [← this, List.length_map, List.length_tail]
    have hne := WR 32 line
    have hpos : 1 ≤ (cutC 32 line).length := by
      cases hx : cutC 32 line with
      | nil => exact absurd hx hne
      | cons _ _ => simp
    have hr : YaB line (XO k) l.length = some l := by
      unfold YaB
      rw [if_neg (by rintro (e | e) <;> first | exact absurd hw e | omega)]
      exact hl
    exact (YhF hr).1
  · cases h
theorem WG {α : Type} {l : List α} (h : l ≠ []) : ∃ cs x, l = cs ++ [x] := ⟨l.dropLast, l.getLast h, (List.dropLast_concat_getLast h).symm⟩
theorem Rdr.start : Rdr startP := ⟨fun i x h => by simp [startP] at h, fun _ => rfl, fun cs x h => by simp [startP] at h⟩
theorem Yhh {cs : List Clm} {x y : Clm} {P : Clm → Prop} (h : ∀ i z, (cs ++ [x])[i]? = some z → i + 1 < (cs ++ [x]).length → P z) : ∀ i z, (cs ++ [y])[i]? = some z → i + 1 < (cs ++ [y]).length → P z := fun i z hz hi => by
  rw [List.length_append, List.length_singleton] at hi
  rw [List.getElem?_append_left (by omega)] at hz
  exact h i z (by rw [List.getElem?_append_left (by omega)]; exact hz) (by rw [List.length_append, List.length_singleton]; omega)
theorem le12 : 1 ≤ 2 := by decide
theorem Yjj {p p' : Pst} {line : List UInt8} (h : Rdr p) (hl : Zj p line = some p') : Rdr p' ∧ p'.c.flatMap Zw = p.c.flatMap Zw ++ [line] := by
  obtain ⟨k, l, hk, rfl, hl1, hl2, hf, rfl⟩ := Yb2 hl
  obtain ⟨c, last⟩ := p
  have hfull := h.full; have hsome := h.some_; have hat := h.at_
  dsimp only at hfull hsome hat hf ⊢
  have hone : ∀ {cs cs' : List Clm} {x x' : Clm}, cs ++ [x] = cs' ++ [x'] → x = x' := fun e => by
    have := (List.append_inj' e rfl).2; simpa using this
  match k, hk with
  | 0, _ =>
    have hl3 : last = 3 := by
      unfold Z3 at hf
      simpa [Xd] using hf
    subst hl3
    match l, hl1, hl2 with
    | [f], _, _ =>
      have e : ZU 0 [f] c = c ++ [⟨f, [], [], [], []⟩] := rfl
      rw [e]
      refine ⟨⟨fun i x hx hi => ?_, fun e => by simp at e, fun cs x he => ?_⟩, by rw [List.flatMap_append]; simp [Zw, XO]⟩
      · dsimp only at hx hi
        rw [List.length_append, List.length_singleton] at hi
        rw [List.getElem?_append_left (by omega)] at hx
        by_cases hi2 : i + 1 < c.length
        · exact hfull i x hx hi2
        · obtain ⟨cs, y, hc⟩ := WG (l := c) (fun e => by rw [e] at hi; simp at hi)
          have hcl : c.length = cs.length + 1 := by rw [hc]; simp
          rw [hc, List.getElem?_append_right (by omega), show i - cs.length = 0 by omega] at hx
          obtain rfl := Option.some.inj hx
          rcases hat cs y hc with h | h | h | h
          · omega
          · omega
          · omega
          · exact ⟨h.2.2.2.1, h.2.2.2.2.1, h.2.2.2.2.2, h.2.1, h.2.2.1⟩
      · dsimp only at he
        obtain rfl := hone he
        exact .inl ⟨rfl, rfl, rfl, rfl, rfl⟩
  | k + 1, hk =>
    have hne : c ≠ [] := fun e => by
      have h3 := hsome e
      subst h3; subst e
      unfold Z3 Xd at hf
      simp at hf
      omega
    obtain ⟨cs, x, rfl⟩ := WG hne
    have e : ZU (k + 1) l (cs ++ [x]) = cs ++ [YZ (k + 1) l x] := by
      unfold ZU
      rw [if_neg (by omega), (Y6 cs x).1, (Y6 cs x).2]
    rw [e]
    have hx := hat cs x rfl
    have key : (∀ cs' x', cs ++ [YZ (k + 1) l x] = cs' ++ [x'] → x' = YZ (k + 1) l x) := fun cs' x' he => (hone he).symm
    suffices hs : Zw (YZ (k + 1) l x) = Zw x ++ [YO (XO (k + 1)) l] ∧
        ((k + 1 = 1 ∧ 1 ≤ (YZ (k + 1) l x).routes.length ∧ (YZ (k + 1) l x).routes.length ≤ 2 ∧ (YZ (k + 1) l x).bounds.length + 1 = (YZ (k + 1) l x).routes.length ∧ (YZ (k + 1) l x).worst.length + 1 = (YZ (k + 1) l x).routes.length ∧ (YZ (k + 1) l x).slots.length + 1 = (YZ (k + 1) l x).routes.length) ∨
        (k + 1 = 2 ∧ 1 ≤ (YZ (k + 1) l x).routes.length ∧ (YZ (k + 1) l x).routes.length ≤ 2 ∧ (YZ (k + 1) l x).bounds.length = (YZ (k + 1) l x).routes.length ∧ (YZ (k + 1) l x).worst.length = (YZ (k + 1) l x).routes.length ∧ (YZ (k + 1) l x).slots.length + 1 = (YZ (k + 1) l x).routes.length) ∨
        (k + 1 = 3 ∧ 1 ≤ (YZ (k + 1) l x).routes.length ∧ (YZ (k + 1) l x).routes.length ≤ 2 ∧ (YZ (k + 1) l x).bounds.length = (YZ (k + 1) l x).routes.length ∧ (YZ (k + 1) l x).worst.length = (YZ (k + 1) l x).routes.length ∧ (YZ (k + 1) l x).slots.length = (YZ (k + 1) l x).routes.length)) by
      refine ⟨⟨Yhh hfull, fun e => by simp at e, fun cs' x' he => .inr ?_⟩, ?_⟩
      · rw [key cs' x' he]; exact hs.2
      · rw [List.flatMap_append, List.flatMap_append, List.append_assoc]
        simp [hs.1]
    obtain ⟨fl, rs, bs, ws, ss⟩ := x
    dsimp only at hx
    match k, hk with
    | 0, _ =>
      have hc : (last = 0 ∧ rs = [] ∧ bs = [] ∧ ws = [] ∧ ss = []) ∨ (last = 3 ∧ rs.length = 1 ∧ bs.length = 1 ∧ ws.length = 1 ∧ ss.length = 1) := by
        unfold Z3 Xd at hf
        simp only [(Y6 cs _).1] at hf
        simp at hf
        rcases hx with h | h | h | h
        · exact .inl h
        · omega
        · omega
        · exact .inr (by omega)
      rcases hc with ⟨_, rfl, rfl, rfl, rfl⟩ | ⟨_, h1, h2, h3, h4⟩
      · exact ⟨rfl, .inl ⟨rfl, Nat.le_refl 1, le12, rfl, rfl, rfl⟩⟩
      · match rs, bs, ws, ss, h1, h2, h3, h4 with
        | [r], [b], [w], [s], _, _, _, _ => exact ⟨rfl, .inl ⟨rfl, le12, Nat.le_refl 2, rfl, rfl, rfl⟩⟩
    | 1, _ =>
      have hc : last = 1 := by
        unfold Z3 Xd at hf
        simpa using hf
      have hx : 1 ≤ rs.length ∧ rs.length ≤ 2 ∧ bs.length + 1 = rs.length ∧ ws.length + 1 = rs.length ∧ ss.length + 1 = rs.length := by
        rcases hx with h | h | h | h <;> first | exact h.2 | omega
      match l, hl1, hl2 with
      | [b, w], _, _ =>
        match rs, bs, ws, ss, hx with
        | [r], [], [], [], _ => exact ⟨rfl, .inr (.inl ⟨rfl, Nat.le_refl 1, le12, rfl, rfl, rfl⟩)⟩
        | [r, r2], [b0], [w0], [s0], _ => exact ⟨rfl, .inr (.inl ⟨rfl, le12, Nat.le_refl 2, rfl, rfl, rfl⟩)⟩
    | 2, _ =>
      have hc : last = 2 := by
        unfold Z3 Xd at hf
        simpa using hf
      have hx : 1 ≤ rs.length ∧ rs.length ≤ 2 ∧ bs.length = rs.length ∧ ws.length = rs.length ∧ ss.length + 1 = rs.length := by
        rcases hx with h | h | h | h <;> first | exact h.2 | omega
      match rs, bs, ws, ss, hx with
      | [r], [b], [w], [], _ => exact ⟨rfl, .inr (.inr ⟨rfl, Nat.le_refl 1, le12, rfl, rfl, rfl⟩)⟩
      | [r, r2], [b, b2], [w, w2], [s0], _ => exact ⟨rfl, .inr (.inr ⟨rfl, le12, Nat.le_refl 2, rfl, rfl, rfl⟩)⟩
theorem YgH : ∀ (ls : List (List UInt8)) {p p' : Pst}, Rdr p → runL ls p = some p' → Rdr p' ∧ p'.c.flatMap Zw = p.c.flatMap Zw ++ ls
  | [], p, p', h, hr => by
    cases hr
    exact ⟨h, by simp⟩
  | l :: ls, p, p', h, hr => by
    unfold runL at hr
    cases hl : Zj p l with
    | none => rw [hl] at hr; cases hr
    | some q =>
      rw [hl] at hr
      obtain ⟨h1, h2⟩ := Yjj h hl
      obtain ⟨h3, h4⟩ := YgH ls h1 hr
      exact ⟨h3, by rw [h4, h2]; simp⟩
open Go.RowKit Go.Eng Go.Nw Go.Rt
theorem Yba (z a b : Int) (ga gb : Nat) {B : Nat} {w0 : World} {H : List HP} {w : World} (h1 : blk ga (.cells #[.int .i64 a] 3 (0, 0)) ∈ H) (h2 : blk gb (.cells #[.int .i64 b] 3 (0, 0)) ∈ H) (hw : St B w0 H w) :
    Calls Tryz.prog 238 [.int .i64 z, .pointer (some ⟨ga, 0, none⟩), .pointer (some ⟨gb, 0, none⟩)].toArray w (Post B w0 fun v K => v = .bool (!decide (a ≤ z ∧ z ≤ b)) ∧ K = H) := by
  refine Yf Tryz.func238 Tryz.ntmps238 rfl rfl hw ?_
  by_cases h : a ≤ z ∧ z ≤ b
  · rw [decide_eq_true h]
    repeat' (first | refine zgc ?_ | (refine zge ?_ ?_ <;> intro _ <;> try (exfalso; omega)) | fail)
    apply Yg; exact rfl; exact rfl; exact ⟨rfl, rfl⟩
  · rw [decide_eq_false h]
    repeat' (first | refine zgc ?_ | (refine zge ?_ ?_ <;> intro _ <;> try (exfalso; omega)) | fail)
    all_goals (apply Yg; exact rfl; exact rfl; exact ⟨rfl, rfl⟩)
theorem Z6 (l : List Int) (a b : Int) (hl : l.length ≤ 1000000000000) {A : Option Addr} {cap B : Nat} {w0 : World} {H : List HP} {w : World} (hr : Rd B w0 H A (l.flatMap numF)) (hw : St B w0 H w) :
    Calls Tryz.prog 195 [.slice A l.length cap, .int .i64 a, .int .i64 b].toArray w (Post B w0 fun v K => v = .bool (inL l a b) ∧ K = H) := by
  refine Yf Tryz.func195 Tryz.ntmps195 rfl rfl hw ?_
  have e1 : inL l a b = !(l.any fun z => !decide (a ≤ z ∧ z ≤ b)) := by
    unfold inL
    rw [List.not_any_eq_all_not]
    exact congrArg _ (funext fun z => (Bool.not_not _).symm)
  rw [e1]
  obtain ⟨o, ho⟩ : ∃ o, (l.any fun z => !decide (a ≤ z ∧ z ≤ b)) = o := ⟨_, rfl⟩
  rw [ho]
  repeat' (first | (apply zg29; (apply Yj; exact za ; exact rfl)) | refine zga ?_ | (refine zgh ?_; intro _) | fail)
  rename_i ga gb
  have p1 : ∀ w, St B w0 (blk gb (.cells #[.int .i64 b] 3 (0, 0)) :: blk ga (.cells #[.int .i64 a] 3 (0, 0)) :: H) w → Calls Tryz.prog 164 [.slice A l.length cap, .func (.func 238) #[] [Value.pointer (some ⟨ga, 0, none⟩), Value.pointer (some ⟨gb, 0, none⟩)].toArray].toArray w (Post B w0 fun v K => v = .bool o ∧ K = blk gb (.cells #[.int .i64 b] 3 (0, 0)) :: blk ga (.cells #[.int .i64 a] 3 (0, 0)) :: H) := fun w hw => by
    have h := ZC (fun z => Value.int .i64 z) (fun z => !decide (a ≤ z ∧ z ≤ b)) l 238 [.pointer (some ⟨ga, 0, none⟩), .pointer (some ⟨gb, 0, none⟩)] Ymo (by omega) (cap := cap) (show Rd B w0 _ A (l.flatMap numF) from hr.cons.cons) (fun z _ w hw => Yba z a b ga gb (.tail _ (.head _)) (.head _) hw) hw
    rw [ho] at h
    exact h
  cases o <;> (
    first | apply Ya YbF | apply Yb YbF
    exact za
    exact rfl
    exact fun _ hw => (p1 _ hw)
    repeat' (first | refine zgd ?_ | fail)
    apply Yk H
    · exact zk
    apply Yg; exact rfl; exact rfl; exact ⟨rfl, rfl⟩)
theorem UD {rs : List RowM} {k : Nat} {r : RowM} (h : rs[k]? = some r) : rtAt (rs.map (·.xs)) k = r.xs := by
  have h2 : (rs.map (·.xs))[k]? = some r.xs := by rw [List.getElem?_map, h]; rfl
  exact Option.some.inj ((Oc (List.getElem?_eq_some_iff.1 h2).1).symm.trans h2)
set_option maxRecDepth 10000 in
set_option maxHeartbeats 8000000 in
theorem YcF (c : ClM) {B : Nat} {w0 : World} {H : List HP} {w : World} (hc : c.In B w0 H) (hw : St B w0 H w) :
    Calls Tryz.prog 135 [clV c].toArray w (Post B w0 fun v K => v = .bool (JE c.clm) ∧ K = H) := by
  refine Yf Tryz.func135 Tryz.ntmps135 rfl rfl hw ?_
  obtain ⟨hl1, hl2, hl3, hl4⟩ := hc.ln
  have q1 := fun {H' : List HP} {w : World} (hc : c.In B w0 H') (hw : St B w0 H' w) => Z6 c.bs 1 512 hl2 (cap := c.bcap) hc.bd hw
  have q2 := fun {H' : List HP} {w : World} (hc : c.In B w0 H') (hw : St B w0 H' w) => Z6 c.ws 0 511 hl3 (cap := c.wcap) hc.ws hw
  obtain ⟨F, hF⟩ : ∃ F, JE c.clm = F := ⟨_, rfl⟩
  have hFe : F = (decide (0 ≤ c.flow ∧ c.flow ≤ 255 ∧ 1 ≤ c.rs.length ∧ c.rs.length ≤ 2 ∧ c.bs.length = c.rs.length ∧ c.ws.length = c.rs.length ∧ c.ss.length = c.rs.length) && inL c.bs 1 512 && inL c.ws 0 511 && (List.range c.rs.length).all fun i => rtOk (rtAt (c.rs.map (·.xs)) i) (rtAt (c.ss.map (·.xs)) i)) := by
    rw [← hF]
    unfold JE ClM.clm
    simp only [List.length_map]
  rw [hF]
  unfold clV
  obtain ⟨b1, hb1⟩ : ∃ b, inL c.bs 1 512 = b := ⟨_, rfl⟩
  obtain ⟨b2, hb2⟩ : ∃ b, inL c.ws 0 511 = b := ⟨_, rfl⟩
  rw [hb1] at q1 hFe
  rw [hb2] at q2 hFe
  by_cases hP : 0 ≤ c.flow ∧ c.flow ≤ 255 ∧ 1 ≤ c.rs.length ∧ c.rs.length ≤ 2 ∧ c.bs.length = c.rs.length ∧ c.ws.length = c.rs.length ∧ c.ss.length = c.rs.length
  rotate_left
  · rw [decide_eq_false hP] at hFe
    simp only [Bool.false_and] at hFe
    subst hFe
    repeat' (first | refine zgc ?_ | (refine zge ?_ ?_ <;> intro _ <;> try (exfalso; omega)) | (refine zgh ?_; intro _) | fail)
    all_goals (
      apply Yk H
      · exact zk
      apply Yg; exact rfl; exact rfl; exact ⟨rfl, rfl⟩)
  rw [decide_eq_true hP, Bool.true_and] at hFe
  obtain ⟨f0, f1, n1, n2, e1, e2, e3⟩ := hP
  cases b1 with
  | false =>
    simp only [Bool.false_and] at hFe
    subst hFe
    repeat' (first | refine zgc ?_ | (refine zge ?_ ?_ <;> intro _ <;> try (exfalso; omega)) | (refine zgh ?_; intro _) | fail)
    first | apply Ya XN | apply Yb XN
    exact za
    exact rfl
    exact fun _ hw => (q1 (hc.mono zk) hw)
    repeat' (first | refine zgd ?_ | fail)
    apply Yk H
    · exact zk
    apply Yg; exact rfl; exact rfl; exact ⟨rfl, rfl⟩
  | true =>
  cases b2 with
  | false =>
    simp only [Bool.false_and, Bool.and_false] at hFe
    subst hFe
    repeat' (first | refine zgc ?_ | (refine zge ?_ ?_ <;> intro _ <;> try (exfalso; omega)) | (refine zgh ?_; intro _) | fail)
    first | apply Ya XN | apply Yb XN
    exact za
    exact rfl
    exact fun _ hw => (q1 (hc.mono zk) hw)
    repeat' (first | refine zgc ?_ | fail)
    first | apply Ya XN | apply Yb XN
    exact za
    exact rfl
    exact fun _ hw => (q2 (hc.mono zk) hw)
    repeat' (first | refine zgd ?_ | fail)
    apply Yk H
    · exact zk
    apply Yg; exact rfl; exact rfl; exact ⟨rfl, rfl⟩
  | true =>
  simp only [Bool.true_and] at hFe
  repeat' (first | refine zgc ?_ | (refine zge ?_ ?_ <;> intro _ <;> try (exfalso; omega)) | (refine zgh ?_; intro _) | fail)
  rename_i g _ _ _ _ _ _ _
  first | apply Ya XN | apply Yb XN
  exact za
  exact rfl
  exact fun _ hw => (q1 (hc.mono zk) hw)
  repeat' (first | refine zgc ?_ | fail)
  first | apply Ya XN | apply Yb XN
  exact za
  exact rfl
  exact fun _ hw => (q2 (hc.mono zk) hw)
  repeat' (first | refine zgc ?_ | fail)
  obtain ⟨ok, hok⟩ : ∃ ok : Nat → Bool, (fun i => rtOk (rtAt (c.rs.map (·.xs)) i) (rtAt (c.ss.map (·.xs)) i)) = ok := ⟨_, rfl⟩
  rw [hok] at hFe
  refine Yn (fun k : Nat => [(61, .int .i64 (k : Nat)), (60, .int .i64 c.rs.length), (59, .slice c.rA c.rs.length c.rcap), (1, .pointer (some ⟨g, 0, none⟩))]) (fun _ => clA g c :: H) (fun k => k ≤ c.rs.length ∧ ∀ j, j < k → ok j = true) (fun k => c.rs.length - k) 0 ⟨Nat.zero_le _, fun j h => absurd h (Nat.not_lt_zero _)⟩ ?_ (fun w hw => hw) ?_
  · exact zu
  rintro k ⟨hk, hz⟩ K hK
  have hcr : Rd B w0 (clA g c :: H) c.rA (c.rs.flatMap rowF) := hc.rt.cons
  have hcs : Rd B w0 (clA g c :: H) c.sA (c.ss.flatMap rowF) := hc.st.cons
  by_cases hlt : k < c.rs.length
  rotate_left
  · obtain rfl : k = c.rs.length := by omega
    have hFt : F = true := by
      rw [hFe, List.all_eq_true]
      exact fun j hj => hz j (List.mem_range.1 hj)
    subst hFt
    clear hK
    repeat' (first | refine zgc ?_ | (refine zge ?_ ?_ <;> intro _ <;> try (exfalso; omega)) | fail)
    apply Yk H
    · exact zk
    apply Yg; exact rfl; exact rfl; exact ⟨rfl, rfl⟩
  obtain ⟨r, hr⟩ : ∃ r, c.rs[k]? = some r := ⟨_, List.getElem?_eq_getElem hlt⟩
  obtain ⟨z, hzz⟩ : ∃ z, c.ss[k]? = some z := ⟨_, List.getElem?_eq_getElem (by omega)⟩
  have hrm := List.mem_of_getElem? hr
  have hzm := List.mem_of_getElem? hzz
  have hkk : ok k = rtOk r.xs z.xs := by rw [← hok]; show rtOk (rtAt _ _) (rtAt _ _) = _; rw [UD hr, UD hzz]
  unfold rtOk at hkk
  have hrl := hc.rl r hrm
  have hzl := hc.sl z hzm
  have q3 := fun {H' : List HP} {w : World} (hc : c.In B w0 H') (hw : St B w0 H' w) => Z6 r.xs 0 31 hrl (cap := r.cap) (hc.rw_ r hrm) hw
  have q4 := fun {H' : List HP} {w : World} (hc : c.In B w0 H') (hw : St B w0 H' w) => Z6 z.xs 0 511 hzl (cap := z.cap) (hc.sw z hzm) hw
  obtain ⟨b3, hb3⟩ : ∃ b, inL r.xs 0 31 = b := ⟨_, rfl⟩
  obtain ⟨b4, hb4⟩ : ∃ b, inL z.xs 0 511 = b := ⟨_, rfl⟩
  rw [hb3] at q3 hkk
  rw [hb4] at q4 hkk
  have hno : ok k = false → F = false := fun h => by
    rw [hFe, List.all_eq_false]
    exact ⟨k, List.mem_range.2 hlt, by rw [h]; decide⟩
  by_cases hA : 2 ≤ r.xs.length ∧ r.xs.length ≤ 9
  rotate_left
  · rw [decide_eq_false hA] at hkk
    have hFf := hno (by rw [hkk]; rfl)
    subst hFf
    clear hK
    repeat' (first | refine zgd ?_ | (refine zge ?_ ?_ <;> intro _ <;> try (exfalso; omega)) | fail)
    all_goals (
      apply Yk H
      · exact zk
      apply Yg; exact rfl; exact rfl; exact ⟨rfl, rfl⟩)
  rw [decide_eq_true hA] at hkk
  cases b3 with
  | false =>
    have hFf := hno (by rw [hkk]; rfl)
    subst hFf
    clear hK
    repeat' (first | refine zgd ?_ | (refine zge ?_ ?_ <;> intro _ <;> try (exfalso; omega)) | fail)
    first | apply Ya XN | apply Yb XN
    exact za
    exact rfl
    exact fun _ hw => (q3 (hc.mono zk) hw)
    repeat' (first | refine zgd ?_ | fail)
    all_goals (
      apply Yk H
      · exact zk
      apply Yg; exact rfl; exact rfl; exact ⟨rfl, rfl⟩)
  | true =>
  by_cases hB : 1 ≤ z.xs.length ∧ z.xs.length ≤ 64
  rotate_left
  · rw [decide_eq_false hB] at hkk
    have hFf := hno (by rw [hkk]; rfl)
    subst hFf
    clear hK
    repeat' (first | refine zgd ?_ | (refine zge ?_ ?_ <;> intro _ <;> try (exfalso; omega)) | fail)
    first | apply Ya XN | apply Yb XN
    exact za
    exact rfl
    exact fun _ hw => (q3 (hc.mono zk) hw)
    repeat' (first | refine zgd ?_ | (refine zge ?_ ?_ <;> intro _ <;> try (exfalso; omega)) | fail)
    all_goals (
      apply Yk H
      · exact zk
      apply Yg; exact rfl; exact rfl; exact ⟨rfl, rfl⟩)
  rw [decide_eq_true hB] at hkk
  cases b4 with
  | false =>
    have hFf := hno (by rw [hkk]; rfl)
    subst hFf
    clear hK
    repeat' (first | refine zgd ?_ | (refine zge ?_ ?_ <;> intro _ <;> try (exfalso; omega)) | fail)
    first | apply Ya XN | apply Yb XN
    exact za
    exact rfl
    exact fun _ hw => (q3 (hc.mono zk) hw)
    repeat' (first | refine zgd ?_ | (refine zge ?_ ?_ <;> intro _ <;> try (exfalso; omega)) | fail)
    first | apply Ya XN | apply Yb XN
    exact za
    exact rfl
    exact fun _ hw => (q4 (hc.mono zk) hw)
    repeat' (first | refine zgd ?_ | fail)
    all_goals (
      apply Yk H
      · exact zk
      apply Yg; exact rfl; exact rfl; exact ⟨rfl, rfl⟩)
  | true =>
    have hkt : ok k = true := hkk
    repeat' (first | refine zgd ?_ | (refine zge ?_ ?_ <;> intro _ <;> try (exfalso; omega)) | fail)
    first | apply Ya XN | apply Yb XN
    exact za
    exact rfl
    exact fun _ hw => (q3 (hc.mono zk) hw)
    repeat' (first | refine zgd ?_ | (refine zge ?_ ?_ <;> intro _ <;> try (exfalso; omega)) | fail)
    first | apply Ya XN | apply Yb XN
    exact za
    exact rfl
    exact fun _ hw => (q4 (hc.mono zk) hw)
    repeat' (first | refine zgd ?_ | fail)
    apply hK (k + 1)
    · exact ⟨by omega, fun j h2 => by
        rcases Nat.lt_succ_iff_lt_or_eq.1 h2 with h | rfl
        · exact hz j h
        · exact hkt⟩
    · omega
    · exact zu
    · exact zk
open Go.RowKit Go.Eng Go.Nw Go.Rt
set_option maxRecDepth 10000 in
set_option maxHeartbeats 8000000 in
theorem QK (c : List ClM) {A : Option Addr} {cap B : Nat} {w0 : World} {H : List HP} {w : World} (hc : CIn B w0 H A c) (hw : St B w0 H w) :
    Calls Tryz.prog 75 [.slice A c.length cap].toArray w (Post B w0 fun v K => v = .bool (VJ (c.map ClM.clm)) ∧ K = H) := by
  refine Yf Tryz.func75 Tryz.ntmps75 rfl rfl hw ?_
  have hcl := hc.ln
  have hcr := hc.rd
  obtain ⟨ok, hok⟩ : ∃ ok : Nat → Bool, Ygg (c.map ClM.clm) = ok := ⟨_, rfl⟩
  obtain ⟨F, hF⟩ : ∃ F, VJ (c.map ClM.clm) = F := ⟨_, rfl⟩
  have hFe : F = (decide (c.length ≤ 16) && (List.range c.length).all ok) := by
    rw [← hF]; unfold VJ; rw [List.length_map, hok]
  rw [hF]
  repeat' (first | refine zgb ?_ | fail)
  refine Yn (fun k : Nat => [(7, .int .i64 (k : Nat)), (6, .int .i64 c.length), (5, .slice A c.length cap), (0, .slice A c.length cap)]) (fun _ => H) (fun k => k ≤ c.length ∧ ∀ j, j < k → ok j = true) (fun k => c.length - k) 0 ⟨Nat.zero_le _, fun j h => absurd h (Nat.not_lt_zero _)⟩ ?_ (fun w hw => hw) ?_
  · exact zu
  rintro k ⟨hk, hz⟩ K hK
  by_cases hlt : k < c.length
  rotate_left
  · obtain rfl : k = c.length := by omega
    have hFt : (List.range c.length).all ok = true := by
      rw [List.all_eq_true]
      exact fun j hj => hz j (List.mem_range.1 hj)
    rw [hFt, Bool.and_true] at hFe
    clear hK
    by_cases h16 : c.length ≤ 16
    · rw [decide_eq_true h16] at hFe
      subst hFe
      repeat' (first | refine zgc ?_ | (refine zgf ?_ ?_ <;> intro _ <;> try (exfalso; omega)) | fail)
      apply Yg; exact rfl; exact rfl; exact ⟨rfl, rfl⟩
    · rw [decide_eq_false h16] at hFe
      subst hFe
      repeat' (first | refine zgc ?_ | (refine zgf ?_ ?_ <;> intro _ <;> try (exfalso; omega)) | fail)
      apply Yg; exact rfl; exact rfl; exact ⟨rfl, rfl⟩
  obtain ⟨x, hx⟩ : ∃ x, c[k]? = some x := ⟨_, List.getElem?_eq_getElem hlt⟩
  have hxi := hc.x x (List.mem_of_getElem? hx)
  have q1 := fun {H' : List HP} {w : World} (hx : x.In B w0 H') (hw : St B w0 H' w) => YcF x hx hw
  have hok1 : ok k = (JE x.clm && (decide (k = 0) || decide ((Jj (c.map ClM.clm) (k - 1)).flow < x.flow))) := by
    rw [← hok]; unfold Ygg; rw [Jb hx]; rfl
  have hno : ok k = false → F = false := fun h => by
    rw [hFe, Bool.and_eq_false_iff]
    exact .inr (List.all_eq_false.2 ⟨k, List.mem_range.2 hlt, by rw [h]; decide⟩)
  obtain ⟨b, hb⟩ : ∃ b, JE x.clm = b := ⟨_, rfl⟩
  rw [hb] at q1 hok1
  cases b with
  | false =>
    have hFf := hno hok1
    subst hFf
    clear hK
    repeat' (first | refine zgd ?_ | (refine zge ?_ ?_ <;> intro _ <;> try (exfalso; omega)) | (refine zgh ?_; intro _) | fail)
    apply YN [0, 1, 2, 3, 4, 5, 6, 7, 8, 9, 10, 11, 12, 13, 14, 15, 16, 17] []
    kernel_rfl
    kernel_rfl
    (simp only [Yl, nthO]; rfl)
    exact rfl
    repeat' (first | refine zgd ?_ | fail)
    first | apply Ya Oz | apply Yb Oz
    exact za
    exact rfl
    exact fun _ hw => (q1 (hxi.mono zk) hw)
    repeat' (first | (apply Yi; (repeat (first | with_reducible exact Yh | (with_reducible apply Yd; (repeat (first | with_reducible exact Ye | with_reducible apply Yc)))))) | refine zgd ?_ | fail)
    · show Perm H (H ++ [])
      rw [List.append_nil]; exact Perm.refl _
    repeat' (first | fail)
    apply Yk H
    · exact zk
    apply Yg; exact rfl; exact rfl; exact ⟨rfl, rfl⟩
  | true =>
    rw [Bool.true_and] at hok1
    by_cases hk0 : k = 0
    · have hkt : ok k = true := by rw [hok1, decide_eq_true hk0]; rfl
      repeat' (first | refine zgd ?_ | (refine zge ?_ ?_ <;> intro _ <;> try (exfalso; omega)) | (refine zgh ?_; intro _) | fail)
      apply YN [0, 1, 2, 3, 4, 5, 6, 7, 8, 9, 10, 11, 12, 13, 14, 15, 16, 17] []
      kernel_rfl
      kernel_rfl
      (simp only [Yl, nthO]; rfl)
      exact rfl
      repeat' (first | refine zgd ?_ | fail)
      first | apply Ya Oz | apply Yb Oz
      exact za
      exact rfl
      exact fun _ hw => (q1 (hxi.mono zk) hw)
      repeat' (first | (apply Yi; (repeat (first | with_reducible exact Yh | (with_reducible apply Yd; (repeat (first | with_reducible exact Ye | with_reducible apply Yc)))))) | refine zgc ?_ | fail)
      · show Perm H (H ++ [])
        rw [List.append_nil]; exact Perm.refl _
      repeat' (first | refine zgd ?_ | (refine zge ?_ ?_ <;> intro _ <;> try (exfalso; omega)) | fail)
      apply hK (k + 1)
      · exact ⟨by omega, fun j h2 => by
          rcases Nat.lt_succ_iff_lt_or_eq.1 h2 with h | rfl
          · exact hz j h
          · exact hkt⟩
      · omega
      · exact zu
      · exact zk
    obtain ⟨y, hy⟩ : ∃ y, c[k - 1]? = some y := ⟨_, List.getElem?_eq_getElem (by omega)⟩
    have hy2 : c[((k : Int) - 1).toNat]? = some y := by rw [show ((k : Int) - 1).toNat = k - 1 by omega]; exact hy
    rw [decide_eq_false hk0, Bool.false_or, Jb hy] at hok1
    have hok1 : ok k = decide (y.flow < x.flow) := hok1
    by_cases hfl : y.flow < x.flow
    · rw [decide_eq_true hfl] at hok1
      repeat' (first | refine zgd ?_ | (refine zge ?_ ?_ <;> intro _ <;> try (exfalso; omega)) | (refine zgh ?_; intro _) | fail)
      apply YN [0, 1, 2, 3, 4, 5, 6, 7, 8, 9, 10, 11, 12, 13, 14, 15, 16, 17] []
      kernel_rfl
      kernel_rfl
      (simp only [Yl, nthO]; rfl)
      exact rfl
      repeat' (first | refine zgd ?_ | fail)
      first | apply Ya Oz | apply Yb Oz
      exact za
      exact rfl
      exact fun _ hw => (q1 (hxi.mono zk) hw)
      repeat' (first | (apply Yi; (repeat (first | with_reducible exact Yh | (with_reducible apply Yd; (repeat (first | with_reducible exact Ye | with_reducible apply Yc)))))) | refine zgc ?_ | fail)
      · show Perm H (H ++ [])
        rw [List.append_nil]; exact Perm.refl _
      repeat' (first | refine zgd ?_ | (refine zgf ?_ ?_ <;> intro _ <;> try (exfalso; omega)) | fail)
      apply hK (k + 1)
      · exact ⟨by omega, fun j h2 => by
          rcases Nat.lt_succ_iff_lt_or_eq.1 h2 with h | rfl
          · exact hz j h
          · exact hok1⟩
      · omega
      · exact zu
      · exact zk
    · rw [decide_eq_false hfl] at hok1
      have hFf := hno hok1
      subst hFf
      clear hK
      repeat' (first | refine zgd ?_ | (refine zge ?_ ?_ <;> intro _ <;> try (exfalso; omega)) | (refine zgh ?_; intro _) | fail)
      apply YN [0, 1, 2, 3, 4, 5, 6, 7, 8, 9, 10, 11, 12, 13, 14, 15, 16, 17] []
      kernel_rfl
      kernel_rfl
      (simp only [Yl, nthO]; rfl)
      exact rfl
      repeat' (first | refine zgd ?_ | fail)
      first | apply Ya Oz | apply Yb Oz
      exact za
      exact rfl
      exact fun _ hw => (q1 (hxi.mono zk) hw)
      repeat' (first | (apply Yi; (repeat (first | with_reducible exact Yh | (with_reducible apply Yd; (repeat (first | with_reducible exact Ye | with_reducible apply Yc)))))) | refine zgc ?_ | fail)
      · show Perm H (H ++ [])
        rw [List.append_nil]; exact Perm.refl _
      repeat' (first | refine zgd ?_ | (refine zgf ?_ ?_ <;> intro _ <;> try (exfalso; omega)) | fail)
      apply Yk H
      · exact zk
      apply Yg; exact rfl; exact rfl; exact ⟨rfl, rfl⟩
open Go.RowKit Go.Eng Go.Nw
set_option maxRecDepth 10000 in
theorem Ve (word : List UInt8) (l : List Int) (h : ∀ n ∈ l, 0 ≤ n ∧ n < 10000) (h5 : l.length ≤ 100) (hwd : word.length ≤ 100) {A : Option Addr} {cap B : Nat} {w0 : World} {H : List HP} {w : World} (ht : TabsB B w0) (hr : Rd B w0 H A (l.flatMap numF)) (hw : St B w0 H w) :
    Calls Tryz.prog 77 [strV word, .slice A l.length cap].toArray w (Post B w0 fun v K => v = strV (XP word l) ∧ K = H) := by
  refine Yf Tryz.func77 Tryz.ntmps77 rfl rfl hw ?_
  repeat' (first | refine zgb ?_ | fail)
  refine Yn (fun (i : Nat) => [(9, .int .i64 i), (8, .int .i64 l.length), (7, .slice A l.length cap), (0, strV (YO word (l.take i)))]) (fun _ => H) (fun i => i ≤ l.length) (fun i => l.length - i) 0 (Nat.zero_le _) ?_ (fun w hw => hw) ?_
  · have e0 : YO word (l.take 0) = word := by simp [YO]
    rw [e0]
    exact zu
  intro i hi K hK
  have hbl := Wk (w := word) (l := l.take i) fun n hn => h n (List.mem_of_mem_take hn)
  have hlt0 : (l.take i).length ≤ 100 := by rw [List.length_take]; omega
  by_cases hlt : i < l.length
  · obtain ⟨n, hn⟩ : ∃ n, l[i]? = some n := ⟨_, List.getElem?_eq_getElem hlt⟩
    have hnb := h n (List.mem_of_getElem? hn)
    have hil := Yai hnb
    repeat' (first | ((first | apply Ya YbC | apply Yb YbC); exact za; exact rfl; exact fun _ hw => (WZ n (by omega) (by omega) ht hw)) | (apply VR [32] (Lib.itoa n); exact rfl; exact rfl; exact rfl; (show 1 + _ ≤ _; omega)) | (apply VR (YO word (l.take i)) ([32] ++ Lib.itoa n); exact rfl; exact rfl; exact rfl; (rw [List.length_append]; show _ + (1 + _) ≤ _; omega)) | refine zgd ?_ | (refine zge ?_ ?_ <;> intro _ <;> try (exfalso; omega)) | fail)
    apply hK (i + 1)
    · show i + 1 ≤ l.length
      omega
    · omega
    · rw [List.take_add_one, hn, Option.toList_some, Ybv]
      exact zu
    · exact fun w hw => hw
  · skip
    repeat' (first | (apply VR (YO word (l.take i)) [10]; exact rfl; exact rfl; exact rfl; (show _ + 1 ≤ _; omega)) | refine zgc ?_ | (refine zge ?_ ?_ <;> intro _ <;> try (exfalso; omega)) | fail)
    apply Yg; exact rfl; exact rfl
    rw [show i = l.length by omega, List.take_length]
    exact ⟨rfl, rfl⟩
set_option maxRecDepth 10000 in
set_option maxHeartbeats 2000000 in
theorem Ybb (ws : List (List UInt8)) (hwl : ws.length ≤ 1000000) (hwm : ∀ p ∈ ws, p.length ≤ 100000) {A0 : Option Addr} {cap0 B : Nat} {w0 : World} {H : List HP} {w : World} (ht : TabsB B w0) (hrw : Rd B w0 H A0 (ws.flatMap strL)) (hw : St B w0 H w) :
    Calls Tryz.prog 143 [.slice A0 ws.length cap0].toArray w (Post B w0 (OutR H (J4 ws))) := by
  refine Yf Tryz.func143 Tryz.ntmps143 rfl rfl hw ?_
  repeat' (first | refine zgb ?_ | fail)
  have hnone : ∀ {p : List UInt8}, p ∈ ws → numW p < 0 → J4 ws = none := fun hp hn => Yhw hp hn
  refine Yn (fun (z : Nat × Option Addr × Nat) => [(11, .int .i64 z.1), (10, .int .i64 ws.length), (9, .slice A0 ws.length cap0), (4, .slice z.2.1 ((ws.take z.1).map numW).length z.2.2)]) (fun z => nrs z.2.1 z.2.2 ((ws.take z.1).map numW) :: H) (fun z => z.1 ≤ ws.length ∧ ∀ p ∈ ws.take z.1, 0 ≤ numW p) (fun z => ws.length - z.1) (0, none, 0) ⟨Nat.zero_le _, by simp⟩ ?_ (fun w hw => hw.nilSlice _ _) ?_
  · exact zu
  rintro ⟨i, A, cap⟩ ⟨hi, hall⟩ K hK
  dsimp only at hi hall ⊢
  have hlen : ((ws.take i).map numW).length = i := by rw [List.length_map, List.length_take]; omega
  have hrw' := hrw.cons (X := nrs A cap ((ws.take i).map numW))
  by_cases hlt : i < ws.length
  · obtain ⟨p, hp⟩ : ∃ p, ws[i]? = some p := ⟨_, List.getElem?_eq_getElem hlt⟩
    have hpm := List.mem_of_getElem? hp
    have hpl := hwm p hpm
    have hs : (⟨p.toArray⟩ : ByteArray).size = p.length := by simp [ByteArray.size]
    by_cases hv : ∃ v, Lib.atoiAll p = .ok v
    · obtain ⟨v, hv⟩ := hv
      have hvb := Lib.atoiAll_bounds hv
      obtain ⟨q1, q2⟩ := Yjf hv
      repeat' (first | ((first | apply Ya YiM | apply Yb YiM); exact za; exact rfl; exact fun _ hw => (Yj8 p (by omega) v hv hw)) | ((first | apply Ya YbC | apply Yb YbC); exact za; exact rfl; exact fun _ hw => (WZ v hvb.1 hvb.2 ht hw)) | (apply YjN; exact rfl; exact rfl) | (apply Ycx (Lib.itoa v) p; exact rfl; exact rfl; exact rfl; all_goals intro hwd2) | refine zgd ?_ | (refine zge ?_ ?_ <;> intro _ <;> try (exfalso; omega)) | (refine zgh ?_; intro _) | (refine zgi ?_; intro _ _) | fail)
      all_goals first
        | (apply Yk H
           · exact zk
           apply Yt; exact rfl; exact rfl; exact rfl
           rw [hnone hpm (q2 (by rintro ⟨c1, c2, c3⟩; first | omega | exact hwd2 c2))]
           exact ⟨rfl, rfl⟩)
        | (rename_i xA xcap
           have hq := q1 ⟨by omega, hwd2, by omega⟩
           have e5 : (ws.take i).map numW ++ [v] = (ws.take (i + 1)).map numW := by rw [List.take_add_one, hp, Option.toList_some, List.map_append, List.map_cons, List.map_nil, hq]
           rw [ZQ, e5]
           apply hK (i + 1, xA, xcap)
           · refine ⟨by show i + 1 ≤ _; omega, fun p' hp' => ?_⟩
             dsimp only at hp'
             rw [List.take_add_one, hp, Option.toList_some, List.mem_append, List.mem_singleton] at hp'
             rcases hp' with hp' | rfl
             · exact hall p' hp'
             · omega
           · dsimp only; omega
           · rw [show ((ws.take i).map numW).length + 1 = ((ws.take (i + 1)).map numW).length from (by rw [← e5]; simp)]
             exact zu
           · exact zk)
    · have hbad := Yje (fun n hn => hv ⟨n, hn⟩)
      repeat' (first | refine zgd ?_ | (refine zge ?_ ?_ <;> intro _ <;> try (exfalso; omega)) | fail)
      apply Yr _ YiM
      exact za
      exact rfl
      exact fun _ hw => (YiC p (by omega) (fun n hn => hv ⟨n, hn⟩) ht (hw))
      rintro _ _ ⟨⟨n9, t9, p9, rfl⟩, rfl⟩
      repeat' (first | (apply YjO; exact rfl; exact rfl) | refine zgc ?_ | fail)
      rw [hnone hpm hbad]
      apply Yk H
      · exact zk
      apply Yt; exact rfl; exact rfl; exact rfl; exact ⟨rfl, rfl⟩
  · have hie : i = ws.length := by omega
    rw [hie, List.take_length] at hall
    rw [Yhx hall]
    repeat' (first | refine zgc ?_ | (refine zge ?_ ?_ <;> intro _ <;> try (exfalso; omega)) | fail)
    rw [hie, List.take_length]
    apply Yt; exact rfl; exact rfl; exact rfl
    exact ⟨A, cap, by rw [List.length_map], rfl⟩
open Go.RowKit Go.Eng Go.Nw Go.Rt
def rt3 (x : Clm) (i : Nat) : List UInt8 := XP wordR (rtAt x.routes i) ++ XP wordB [x.bounds.getD i 0, x.worst.getD i 0] ++ XP wordL (rtAt x.slots i)
def clT (x : Clm) (k : Nat) : List UInt8 := XP wordF [x.flow] ++ (List.range k).flatMap (rt3 x)
def Zu (c : List Clm) (k : Nat) : List UInt8 := (c.take k).flatMap fun x => clT x x.routes.length
theorem YhH {x : Clm} (h : VF x) : ((Zw x).flatMap fun p => p ++ [10]) = clT x x.routes.length := by
  have e : ∀ ks : List Nat, (∀ i ∈ ks, i < x.routes.length) → (ks.flatMap (YeJ x)).flatMap (fun p => p ++ [10]) = ks.flatMap (rt3 x) := by
    intro ks
    induction ks with
    | nil => intro _; rfl
    | cons i ks ih =>
      intro hk
      rw [List.flatMap_cons, List.flatMap_append, List.flatMap_cons, ih fun j hj => hk j (List.mem_cons_of_mem _ hj)]
      have hi := hk i List.mem_cons_self
      unfold YeJ rt3 XP
      rw [if_pos (by rw [h.b]; exact hi), if_pos (by rw [h.s]; exact hi)]
      simp
  unfold Zw clT
  rw [List.flatMap_cons, e _ fun i hi => List.mem_range.1 hi]
  rfl
theorem YhY {c : List Clm} (h : ∀ x ∈ c, VF x) : OS c = Zu c c.length := by
  unfold OS Zu
  rw [List.take_length]
  induction c with
  | nil => rfl
  | cons x c ih =>
    rw [List.flatMap_cons, List.flatMap_append, List.flatMap_cons, YhH (h x (by simp)), ih fun y hy => h y (by simp [hy])]
theorem Yby {c : List Clm} {k : Nat} {x : Clm} (h : c[k]? = some x) : Zu c (k + 1) = Zu c k ++ clT x x.routes.length := by
  unfold Zu
  rw [List.take_add_one, h, Option.toList_some, List.flatMap_append]
  simp
theorem YdW (x : Clm) (k : Nat) : clT x (k + 1) = clT x k ++ rt3 x k := by
  unfold clT
  rw [List.range_succ, List.flatMap_append, List.append_assoc]
  simp
theorem Vr {l : List Int} {b : Int} (hb : b < 10000) (h : ∀ x ∈ l, 0 ≤ x ∧ x ≤ b) : ∀ n ∈ l, 0 ≤ n ∧ n < 10000 := fun n hn => by have := h n hn; omega
theorem Ycf {a b : Int} (ha : 0 ≤ a ∧ a < 10000) (hb : 0 ≤ b ∧ b < 10000) : ∀ n ∈ [a, b], 0 ≤ n ∧ n < 10000 := fun n hn => by
  simp only [List.mem_cons, List.not_mem_nil, or_false] at hn
  rcases hn with rfl | rfl
  · exact ha
  · exact hb
theorem Ybt {x : Clm} (h : VF x) {i : Nat} (hi : i < x.routes.length) : (0 ≤ x.bounds.getD i 0 ∧ x.bounds.getD i 0 < 10000) ∧ (0 ≤ x.worst.getD i 0 ∧ x.worst.getD i 0 < 10000) := by
  have h1 := h.bs _ (Uw (l := x.bounds) (i := i) (by rw [h.b]; exact hi))
  have h2 := h.ws _ (Uw (l := x.worst) (i := i) (by rw [h.w]; exact hi))
  omega
theorem YgJ {x : Clm} (h : VF x) {i : Nat} (hi : i < x.routes.length) : (rt3 x i).length ≤ 500 := by
  have h1 := h.rs i hi
  have h2 := h.ls i hi
  have h3 := Ybt h hi
  have k1 := Zk (w := wordR) (Vr (by decide) h1.2.2)
  have k2 := Zk (w := wordB) (Ycf h3.1 h3.2)
  have k3 := Zk (w := wordL) (Vr (by decide) h2.2.2)
  have e1 : wordR.length = 5 := rfl
  have e2 : wordB.length = 5 := rfl
  have e3 : wordL.length = 5 := rfl
  simp only [List.length_cons, List.length_nil] at k2
  unfold rt3
  rw [List.length_append, List.length_append]
  omega
theorem YcH {x : Clm} (h : VF x) : ∀ k, k ≤ x.routes.length → (clT x k).length ≤ 20 + 500 * k
  | 0, _ => by
    have k1 := Zk (w := wordF) (l := [x.flow]) fun n hn => by have := h.f; rw [List.mem_singleton.1 hn]; omega
    have e1 : wordF.length = 4 := rfl
    simp only [List.length_cons, List.length_nil] at k1
    unfold clT
    simp only [List.range_zero, List.flatMap_nil, List.append_nil]
    omega
  | k + 1, hk => by
    have ih := YcH h k (by omega)
    have h1 := YgJ h (i := k) (by omega)
    rw [YdW, List.length_append]
    omega
theorem Ybx {c : List Clm} (h : ∀ x ∈ c, VF x) : ∀ k, k ≤ c.length → (Zu c k).length ≤ 1100 * k
  | 0, _ => by unfold Zu; simp
  | k + 1, hk => by
    have ih := Ybx h k (by omega)
    obtain ⟨x, hx⟩ : ∃ x, c[k]? = some x := ⟨_, List.getElem?_eq_getElem (by omega)⟩
    have hf := h x (List.mem_of_getElem? hx)
    have h1 := YcH hf x.routes.length (Nat.le_refl _)
    have := hf.n
    rw [Yby hx, List.length_append]
    omega
theorem ClM.In.here {c : ClM} {B : Nat} {w0 w : World} {H : List HP} (h : c.In B w0 H) (hw : St B w0 H w) : c.In w.heap.size w [] :=
  ⟨h.rt.here hw, fun r hr => (h.rw_ r hr).here hw, h.bd.here hw, h.ws.here hw, h.st.here hw, fun r hr => (h.sw r hr).here hw, h.ln, h.rl, h.sl⟩
theorem CIn.here {c : List ClM} {A : Option Addr} {B : Nat} {w0 w : World} {H : List HP} (h : CIn B w0 H A c) (hw : St B w0 H w) : CIn w.heap.size w [] A c := ⟨h.rd.here hw, fun x hx => (h.x x hx).here hw, h.ln⟩
structure PrM where
  i : Nat
  A : Option Addr
  cap : Nat
set_option maxRecDepth 10000 in
set_option maxHeartbeats 8000000 in
theorem Yg6 (c : List ClM) {A : Option Addr} {cap B : Nat} {w0 : World} {w : World} (ht : TabsB B w0) (hc : CIn B w0 [] A c) (hw : St B w0 [] w) :
    Calls Tryz.prog 25 [.slice A c.length cap].toArray w (Post B w0 fun v _ => v = .tuple #[strV (Uj (c.map ClM.clm)).1, .int .i64 (Uj (c.map ClM.clm)).2]) := by
  refine Yf Tryz.func25 Tryz.ntmps25 rfl rfl hw ?_
  have p1 := fun {H' : List HP} {w : World} (hc : CIn B w0 H' A c) (hw : St B w0 H' w) => QK c (cap := cap) hc hw
  have hcr := hc.rd
  cases hf : VJ (c.map ClM.clm) with
  | false =>
    rw [hf] at p1
    repeat' (first | ((first | apply Ya en75 | apply Yb en75); exact za; exact rfl; exact fun _ hw => (p1 (hc.mono zk) hw)) | refine zgd ?_ | fail)
    apply Yt; exact rfl; exact rfl; exact rfl
    rw [Uj, if_pos hf]
  | true =>
    rw [hf] at p1
    obtain ⟨h16, hfd⟩ := Yee hf
    rw [List.length_map] at h16
    repeat' (first | ((first | apply Ya en75 | apply Yb en75); exact za; exact rfl; exact fun _ hw => (p1 (hc.mono zk) hw)) | refine zgc ?_ | (refine zgh ?_; intro _) | fail)
    rename_i gb
    refine Yn (fun z : PrM => [(14, .int .i64 (z.i : Nat)), (13, .int .i64 c.length), (12, .slice A c.length cap), (4, .pointer (some ⟨gb, 0, none⟩))]) (fun z => bdP gb (if z.i = 0 then .pointer none else .pointer (some ⟨gb, 0, none⟩)) z.A z.cap (Zu (c.map ClM.clm) z.i) []) (fun z => z.i ≤ c.length) (fun z => c.length - z.i) ⟨0, none, 0⟩ (Nat.zero_le _) ?_ ?_ ?_
    · exact zu
    · intro w hw
      have h5 : St B w0 [blk gb (.cells (Value.agg #[.pointer none, .slice none 0 0]).cells 132 (0, 0))] w := hw
      exact (h5.nilSlice 5 1).perm (.swap _ _ _)
    rintro ⟨k, A1, cap1⟩ hk K hK
    dsimp only at hk ⊢
    have htl := Ybx hfd k (by rw [List.length_map]; exact hk)
    by_cases hlt : k < c.length
    rotate_left
    · obtain rfl : k = c.length := by omega
      obtain ⟨p, hp⟩ : ∃ p, (if c.length = 0 then Value.pointer none else .pointer (some ⟨gb, 0, none⟩)) = p := ⟨_, rfl⟩
      have hp2 : p = .pointer none ∨ p = .pointer (some ⟨gb, 0, none⟩) := by rw [← hp]; split <;> simp
      rw [hp]
      clear hK
      repeat' (first | refine zgc ?_ | (refine zge ?_ ?_ <;> intro _ <;> try (exfalso; omega)) | fail)
      apply Yr _ en78
      exact za
      exact rfl
      exact fun _ hw => (OR (l := Zu (c.map ClM.clm) c.length) hp2 (hw))
      rintro _ _ ⟨rfl, rfl⟩
      repeat' (first | refine zga ?_ | fail)
      apply Yt; exact rfl; exact rfl; exact rfl
      rw [Uj, if_neg (by rw [hf]; decide), YhY hfd, List.length_map]
    obtain ⟨x, hx⟩ : ∃ x, c[k]? = some x := ⟨_, List.getElem?_eq_getElem hlt⟩
    have hxm := List.mem_of_getElem? hx
    have hxd := hfd x.clm (List.mem_map_of_mem hxm)
    have hxi := hc.x x hxm
    obtain ⟨p, hp⟩ : ∃ p, (if k = 0 then Value.pointer none else .pointer (some ⟨gb, 0, none⟩)) = p := ⟨_, rfl⟩
    have hp2 : p = .pointer none ∨ p = .pointer (some ⟨gb, 0, none⟩) := by rw [← hp]; split <;> simp
    rw [hp]
    unfold bdP
    repeat' (first | refine zgd ?_ | (refine zge ?_ ?_ <;> intro _ <;> try (exfalso; omega)) | (refine zgh ?_; intro _) | fail)
    rename_i gx gl
    have hlen1 : x.clm.routes.length = x.rs.length := by show (x.rs.map (·.xs)).length = _; rw [List.length_map]
    have hxn := hxd.n
    rw [hlen1] at hxn
    have hbl : x.bs.length = x.rs.length := by have := hxd.b; rw [hlen1] at this; exact this
    have hwl : x.ws.length = x.rs.length := by have := hxd.w; rw [hlen1] at this; exact this
    have hsl : x.ss.length = x.rs.length := by have := hxd.s; rw [hlen1] at this; rw [← this]; show _ = (x.ss.map (·.xs)).length; rw [List.length_map]
    have hrl : ∀ X, Rd B w0 (blk gl (.cells #[.int .i64 x.flow] 3 (0, 0)) :: X) (some ⟨gl, 0, none⟩) ([x.flow].flatMap numF) := fun X => Rd.blk (cs := #[.int .i64 x.flow]) (.head _)
    have hfl : ∀ n ∈ [x.flow], 0 ≤ n ∧ n < 10000 := fun n hn => by
      have := hxd.f
      rw [List.mem_singleton.1 hn]
      exact ⟨this.1, by have := this.2; show x.clm.flow < _; omega⟩
    have hfl2 := Zk (w := wordF) hfl
    have e1 : wordF.length = 4 := rfl
    simp only [List.length_cons, List.length_nil] at hfl2
    first | apply Ya en77 | apply Yb en77
    exact za
    exact rfl
    exact fun _ hw => (Ve wordF [x.flow] hfl (by show 1 ≤ 100; decide) (by decide) ht (hrl _) hw)
    apply Ybq (bdP gb p A1 cap1 (Zu (c.map ClM.clm) k) [clA gx x])
    · unfold bdP
      exact zk
    apply Yr _ en76
    exact za
    exact rfl
    exact fun _ hw => (VE gb p hp2 A1 cap1 (Zu (c.map ClM.clm) k) (XP wordF [x.flow]) (by omega) (hw))
    rintro _ _ ⟨rfl, A2, cap2, rfl⟩
    unfold bdP
    repeat' (first | refine zgb ?_ | fail)
    refine Yn (fun z : PrM => [(26, .int .i64 (z.i : Nat)), (25, .int .i64 x.rs.length), (24, .slice x.rA x.rs.length x.rcap), (6, .pointer (some ⟨gx, 0, none⟩)), (14, .int .i64 (k : Nat)), (13, .int .i64 c.length), (12, .slice A c.length cap), (4, .pointer (some ⟨gb, 0, none⟩))]) (fun z => bdP gb (.pointer (some ⟨gb, 0, none⟩)) z.A z.cap (Zu (c.map ClM.clm) k ++ clT x.clm z.i) [clA gx x]) (fun z => z.i ≤ x.rs.length) (fun z => x.rs.length - z.i) ⟨0, A2, cap2⟩ (Nat.zero_le _) ?_ ?_ ?_
    · exact zu
    · have e0 : clT x.clm 0 = XP wordF [x.flow] := by unfold clT; simp; rfl
      rw [e0]
      unfold bdP
      exact fun w hw => hw
    rintro ⟨j, A3, cap3⟩ hj K2 hK2
    dsimp only at hj ⊢
    have hcl2 := YcH hxd j (by rw [hlen1]; exact hj)
    unfold bdP
    by_cases hjl : j < x.rs.length
    rotate_left
    · obtain rfl : j = x.rs.length := by omega
      clear hK2
      have hst : Zu (c.map ClM.clm) (k + 1) = Zu (c.map ClM.clm) k ++ clT x.clm x.rs.length := by
        rw [Yby (x := x.clm) (by rw [List.getElem?_map, hx]; rfl), hlen1]
      rw [← hst]
      repeat' (first | refine zgd ?_ | (refine zge ?_ ?_ <;> intro _ <;> try (exfalso; omega)) | fail)
      apply hK ⟨k + 1, A3, cap3⟩
      · show k + 1 ≤ c.length
        omega
      · dsimp only; omega
      · exact zu
      · dsimp only
        rw [if_neg (Nat.succ_ne_zero k)]
        unfold bdP
        exact zk
    obtain ⟨r, hr⟩ : ∃ r, x.rs[j]? = some r := ⟨_, List.getElem?_eq_getElem hjl⟩
    obtain ⟨z, hz⟩ : ∃ z, x.ss[j]? = some z := ⟨_, List.getElem?_eq_getElem (by omega)⟩
    obtain ⟨bv, hbv⟩ : ∃ b, x.bs[j]? = some b := ⟨_, List.getElem?_eq_getElem (by omega)⟩
    obtain ⟨wv, hwv⟩ : ∃ b, x.ws[j]? = some b := ⟨_, List.getElem?_eq_getElem (by omega)⟩
    have hrm := List.mem_of_getElem? hr
    have hzm := List.mem_of_getElem? hz
    have hjc : j < x.clm.routes.length := by omega
    have g1 : rtAt x.clm.routes j = r.xs := UD hr
    have g2 : rtAt x.clm.slots j = z.xs := UD hz
    have g3 : x.clm.bounds.getD j 0 = bv := by show x.bs.getD j 0 = bv; rw [List.getD_eq_getElem?_getD, hbv]; rfl
    have g4 : x.clm.worst.getD j 0 = wv := by show x.ws.getD j 0 = wv; rw [List.getD_eq_getElem?_getD, hwv]; rfl
    have n1 := hxd.rs j hjc
    have n2 := hxd.ls j hjc
    have n3 := Ybt hxd hjc
    have hr3 := YgJ hxd hjc
    have hst := YdW x.clm j
    unfold rt3 at hr3 hst
    rw [g1, g2, g3, g4] at hr3 hst
    rw [g1] at n1
    rw [g2] at n2
    rw [g3, g4] at n3
    have m1 := Vr (b := 31) (by decide) n1.2.2
    have m2 := Vr (b := 511) (by decide) n2.2.2
    have m3 := Ycf n3.1 n3.2
    have l1 := fun {H' : List HP} {w : World} (hr : Rd B w0 H' r.A (r.xs.flatMap numF)) (hw : St B w0 H' w) => Ve wordR r.xs m1 (by omega) (by decide) (cap := r.cap) ht hr hw
    have l2 := fun {g : Nat} {cap : Nat} {H' : List HP} {w : World} (hm : blk g (.cells #[.int .i64 bv, .int .i64 wv] 3 (0, 0)) ∈ H') (hw : St B w0 H' w) => Ve wordB [bv, wv] m3 (by show 2 ≤ 100; decide) (by decide) (A := some ⟨g, 0, none⟩) (cap := cap) ht (show Rd B w0 H' _ ([bv, wv].flatMap numF) from Rd.blk hm) hw
    have l3 := fun {H' : List HP} {w : World} (hr : Rd B w0 H' z.A (z.xs.flatMap numF)) (hw : St B w0 H' w) => Ve wordL z.xs m2 (by omega) (by decide) (cap := z.cap) ht hr hw
    obtain ⟨s1, hs1⟩ : ∃ s, XP wordR r.xs = s := ⟨_, rfl⟩
    obtain ⟨s2, hs2⟩ : ∃ s, XP wordB [bv, wv] = s := ⟨_, rfl⟩
    obtain ⟨s3, hs3⟩ : ∃ s, XP wordL z.xs = s := ⟨_, rfl⟩
    rw [hs1] at l1 hr3 hst
    rw [hs2] at l2 hr3 hst
    rw [hs3] at l3 hr3 hst
    rw [List.length_append, List.length_append] at hr3
    have hrr := hxi.rt
    have hbr := hxi.bd
    have hwr := hxi.ws
    have hsr := hxi.st
    repeat' (first | refine zgd ?_ | (refine zge ?_ ?_ <;> intro _ <;> try (exfalso; omega)) | fail)
    apply Ur (.n1 0 (.n1 2 (.n1 3 (.n1 4 (.n1 5 (.n1 6 (.n1 7 (.n1 8 (.n1 9 (.n1 10 (.n1 11 (.n1 15 (.n1 16 (.n1 17 (.n1 18 (.n1 19 (.n2 1 (.n1 12 (.n1 13 (.n1 14 (.n1 20 (.n1 21 .done))))) 12 (.n1 1 (.n1 13 (.n1 14 (.n1 20 (.n1 21 .done)))))))))))))))))))))) [22] [false, false, true]
    kernel_rfl
    kernel_rfl
    exact zy
    (simp only [Yl, nthO]; rfl)
    repeat' (first | (apply Yi; (repeat (first | with_reducible exact Yh | (with_reducible apply Yd; (repeat (first | with_reducible exact Ye | with_reducible apply Yc)))))) | apply (zs91 ?_ ?_) | (apply Yo; (repeat (first | with_reducible exact Yh | (with_reducible apply Yd; (repeat (first | with_reducible exact Ye | with_reducible apply Yc)))))) | refine zgd ?_ | (refine zgh ?_; intro _) | fail)
    all_goals (
      first | apply Ya en77 | apply Yb en77
      exact za
      exact rfl
      exact fun _ hw => (l1 ((hxi.rw_ r hrm).mono zk) hw)
      repeat' (first | (apply Yi; (repeat (first | with_reducible exact Yh | (with_reducible apply Yd; (repeat (first | with_reducible exact Ye | with_reducible apply Yc)))))) | (apply Yo; (repeat (first | with_reducible exact Yh | (with_reducible apply Yd; (repeat (first | with_reducible exact Ye | with_reducible apply Yc)))))) | refine zgd ?_ | (refine zgh ?_; intro _) | fail)
      first | apply Ya en77 | apply Yb en77
      exact za
      exact rfl
      exact fun _ hw => (l2 zm hw)
      repeat' (first | (apply VR s1 s2; exact rfl; exact rfl; exact rfl; omega) | (apply Yi; (repeat (first | with_reducible exact Yh | (with_reducible apply Yd; (repeat (first | with_reducible exact Ye | with_reducible apply Yc)))))) | (apply Yo; (repeat (first | with_reducible exact Yh | (with_reducible apply Yd; (repeat (first | with_reducible exact Ye | with_reducible apply Yc)))))) | refine zgd ?_ | fail)
      first | apply Ya en77 | apply Yb en77
      exact za
      exact rfl
      exact fun _ hw => (l3 ((hxi.sw z hzm).mono zk) hw)
      repeat' (first | (apply VR (s1 ++ s2) s3; exact rfl; exact rfl; exact rfl; (rw [List.length_append]; omega)) | (apply Yi; (repeat (first | with_reducible exact Yh | (with_reducible apply Yd; (repeat (first | with_reducible exact Ye | with_reducible apply Yc)))))) | (apply Yo; (repeat (first | with_reducible exact Yh | (with_reducible apply Yd; (repeat (first | with_reducible exact Ye | with_reducible apply Yc)))))) | refine zgd ?_ | fail)
      apply Ybq (bdP gb (.pointer (some ⟨gb, 0, none⟩)) A3 cap3 (Zu (c.map ClM.clm) k ++ clT x.clm j) [clA gx x])
      · unfold bdP
        exact zk
      apply Yr _ en76
      exact za
      exact rfl
      exact fun _ hw => (VE gb _ (.inr rfl) A3 cap3 (Zu (c.map ClM.clm) k ++ clT x.clm j) (s1 ++ s2 ++ s3) (by rw [List.length_append, List.length_append, List.length_append]; omega) (hw))
      rintro _ _ ⟨rfl, A4, cap4, rfl⟩
      repeat' (first | refine zgd ?_ | fail)
      apply hK2 ⟨j + 1, A4, cap4⟩
      · show j + 1 ≤ x.rs.length
        omega
      · dsimp only; omega
      · exact zu
      · dsimp only
        intro w hw
        rw [hst, show Zu (c.map ClM.clm) k ++ (clT x.clm j ++ (s1 ++ s2 ++ s3)) = Zu (c.map ClM.clm) k ++ clT x.clm j ++ (s1 ++ s2 ++ s3) from (List.append_assoc _ _ _).symm]
        exact hw)
theorem Yd4 (c : List ClM) {A : Option Addr} {cap B : Nat} {w0 : World} {H : List HP} {w : World} (ht : TabsB B w0) (hc : CIn B w0 H A c) (hw : St B w0 H w) :
    Calls Tryz.prog 25 [.slice A c.length cap].toArray w (Post B w0 fun v K => v = .tuple #[strV (Uj (c.map ClM.clm)).1, .int .i64 (Uj (c.map ClM.clm)).2] ∧ K = H) :=
  Ou hw (Yg6 c (ht.here hw) (hc.here hw) (St.start w))
end Go.Proofs.YtmalhidldgfeoaaGreatDoor
namespace Go.Eng
open Go.RowKit
section
variable {P : Program} {B : Nat} {w0 : World} {Q : Exit → Act → World → Prop} {env : Env} {H : List HP} {m : Mode} {n : Shp} {ops : Array Oper} {rest : List Oper} {d : Nat} {ty : TypeId} {pos : String} {after : Array Edge}
theorem YE {t : Nat} {x y : Operand} {u v z : Value} (hx : evo env x = some u) (hy : evo env y = some v) (hn : Nat.ble (d + 1) n.k = true) (hr : ∀ w, (Instr.index t u v).run P w = .ok z w) (h : VL P m n B w0 ops Q rest ((d, z) :: env) H) :
    VL P m n B w0 ops Q (⟨some d, .index t x y, ty, pos, after, none⟩ :: rest) env H := by
  refine Yw rfl rfl hn rfl (fun a w ha hw => ?_) h
  simp [execOp, ha.eval hx, ha.eval hy, hr]
theorem YI {t f : Nat} {x : Operand} {u z : Value} (hx : evo env x = some u) (hn : Nat.ble (d + 1) n.k = true) (hr : ∀ w, (Instr.field t u f).run P w = .ok z w) (h : VL P m n B w0 ops Q rest ((d, z) :: env) H) :
    VL P m n B w0 ops Q (⟨some d, .field t x f, ty, pos, after, none⟩ :: rest) env H := by
  refine Yw rfl rfl hn rfl (fun a w ha hw => ?_) h
  simp [execOp, ha.eval hx, hr]
end
end Go.Eng
namespace Go.Proofs.YtmalhidldgfeoaaGreatDoor
open Go.RowKit Go.Eng Go.Nw Go.Rt
def Yjr (k : Nat) : Value := .agg #[strV (XO k), .int .i64 (JN k : Nat), .int .i64 (Uf k : Nat), .int .i64 (Xd k : Nat)]
def JK : Value := .agg #[.string ⟨#[102, 108, 111, 119]⟩, .int .i64 1, .int .i64 1, .int .i64 3, .string ⟨#[114, 111, 117, 116, 101]⟩, .int .i64 2, .int .i64 9, .int .i64 0, .string ⟨#[98, 111, 117, 110, 100]⟩, .int .i64 2, .int .i64 2, .int .i64 1, .string ⟨#[115, 108, 111, 116, 115]⟩, .int .i64 1, .int .i64 64, .int .i64 2]
theorem OQ {B : Nat} {w0 : World} {H : List HP} {w : World} (hw : St B w0 H w) :
    Calls Tryz.prog 142 ([] : List Value).toArray w (Post B w0 fun v K => v = JK ∧ K = H) := by
  refine Yf Tryz.func142 Tryz.ntmps142 rfl rfl hw ?_
  repeat' (first | refine zgd ?_ | (refine zgh ?_; intro _) | fail)
  (apply YdD T (H2 := H); exact rfl; exact rfl; exact zm; exact rfl; exact rfl; exact zk; exact ⟨rfl, rfl⟩)
theorem YhL (w : World) : (Instr.index 213 JK (.int .i64 0)).run Tryz.prog w = .ok (.agg #[.string ⟨#[102, 108, 111, 119]⟩, .int .i64 1, .int .i64 1, .int .i64 3]) w := by kernel_rfl
theorem YhM (w : World) : (Instr.index 213 JK (.int .i64 1)).run Tryz.prog w = .ok (.agg #[.string ⟨#[114, 111, 117, 116, 101]⟩, .int .i64 2, .int .i64 9, .int .i64 0]) w := by kernel_rfl
theorem YhN (w : World) : (Instr.index 213 JK (.int .i64 2)).run Tryz.prog w = .ok (.agg #[.string ⟨#[98, 111, 117, 110, 100]⟩, .int .i64 2, .int .i64 2, .int .i64 1]) w := by kernel_rfl
theorem YhO (w : World) : (Instr.index 213 JK (.int .i64 3)).run Tryz.prog w = .ok (.agg #[.string ⟨#[115, 108, 111, 116, 115]⟩, .int .i64 1, .int .i64 64, .int .i64 2]) w := by kernel_rfl
theorem Xb {k : Nat} (hk : k < 4) (w : World) : (Instr.index 213 JK (.int .i64 (k : Nat))).run Tryz.prog w = .ok (Yjr k) w := by
  match k, hk with
  | 0, _ => exact YhL w
  | 1, _ => exact YhM w
  | 2, _ => exact YhN w
  | 3, _ => exact YhO w
theorem Ybk (w : World) : (Instr.field 212 (.agg #[.string ⟨#[102, 108, 111, 119]⟩, .int .i64 1, .int .i64 1, .int .i64 3]) 3).run Tryz.prog w = .ok (.int .i64 3) w := by kernel_rfl
theorem Ybl (w : World) : (Instr.field 212 (.agg #[.string ⟨#[114, 111, 117, 116, 101]⟩, .int .i64 2, .int .i64 9, .int .i64 0]) 3).run Tryz.prog w = .ok (.int .i64 0) w := by kernel_rfl
theorem Ybm (w : World) : (Instr.field 212 (.agg #[.string ⟨#[98, 111, 117, 110, 100]⟩, .int .i64 2, .int .i64 2, .int .i64 1]) 3).run Tryz.prog w = .ok (.int .i64 1) w := by kernel_rfl
theorem Ybn (w : World) : (Instr.field 212 (.agg #[.string ⟨#[115, 108, 111, 116, 115]⟩, .int .i64 1, .int .i64 64, .int .i64 2]) 3).run Tryz.prog w = .ok (.int .i64 2) w := by kernel_rfl
theorem YJ {k : Nat} (hk : k < 4) (w : World) : (Instr.field 212 (Yjr k) 3).run Tryz.prog w = .ok (.int .i64 (Xd k : Nat)) w := by
  match k, hk with
  | 0, _ => exact Ybk w
  | 1, _ => exact Ybl w
  | 2, _ => exact Ybm w
  | 3, _ => exact Ybn w
abbrev rdrA (g : Nat) (A : Option Addr) (cap : Nat) (C : List ClM) (last : Nat) : HP := blk g (.cells #[.slice A C.length cap, .int .i64 (last : Nat)] 144 (0, 0))
set_option maxRecDepth 10000 in
set_option maxHeartbeats 4000000 in
theorem Yhc (g : Nat) (A : Option Addr) (cap : Nat) (C : List ClM) (last k : Nat) (hk : k < 4) (hl3 : last < 4) (hC : C.length ≤ 1000000) (hCr : ∀ c ∈ C, c.rs.length ≤ 1000000) {B : Nat} {w0 : World} {H : List HP} {w : World} (hm : rdrA g A cap C last ∈ H) (hr : Rd B w0 H A (C.flatMap clF)) (hw : St B w0 H w) :
    Calls Tryz.prog 144 [.pointer (some ⟨g, 0, none⟩), .int .i64 (k : Nat)].toArray w (Post B w0 fun v K => v = .bool (Z3 ⟨C.map ClM.clm, last⟩ k) ∧ K = H) := by
  refine Yf Tryz.func144 Tryz.ntmps144 rfl rfl hw ?_
  have p1 := fun {w : World} (hw : St B w0 H w) => OQ hw
  obtain ⟨F, hF⟩ : ∃ F, Z3 ⟨C.map ClM.clm, last⟩ k = F := ⟨_, rfl⟩
  rw [hF]
  have hFe : F = (decide (last = Xd k) || (decide (k = 1) && decide (last = 3) && decide (0 < C.length) && decide ((OH (C.map ClM.clm)).routes.length < 2))) := by
    rw [← hF]; unfold Z3; simp only [List.length_map]
  clear hF
  cases hsec : (decide (k = 1) && decide (last = 3) && decide (0 < C.length) && decide ((OH (C.map ClM.clm)).routes.length < 2)) with
  | true =>
    rw [hsec, Bool.or_true] at hFe
    subst hFe
    simp only [Bool.and_eq_true, decide_eq_true_eq] at hsec
    obtain ⟨⟨⟨h1, h2⟩, h3⟩, h4⟩ := hsec
    obtain ⟨x, hx⟩ : ∃ x, C[C.length - 1]? = some x := ⟨_, List.getElem?_eq_getElem (by omega)⟩
    have hx2 : C[((C.length : Int) - 1).toNat]? = some x := by rw [show ((C.length : Int) - 1).toNat = C.length - 1 by omega]; exact hx
    have h5 : x.rs.length < 2 := by
      unfold OH at h4
      rw [List.length_map, Jb hx] at h4
      have : x.clm.routes.length = x.rs.length := by show (x.rs.map (·.xs)).length = _; rw [List.length_map]
      omega
    by_cases hb : last = Xd k
    all_goals (
      repeat' (first | refine zgd ?_ | (refine zgf ?_ ?_ <;> intro _ <;> try (exfalso; omega)) | fail)
      apply YN [0, 1, 2, 3, 5, 4, 6, 7, 8, 9, 10, 11, 12] []
      kernel_rfl
      kernel_rfl
      (simp only [Yl, nthO]; rfl)
      exact rfl
      repeat' (first | refine zgd ?_ | fail)
      first | apply Ya Z1 | apply Yb Z1
      exact za
      exact rfl
      exact fun _ hw => (p1 hw)
      repeat' (first | (apply YE; exact rfl; exact rfl; exact rfl; exact Xb hk) | (apply YI; exact rfl; exact rfl; exact YJ hk) | (apply Yi; (repeat (first | with_reducible exact Yh | (with_reducible apply Yd; (repeat (first | with_reducible exact Ye | with_reducible apply Yc)))))) | refine zgd ?_ | (refine zgf ?_ ?_ <;> intro _ <;> try (exfalso; omega)) | fail)
      · show Perm H (H ++ [])
        rw [List.append_nil]; exact Perm.refl _
      repeat' (first | (apply YE; exact rfl; exact rfl; exact rfl; exact Xb hk) | (apply YI; exact rfl; exact rfl; exact YJ hk) | fail)
      apply Yg; exact rfl; exact rfl; exact ⟨rfl, rfl⟩)
  | false =>
    rw [hsec, Bool.or_false] at hFe
    by_cases h1 : k = 1
    rotate_left
    · by_cases hb : last = Xd k
      · rw [decide_eq_true hb] at hFe
        subst hFe
        repeat' (first | refine zgd ?_ | (refine zgf ?_ ?_ <;> intro _ <;> try (exfalso; omega)) | fail)
        apply YN [0, 1, 2, 3, 5, 4, 6, 7, 8, 9, 10, 11, 12] []
        kernel_rfl
        kernel_rfl
        (simp only [Yl, nthO]; rfl)
        exact rfl
        repeat' (first | refine zgd ?_ | fail)
        first | apply Ya Z1 | apply Yb Z1
        exact za
        exact rfl
        exact fun _ hw => (p1 hw)
        repeat' (first | (apply YE; exact rfl; exact rfl; exact rfl; exact Xb hk) | (apply YI; exact rfl; exact rfl; exact YJ hk) | (apply Yi; (repeat (first | with_reducible exact Yh | (with_reducible apply Yd; (repeat (first | with_reducible exact Ye | with_reducible apply Yc)))))) | refine zgd ?_ | (refine zgf ?_ ?_ <;> intro _ <;> try (exfalso; omega)) | fail)
        · show Perm H (H ++ [])
          rw [List.append_nil]; exact Perm.refl _
        repeat' (first | (apply YE; exact rfl; exact rfl; exact rfl; exact Xb hk) | (apply YI; exact rfl; exact rfl; exact YJ hk) | fail)
        apply Yg; exact rfl; exact rfl; exact ⟨rfl, rfl⟩
      · rw [decide_eq_false hb] at hFe
        subst hFe
        repeat' (first | refine zgd ?_ | (refine zgf ?_ ?_ <;> intro _ <;> try (exfalso; omega)) | fail)
        apply YN [0, 1, 2, 3, 5, 4, 6, 7, 8, 9, 10, 11, 12] []
        kernel_rfl
        kernel_rfl
        (simp only [Yl, nthO]; rfl)
        exact rfl
        repeat' (first | refine zgd ?_ | fail)
        first | apply Ya Z1 | apply Yb Z1
        exact za
        exact rfl
        exact fun _ hw => (p1 hw)
        repeat' (first | (apply YE; exact rfl; exact rfl; exact rfl; exact Xb hk) | (apply YI; exact rfl; exact rfl; exact YJ hk) | (apply Yi; (repeat (first | with_reducible exact Yh | (with_reducible apply Yd; (repeat (first | with_reducible exact Ye | with_reducible apply Yc)))))) | refine zgd ?_ | (refine zgf ?_ ?_ <;> intro _ <;> try (exfalso; omega)) | fail)
        · show Perm H (H ++ [])
          rw [List.append_nil]; exact Perm.refl _
        repeat' (first | (apply YE; exact rfl; exact rfl; exact rfl; exact Xb hk) | (apply YI; exact rfl; exact rfl; exact YJ hk) | fail)
        apply Yg; exact rfl; exact rfl; exact ⟨rfl, rfl⟩
    by_cases h2 : last = 3
    rotate_left
    · by_cases hb : last = Xd k
      · rw [decide_eq_true hb] at hFe
        subst hFe
        repeat' (first | refine zgd ?_ | (refine zgf ?_ ?_ <;> intro _ <;> try (exfalso; omega)) | fail)
        apply YN [0, 1, 2, 3, 5, 4, 6, 7, 8, 9, 10, 11, 12] []
        kernel_rfl
        kernel_rfl
        (simp only [Yl, nthO]; rfl)
        exact rfl
        repeat' (first | refine zgd ?_ | fail)
        first | apply Ya Z1 | apply Yb Z1
        exact za
        exact rfl
        exact fun _ hw => (p1 hw)
        repeat' (first | (apply YE; exact rfl; exact rfl; exact rfl; exact Xb hk) | (apply YI; exact rfl; exact rfl; exact YJ hk) | (apply Yi; (repeat (first | with_reducible exact Yh | (with_reducible apply Yd; (repeat (first | with_reducible exact Ye | with_reducible apply Yc)))))) | refine zgd ?_ | (refine zgf ?_ ?_ <;> intro _ <;> try (exfalso; omega)) | fail)
        · show Perm H (H ++ [])
          rw [List.append_nil]; exact Perm.refl _
        repeat' (first | (apply YE; exact rfl; exact rfl; exact rfl; exact Xb hk) | (apply YI; exact rfl; exact rfl; exact YJ hk) | fail)
        apply Yg; exact rfl; exact rfl; exact ⟨rfl, rfl⟩
      · rw [decide_eq_false hb] at hFe
        subst hFe
        repeat' (first | refine zgd ?_ | (refine zgf ?_ ?_ <;> intro _ <;> try (exfalso; omega)) | fail)
        apply YN [0, 1, 2, 3, 5, 4, 6, 7, 8, 9, 10, 11, 12] []
        kernel_rfl
        kernel_rfl
        (simp only [Yl, nthO]; rfl)
        exact rfl
        repeat' (first | refine zgd ?_ | fail)
        first | apply Ya Z1 | apply Yb Z1
        exact za
        exact rfl
        exact fun _ hw => (p1 hw)
        repeat' (first | (apply YE; exact rfl; exact rfl; exact rfl; exact Xb hk) | (apply YI; exact rfl; exact rfl; exact YJ hk) | (apply Yi; (repeat (first | with_reducible exact Yh | (with_reducible apply Yd; (repeat (first | with_reducible exact Ye | with_reducible apply Yc)))))) | refine zgd ?_ | (refine zgf ?_ ?_ <;> intro _ <;> try (exfalso; omega)) | fail)
        · show Perm H (H ++ [])
          rw [List.append_nil]; exact Perm.refl _
        repeat' (first | (apply YE; exact rfl; exact rfl; exact rfl; exact Xb hk) | (apply YI; exact rfl; exact rfl; exact YJ hk) | fail)
        apply Yg; exact rfl; exact rfl; exact ⟨rfl, rfl⟩
    have hb : ¬ last = Xd k := by subst h1; subst h2; decide
    rw [decide_eq_false hb] at hFe
    subst hFe
    by_cases h3 : 0 < C.length
    rotate_left
    · repeat' (first | refine zgd ?_ | (refine zgf ?_ ?_ <;> intro _ <;> try (exfalso; omega)) | fail)
      apply YN [0, 1, 2, 3, 5, 4, 6, 7, 8, 9, 10, 11, 12] []
      kernel_rfl
      kernel_rfl
      (simp only [Yl, nthO]; rfl)
      exact rfl
      repeat' (first | refine zgd ?_ | fail)
      first | apply Ya Z1 | apply Yb Z1
      exact za
      exact rfl
      exact fun _ hw => (p1 hw)
      repeat' (first | (apply YE; exact rfl; exact rfl; exact rfl; exact Xb hk) | (apply YI; exact rfl; exact rfl; exact YJ hk) | (apply Yi; (repeat (first | with_reducible exact Yh | (with_reducible apply Yd; (repeat (first | with_reducible exact Ye | with_reducible apply Yc)))))) | refine zgd ?_ | (refine zgf ?_ ?_ <;> intro _ <;> try (exfalso; omega)) | fail)
      · show Perm H (H ++ [])
        rw [List.append_nil]; exact Perm.refl _
      repeat' (first | (apply YE; exact rfl; exact rfl; exact rfl; exact Xb hk) | (apply YI; exact rfl; exact rfl; exact YJ hk) | fail)
      apply Yg; exact rfl; exact rfl; exact ⟨rfl, rfl⟩
    obtain ⟨x, hx⟩ : ∃ x, C[C.length - 1]? = some x := ⟨_, List.getElem?_eq_getElem (by omega)⟩
    have hx2 : C[((C.length : Int) - 1).toNat]? = some x := by rw [show ((C.length : Int) - 1).toNat = C.length - 1 by omega]; exact hx
    rw [decide_eq_true h1, decide_eq_true h2, decide_eq_true h3, Bool.true_and, Bool.true_and, Bool.true_and] at hsec
    have h4 := of_decide_eq_false hsec
    have h5 : ¬ x.rs.length < 2 := by
      unfold OH at h4
      rw [List.length_map, Jb hx] at h4
      have : x.clm.routes.length = x.rs.length := by show (x.rs.map (·.xs)).length = _; rw [List.length_map]
      omega
    have h6 := hCr x (List.mem_of_getElem? hx)
    repeat' (first | refine zgd ?_ | (refine zgf ?_ ?_ <;> intro _ <;> try (exfalso; omega)) | fail)
    apply YN [0, 1, 2, 3, 5, 4, 6, 7, 8, 9, 10, 11, 12] []
    kernel_rfl
    kernel_rfl
    (simp only [Yl, nthO]; rfl)
    exact rfl
    repeat' (first | refine zgd ?_ | fail)
    first | apply Ya Z1 | apply Yb Z1
    exact za
    exact rfl
    exact fun _ hw => (p1 hw)
    repeat' (first | (apply YE; exact rfl; exact rfl; exact rfl; exact Xb hk) | (apply YI; exact rfl; exact rfl; exact YJ hk) | (apply Yi; (repeat (first | with_reducible exact Yh | (with_reducible apply Yd; (repeat (first | with_reducible exact Ye | with_reducible apply Yc)))))) | refine zgd ?_ | (refine zgf ?_ ?_ <;> intro _ <;> try (exfalso; omega)) | fail)
    · show Perm H (H ++ [])
      rw [List.append_nil]; exact Perm.refl _
    repeat' (first | (apply YE; exact rfl; exact rfl; exact rfl; exact Xb hk) | (apply YI; exact rfl; exact rfl; exact YJ hk) | fail)
    apply Yg; exact rfl; exact rfl; exact ⟨rfl, rfl⟩
end Go.Proofs.YtmalhidldgfeoaaGreatDoor
namespace Go.Eng
open Go.RowKit
inductive OW where
  | done
  | z (i : Nat) (t : OW)
  | s (i : Nat) (t : OW)
  | e1 (i : Nat) (t : OW)
  | e2 (i : Nat) (t : OW) (j : Nat) (u : OW)
section
variable {P : Program} {n : Shp} {B : Nat} {w0 : World} {Q : Exit → Act → World → Prop} {env : Env} {H : List HP} {ops : Array Oper}
def Jx (P : Program) (ops : Array Oper) (Q : Exit → Act → World → Prop) (T : Nat → World → Prop) : Nat → Array Bool → Act → World → Prop
  | 0, listed, a, w => Region.ready .any ops listed = [] ∧ Q .normal a w
  | fuel + 1, listed, a, w =>
    (Region.ready .any ops listed = [] → Q .normal a w) ∧
    ∀ i ∈ Region.ready .any ops listed, wpOp P ops Q i (fun a' w' => T i w' ∧ Jx P ops Q T fuel (listed.setIfInBounds i true) a' w') a w
theorem YaZ {T : Nat → World → Prop} : ∀ (fuel : Nat) (listed : Array Bool) (a : Act) (w : World), Jx P ops Q T fuel listed a w → wpAny P .any ops Q fuel listed a w
  | 0, _, _, _, h => h
  | fuel + 1, _, _, _, h => ⟨h.1, fun i hi => wpOp_mono (fun a' w' h' => YaZ fuel _ a' w' h'.2) (h.2 i hi)⟩
theorem WL {S : World → Prop} {T : Nat → World → Prop} {i : Nat} {oi : Oper} {v : Value} (hi : ops[i]? = some oi) (hsel : ∀ (j : Nat) (o : Oper) cs b, ops[j]? = some o → o.op ≠ .select cs b)
    (hQ : ∀ c (a : Act) (w : World), ¬ Q (.panic c) a w) :
    ∀ (fuel : Nat) (listed : Array Bool) (a : Act) (w : World), Closed ops listed → (∀ j, (∀ w, T j w → S w) ∨ listed.getD j false = true ∨ ∃ f, ancB ops f j i = true) →
      (∀ j oj, ops[j]? = some oj → j ≠ i → listed.getD j true = false → (∀ e ∈ oj.after, Region.binds .any e = true → e.on ≠ i) → oi.apart ops oj = true) →
      i ∈ Region.ready .any ops listed → YieldsIf P ops S oi v a → S w → T i w → (∀ w j, S w → T j w → T i w) →
      Jx P ops Q T fuel (listed.setIfInBounds i true) (a.put oi.dst v) w → Jx P ops Q T (fuel + 1) listed a w := by
  intro fuel
  induction fuel with
  | zero =>
    intro listed a w _ _ _ hr hy hS hT _ H
    refine ⟨fun h => (by rw [h] at hr; cases hr), fun j hj => ?_⟩
    by_cases hji : j = i
    · subst hji; exact hy.wpOp hi hS ⟨hT, H⟩
    · have := ready_mono hj hji
      rw [H.1] at this
      cases this
  | succ fuel ih =>
    intro listed a w hcl hlast hfree hr hy hS hT hTT H
    refine ⟨fun h => (by rw [h] at hr; cases hr), fun j hj => ?_⟩
    by_cases hji : j = i
    · subst hji; exact hy.wpOp hi hS ⟨hT, H⟩
    · have h1 := H.2 j (ready_mono hj hji)
      obtain ⟨hjun, oj, hoj, hall⟩ := mem_ready.1 hj
      have hun := (mem_ready.1 hr).1
      have hun' : listed.getD i false = false := by
        rcases Nat.lt_or_ge i listed.size with h' | h'
        · simp [h'] at hun ⊢; exact hun
        · simp [Array.getElem?_eq_none h'] at hun
      have hTS : ∀ w, T j w → S w := by
        rcases hlast j with h4 | h4 | ⟨f, hf⟩
        · exact h4
        · have h5 : listed.getD j true = true := by
            rcases Nat.lt_or_ge j listed.size with h' | h'
            · simp [h'] at h4 ⊢; exact h4
            · simp [Array.getElem?_eq_none h']
          rw [h5] at hjun; cases hjun
        · have := UU hcl f j i (fun ok hk e he hb => by
            obtain rfl : ok = oj := Option.some.inj (hk.symm.trans hoj)
            exact hall e he hb) hf
          rw [hun'] at this
          cases this
      have hnot : ∀ e ∈ oj.after, Region.binds .any e = true → e.on ≠ i := fun e he hb heq => by
        have h2 := hall e he hb
        rw [heq, hun'] at h2
        cases h2
      have h2 := wpOp_putIf hoj (hfree j oj hoj hji hjun hnot) (fun cs b => hsel i oi cs b hi) (fun cs b => hsel j oj cs b hoj) (fun c a w h => (hQ c _ w h).elim) hy h1
      have hfree' : ∀ k ok, ops[k]? = some ok → k ≠ i → (listed.setIfInBounds j true).getD k true = false →
          (∀ e ∈ ok.after, Region.binds .any e = true → e.on ≠ i) → oi.apart ops ok = true := fun k ok hk hki hu hno => by
        refine hfree k ok hk hki ?_ hno
        by_cases hjk : j = k
        · subst hjk; exact hjun
        · rw [getD_set_ne true hjk] at hu; exact hu
      refine wpOp_mono (fun a' w' h3 => ⟨h3.2.1, ih (listed.setIfInBounds j true) a' w' (hcl.set hj) (fun k => ?_) hfree' (ready_mono hr (Ne.symm hji)) h3.1 (hTS w' h3.2.1) (hTT w' j (hTS w' h3.2.1) h3.2.1) hTT ?_⟩) h2
      · rcases hlast k with h4 | h4 | h4
        · exact .inl h4
        · right; left
          by_cases hjk : j = k
          · subst hjk
            rcases Nat.lt_or_ge j listed.size with h' | h'
            · simp [h']
            · simp [Array.getElem?_eq_none h'] at hjun
          · rw [getD_set_ne false hjk]; exact h4
        · exact .inr (.inr h4)
      · rw [Array.setIfInBounds_comm _ _ hji]
        exact h3.2.2
theorem Um {T : Nat → World → Prop} (l : List Oper) (hl : ops = l.toArray) (hlo : ¬ LetsOut Q) :
    ∀ (o2 : List Nat) (listed : Array Bool) (a : Act) (w : World), (∀ j ∈ o2, (∃ o, ops[j]? = some o) ∧ ∀ w, T j w) → ZH ops o2 listed = true → wpList P ops Q (Yl l o2) a w → Jx P ops Q T o2.length listed a w
  | [], listed, a, w, _, hB, h => ⟨by simpa [ZH] using hB, h⟩
  | i :: rest, listed, a, w, hin, hB, h => by
    simp only [ZH, Bool.and_eq_true, decide_eq_true_eq] at hB
    obtain ⟨h1, h2⟩ := hB
    obtain ⟨⟨o, ho⟩, hT⟩ := hin i (by simp)
    have hget : nthO l i = o := YP hl ho
    simp only [Yl, hget] at h
    unfold wpList at h
    refine ⟨fun h0 => (by rw [h1] at h0; cases h0), fun k hk => ?_⟩
    rw [h1] at hk
    obtain rfl : k = i := by simpa using hk
    unfold wpOp
    simp only [ho]
    by_cases hw : Region.wanted o (yielded ops a.tmps) = true
    · rw [if_pos hw] at h ⊢
      rcases h with h | ⟨_, h⟩
      · exact .inl (Oper.wp_mono (fun a' w' h' => ⟨hT w', Um l hl hlo rest _ a' w' (fun j hj => hin j (by simp [hj])) h2 h'⟩) h)
      · exact (hlo h).elim
    · rw [if_neg hw] at h ⊢
      exact ⟨hT w, Um l hl hlo rest _ _ w (fun j hj => hin j (by simp [hj])) h2 h⟩
def Ya0 (P : Program) (ops : Array Oper) (l : List Oper) (Q : Exit → Act → World → Prop) (S0 : World → Prop) : List Nat → Act → World → Prop
  | [], a, w => Q .normal a w
  | i :: r, a, w => wpD P ops (fun a w => S0 w ∧ Ya0 P ops l Q S0 r a w) (nthO l i) a w
theorem Yg8 {T : Nat → World → Prop} {K : Act → World → Prop} {i k : Nat} {o : Oper} {listed : Array Bool} {a : Act} {w : World} (ho : ops[i]? = some o)
    (h : wpD P ops K o a w) (hk : ∀ a w, K a w → T i w ∧ Jx P ops Q T k (listed.setIfInBounds i true) a w) :
    wpOp P ops Q i (fun a' w' => T i w' ∧ Jx P ops Q T k (listed.setIfInBounds i true) a' w') a w := by
  unfold wpD at h
  unfold wpOp
  simp only [ho]
  by_cases hw : Region.wanted o (yielded ops a.tmps) = true
  · rw [if_pos hw] at h ⊢
    exact .inl (Oper.wp_mono_noQ (fun _ _ _ h => h) (by rintro ⟨_, _, h⟩; exact h) (Oper.wp_mono (fun a' w' h' => hk a' w' h') h))
  · rw [if_neg hw] at h ⊢
    exact hk _ w h
theorem Yar {S0 : World → Prop} {T : Nat → World → Prop} {tail : List Nat} (l : List Oper) (hl : ops = l.toArray) (hlo : ¬ LetsOut Q) (ht : ∀ j ∈ tail, (∃ o, ops[j]? = some o) ∧ ∀ w, T j w) :
    ∀ (mid : List Nat) (listed : Array Bool) (a : Act) (w : World), (∀ j ∈ mid, (∃ o, ops[j]? = some o) ∧ ∀ w, S0 w → T j w) → ZH ops (mid ++ tail) listed = true → Ya0 P ops l (X5 P ops Q (Yl l tail)) S0 mid a w → Jx P ops Q T (mid ++ tail).length listed a w
  | [], listed, a, w, _, hB, h => Um l hl hlo tail listed a w ht hB h
  | i :: rest, listed, a, w, hin, hB, h => by
    rw [List.cons_append] at hB
    simp only [ZH, Bool.and_eq_true, decide_eq_true_eq] at hB
    obtain ⟨h1, h2⟩ := hB
    obtain ⟨⟨o, ho⟩, hT⟩ := hin i (by simp)
    have hget : nthO l i = o := YP hl ho
    unfold Ya0 at h
    rw [hget] at h
    refine ⟨fun h0 => (by rw [h1] at h0; cases h0), fun k hk => ?_⟩
    rw [h1] at hk
    obtain rfl : k = i := by simpa using hk
    exact Yg8 ho h fun a w hh => ⟨hT w hh.1, Yar l hl hlo ht rest _ a w (fun j hj => hin j (by simp [hj])) h2 hh.2⟩
def Xg (P : Program) (ops : Array Oper) (l : List Oper) (Q : Exit → Act → World → Prop) (S0 S : World → Prop) (mid : List Nat) : OW → Act → World → Prop
  | .done, a, w => Ya0 P ops l Q S0 mid a w
  | .z i t, a, w => Yu P ops (fun e a w => match e with | .normal => Xg P ops l Q S0 S mid t a w | _ => False) S0 [nthO l i] a w
  | .s i t, a, w => Yu P ops (fun e a w => match e with | .normal => Xg P ops l Q S0 S mid t a w | _ => False) S [nthO l i] a w
  | .e1 i t, a, w => Yu P ops (fun e a w => match e with | .normal => Xg P ops l Q S0 S mid t a w | _ => False) S [nthO l i] a w
  | .e2 i t j u, a, w => Yu P ops (fun e a w => match e with | .normal => Xg P ops l Q S0 S mid t a w | _ => False) S [nthO l i] a w ∧ Yu P ops (fun e a w => match e with | .normal => Xg P ops l Q S0 S mid u a w | _ => False) S [nthO l j] a w
def Yc2 (ops : Array Oper) (listed : Array Bool) (i : Nat) : Bool := match ops[i]? with
  | some o => !eff o && ((Region.ready .any ops listed).contains i && Region.free .any ops listed i)
  | none => false
def Js (ops : Array Oper) (zs mid tail : List Nat) : OW → Array Bool → Nat → Bool
  | .done, listed, 0 => ZH ops (mid ++ tail) listed
  | .z i t, listed, k + 1 => zs.contains i && (tail.all fun j => ancB ops ops.size j i) && Yc2 ops listed i && Js ops zs mid tail t (listed.setIfInBounds i true) k
  | .s i t, listed, k + 1 => ((zs ++ (mid ++ tail)).all fun j => listed.getD j false || ancB ops ops.size j i) && Yc2 ops listed i && Js ops zs mid tail t (listed.setIfInBounds i true) k
  | .e1 i t, listed, k + 1 => Zi ops i && decide (Region.ready .any ops listed = [i]) && Js ops zs mid tail t (listed.setIfInBounds i true) k
  | .e2 i t j u, listed, k + 1 => Zi ops i && Zi ops j && ((Region.ready .any ops listed).all fun x => x == i || x == j) && !(Region.ready .any ops listed).isEmpty && Js ops zs mid tail t (listed.setIfInBounds i true) k && Js ops zs mid tail u (listed.setIfInBounds j true) k
  | _, _, _ => false
def TW (S0 S : World → Prop) (zs mid tail : List Nat) (j : Nat) (w : World) : Prop := (tail.contains j = false → S0 w) ∧ (zs.contains j = false → (mid ++ tail).contains j = false → S w)
theorem WS {S : World → Prop} {T : Nat → World → Prop} {Q1 : Exit → Act → World → Prop} {i k : Nat} {o : Oper} {listed : Array Bool} {a : Act} {w : World} (ho : ops[i]? = some o) (he : eff o = true) (hT : ∀ w, S w → T i w)
    (hQ1 : ∀ e a w, e ≠ .normal → ¬ Q1 e a w) (hS : S w) (h : Yu P ops Q1 S [o] a w)
    (hk : ∀ a w, S w → Q1 .normal a w → Jx P ops Q T k (listed.setIfInBounds i true) a w) :
    wpOp P ops Q i (fun a' w' => T i w' ∧ Jx P ops Q T k (listed.setIfInBounds i true) a' w') a w := by
  unfold Yu at h
  rw [if_pos he] at h
  unfold wpOp
  simp only [ho]
  by_cases hw : Region.wanted o (yielded ops a.tmps) = true
  · rw [if_pos hw] at h ⊢
    refine .inl (Oper.wp_mono_noQ (fun c a w => hQ1 _ a w (by intro h; cases h)) (by rintro ⟨a, w, h⟩; exact hQ1 _ _ _ (by intro h; cases h) h) (Oper.wp_mono (fun a' w' h' => ?_) h))
    exact ⟨hT _ h'.1, hk a' w' h'.1 h'.2⟩
  · rw [if_neg hw] at h ⊢
    exact ⟨hT _ hS, hk _ w hS h⟩
theorem YaA {listed : Array Bool} {i : Nat} (h : Yc2 ops listed i = true) : ∃ o, ops[i]? = some o ∧ eff o = false ∧ i ∈ Region.ready .any ops listed ∧ Region.free .any ops listed i = true := by
  unfold Yc2 at h
  cases ho : ops[i]? with
  | none => rw [ho] at h; cases h
  | some o =>
    rw [ho] at h
    simp only [Bool.and_eq_true, Bool.not_eq_true'] at h
    exact ⟨o, rfl, h.1, by simpa using h.2.1, h.2.2⟩
theorem U3 {i : Nat} (h : Zi ops i = true) : ∃ o, ops[i]? = some o ∧ eff o = true := by
  unfold Zi at h
  cases ho : ops[i]? with
  | none => rw [ho] at h; cases h
  | some o => rw [ho] at h; exact ⟨o, rfl, h⟩
theorem Yav {l : List Nat} {j : Nat} (h : j ∈ l) (h2 : l.contains j = false) : False := by
  rw [List.contains_iff_mem.2 h] at h2; cases h2
theorem X9 {S0 S : World → Prop} {zs mid tail : List Nat} (hss : ∀ w, S w → S0 w) (hs : Region.noSelect ops = true) (hQ : ∀ c (a : Act) (w : World), ¬ Q (.panic c) a w) (hlo : ¬ LetsOut Q) (l : List Oper) (hl : ops = l.toArray)
    (hin : ∀ j ∈ mid ++ tail, ∃ o, ops[j]? = some o) :
    ∀ (t : OW) (k : Nat) (listed : Array Bool) (a : Act) (w : World), Closed ops listed → Js ops zs mid tail t listed k = true → S w → Xg P ops l (X5 P ops Q (Yl l tail)) S0 S mid t a w →
      Jx P ops Q (TW S0 S zs mid tail) (k + (mid ++ tail).length) listed a w
  | .done, 0, listed, a, w, _, hB, _, h => by
    rw [Nat.zero_add]
    exact Yar l hl hlo (fun j hj => ⟨hin j (List.mem_append_right _ hj), fun w => ⟨fun h => (Yav hj h).elim, fun _ h => (Yav (List.mem_append_right mid hj) h).elim⟩⟩) mid listed a w (fun j hj => ⟨hin j (List.mem_append_left _ hj), fun w h0 => ⟨fun _ => h0, fun _ h => (Yav (List.mem_append_left tail hj) h).elim⟩⟩) hB h
  | .done, _ + 1, _, _, _, _, hB, _, _ => by cases hB
  | .z _ _, 0, _, _, _, _, hB, _, _ => by cases hB
  | .s _ _, 0, _, _, _, _, hB, _, _ => by cases hB
  | .e1 _ _, 0, _, _, _, _, hB, _, _ => by cases hB
  | .e2 _ _ _ _, 0, _, _, _, _, hB, _, _ => by cases hB
  | .z i t, k + 1, listed, a, w, hcl, hB, hS, h => by
    simp only [Js, Bool.and_eq_true] at hB
    obtain ⟨⟨⟨b1, b2⟩, b3⟩, b4⟩ := hB
    obtain ⟨o, ho, he, hr, hf⟩ := YaA b3
    unfold Xg at h
    rw [YP hl ho] at h
    unfold Yu at h
    rw [if_neg (by rw [he]; simp)] at h
    obtain ⟨v, hy, h3⟩ := h
    rw [Nat.add_right_comm]
    refine WL (S := S0) ho (Region.noSelect_spec hs) hQ _ listed a w hcl (fun j => ?_) (Region.free_spec ho hf) hr hy (hss w hS) ⟨fun _ => hss w hS, fun h => (by rw [b1] at h; cases h)⟩ (fun w j h0 _ => ⟨fun _ => h0, fun h => (by rw [b1] at h; cases h)⟩) (X9 hss hs hQ hlo l hl hin t k _ _ w (hcl.set hr) b4 hS h3)
    cases hj : tail.contains j with
    | false => exact .inl fun w hT => hT.1 hj
    | true => exact .inr (.inr ⟨_, List.all_eq_true.1 b2 j (List.contains_iff_mem.1 hj)⟩)
  | .s i t, k + 1, listed, a, w, hcl, hB, hS, h => by
    simp only [Js, Bool.and_eq_true] at hB
    obtain ⟨⟨b2, b3⟩, b4⟩ := hB
    obtain ⟨o, ho, he, hr, hf⟩ := YaA b3
    unfold Xg at h
    rw [YP hl ho] at h
    unfold Yu at h
    rw [if_neg (by rw [he]; simp)] at h
    obtain ⟨v, hy, h3⟩ := h
    rw [Nat.add_right_comm]
    refine WL (S := S) ho (Region.noSelect_spec hs) hQ _ listed a w hcl (fun j => ?_) (Region.free_spec ho hf) hr hy hS ⟨fun _ => hss w hS, fun _ _ => hS⟩ (fun w j h0 _ => ⟨fun _ => hss w h0, fun _ _ => h0⟩) (X9 hss hs hQ hlo l hl hin t k _ _ w (hcl.set hr) b4 hS h3)
    have hmem : j ∈ zs ++ (mid ++ tail) → listed.getD j false = true ∨ ∃ f, ancB ops f j i = true := fun hj => by
      have := List.all_eq_true.1 b2 j hj
      rw [Bool.or_eq_true] at this
      rcases this with h | h
      · exact .inl h
      · exact .inr ⟨_, h⟩
    cases hj : zs.contains j with
    | true => exact .inr (hmem (List.mem_append_left _ (List.contains_iff_mem.1 hj)))
    | false =>
      cases hj2 : (mid ++ tail).contains j with
      | true => exact .inr (hmem (List.mem_append_right _ (List.contains_iff_mem.1 hj2)))
      | false => exact .inl fun w hT => hT.2 hj hj2
  | .e1 i t, k + 1, listed, a, w, hcl, hB, hS, h => by
    simp only [Js, Bool.and_eq_true, decide_eq_true_eq] at hB
    obtain ⟨⟨b1, b2⟩, b3⟩ := hB
    obtain ⟨o, ho, he⟩ := U3 b1
    unfold Xg at h
    rw [YP hl ho] at h
    rw [Nat.add_right_comm]
    refine ⟨fun h0 => (by rw [b2] at h0; cases h0), fun j hj => ?_⟩
    have hj' := hj
    rw [b2] at hj
    obtain rfl : j = i := by simpa using hj
    exact WS ho he (fun w h => ⟨fun _ => hss w h, fun _ _ => h⟩) (fun e a w hne => by cases e <;> simp_all) hS h fun a w hS' h' => X9 hss hs hQ hlo l hl hin t k _ a w (hcl.set hj') b3 hS' h'
  | .e2 i t j u, k + 1, listed, a, w, hcl, hB, hS, h => by
    simp only [Js, Bool.and_eq_true] at hB
    obtain ⟨⟨⟨⟨⟨b1, b2⟩, b5⟩, b6⟩, b7⟩, b8⟩ := hB
    obtain ⟨o, ho, he⟩ := U3 b1
    obtain ⟨o', ho', he'⟩ := U3 b2
    unfold Xg at h
    rw [YP hl ho, YP hl ho'] at h
    rw [Nat.add_right_comm]
    refine ⟨fun h0 => (by rw [h0] at b6; cases b6), fun x hx => ?_⟩
    have h5 := List.all_eq_true.1 b5 x hx
    simp only [Bool.or_eq_true, beq_iff_eq] at h5
    rcases h5 with rfl | rfl
    · exact WS ho he (fun w h => ⟨fun _ => hss w h, fun _ _ => h⟩) (fun e a w hne => by cases e <;> simp_all) hS h.1 fun a w hS' h' => X9 hss hs hQ hlo l hl hin t k _ a w (hcl.set hx) b7 hS' h'
    · exact WS ho' he' (fun w h => ⟨fun _ => hss w h, fun _ _ => h⟩) (fun e a w hne => by cases e <;> simp_all) hS h.2 fun a w hS' h' => X9 hss hs hQ hlo l hl hin u k _ a w (hcl.set hx) b8 hS' h'
structure VW (P : Program) (n : Shp) (B : Nat) (w0 : World) (ops : Array Oper) (l : List Oper) (Q : Exit → Act → World → Prop) (mid : List Nat) (t : OW) (env : Env) (Hz Hc F : List HP) : Prop where
  run : ∀ a, Fits n a env → ∀ w, St B w0 (Hc ++ F) w → Xg P ops l Q (St B w0 Hz) (St B w0 Hc) mid t a w
structure VM (P : Program) (n : Shp) (B : Nat) (w0 : World) (ops : Array Oper) (l : List Oper) (Q : Exit → Act → World → Prop) (mid : List Nat) (env : Env) (Hz H : List HP) : Prop where
  run : ∀ a, Fits n a env → ∀ w, St B w0 H w → Ya0 P ops l Q (St B w0 Hz) mid a w
def ZW (P : Program) (B : Nat) (w0 : World) (ops : Array Oper) (l : List Oper) (Q : Exit → Act → World → Prop) (mid : List Nat) (Hz Hc : List HP) (t : OW) : Exit → Act → World → Prop
  | .normal, a, w => Xg P ops l Q (St B w0 Hz) (St B w0 Hc) mid t a w
  | _, _, _ => False
def MidQ (P : Program) (B : Nat) (w0 : World) (ops : Array Oper) (l : List Oper) (Q : Exit → Act → World → Prop) (mid : List Nat) (Hz : List HP) : Exit → Act → World → Prop
  | .normal, a, w => St B w0 Hz w ∧ Ya0 P ops l Q (St B w0 Hz) mid a w
  | _, _, _ => False
theorem J7 {l : List Oper} {mid : List Nat} {Hz Hc : List HP} {t : OW} : ZW P B w0 ops l Q mid Hz Hc t = fun e a w => match e with | .normal => Xg P ops l Q (St B w0 Hz) (St B w0 Hc) mid t a w | _ => False := by
  funext e a w
  cases e <;> rfl
theorem VW_z {l : List Oper} {mid : List Nat} {Hz Hc F HF Fz : List HP} {i : Nat} {t : OW} {o : Oper} (ho : nthO l i = o) (happ : App Hc F HF) (hp : Pull Hz HF Fz) (h : VL P (some (some Fz)) n B w0 ops (ZW P B w0 ops l Q mid Hz Hc t) [o] env Hz) : VW P n B w0 ops l Q mid (.z i t) env Hz Hc F := by
  refine ⟨fun a ha w hw => ?_⟩
  rw [← JM happ] at hw
  have h1 : Yu P ops (ZW P B w0 ops l Q mid Hz Hc t) (St B w0 Hz) [o] a w := h.run a ha w (hw.perm hp)
  unfold Xg
  rw [ho, ← J7]
  exact h1
theorem VW_s {l : List Oper} {mid : List Nat} {Hz Hc F : List HP} {i : Nat} {t : OW} {o : Oper} (ho : nthO l i = o) (h : VL P (some (some F)) n B w0 ops (ZW P B w0 ops l Q mid Hz Hc t) [o] env Hc) : VW P n B w0 ops l Q mid (.s i t) env Hz Hc F := by
  refine ⟨fun a ha w hw => ?_⟩
  have h1 : Yu P ops (ZW P B w0 ops l Q mid Hz Hc t) (St B w0 Hc) [o] a w := h.run a ha w hw
  unfold Xg
  rw [ho, ← J7]
  exact h1
theorem YlY {l : List Oper} {mid : List Nat} {Hz Hc F : List HP} {i : Nat} {t : OW} {o : Oper} (ho : nthO l i = o) (h : VL P (some (some F)) n B w0 ops (ZW P B w0 ops l Q mid Hz Hc t) [o] env Hc) : VW P n B w0 ops l Q mid (.e1 i t) env Hz Hc F := by
  refine ⟨fun a ha w hw => ?_⟩
  have h1 : Yu P ops (ZW P B w0 ops l Q mid Hz Hc t) (St B w0 Hc) [o] a w := h.run a ha w hw
  unfold Xg
  rw [ho, ← J7]
  exact h1
theorem YlZ {l : List Oper} {mid : List Nat} {Hz Hc F : List HP} {i j : Nat} {t u : OW} {o o' : Oper} (ho : nthO l i = o) (ho' : nthO l j = o') (h : VL P (some (some F)) n B w0 ops (ZW P B w0 ops l Q mid Hz Hc t) [o] env Hc)
    (h' : VL P (some (some F)) n B w0 ops (ZW P B w0 ops l Q mid Hz Hc u) [o'] env Hc) : VW P n B w0 ops l Q mid (.e2 i t j u) env Hz Hc F := by
  refine ⟨fun a ha w hw => ?_⟩
  have h1 : Yu P ops (ZW P B w0 ops l Q mid Hz Hc t) (St B w0 Hc) [o] a w := h.run a ha w hw
  have h2 : Yu P ops (ZW P B w0 ops l Q mid Hz Hc u) (St B w0 Hc) [o'] a w := h'.run a ha w hw
  unfold Xg
  rw [ho, ho', ← J7, ← J7]
  exact ⟨h1, h2⟩
theorem Yj4 {l : List Oper} {mid : List Nat} {Hz Hc F HF : List HP} (happ : App Hc F HF) (h : VM P n B w0 ops l Q mid env Hz HF) : VW P n B w0 ops l Q mid .done env Hz Hc F :=
  ⟨fun a ha w hw => by rw [← JM happ] at hw; exact h.run a ha w hw⟩
theorem Yiw {l : List Oper} {mid : List Nat} {Hz Hc F H' : List HP} {t : OW} (hp : Pull Hc H' F) (h : VW P n B w0 ops l Q mid t env Hz Hc F) : VQ n B w0 (ZW P B w0 ops l Q mid Hz Hc t) .normal env H' :=
  ⟨fun a w ha hw => h.run a ha w (hw.perm hp)⟩
theorem Yit {l : List Oper} {Hz : List HP} (h : VQ n B w0 Q .normal env H) : VM P n B w0 ops l Q [] env Hz H := ⟨fun a ha w hw => h.run a w ha hw⟩
theorem Ygb {l : List Oper} {mid : List Nat} {Hz : List HP} {i : Nat} {o : Oper} (ho : nthO l i = o) (h : VL P none n B w0 ops (MidQ P B w0 ops l Q mid Hz) [o] env H) : VM P n B w0 ops l Q (i :: mid) env Hz H := by
  refine ⟨fun a ha w hw => ?_⟩
  have h1 : wpList P ops (MidQ P B w0 ops l Q mid Hz) [o] a w := h.run a ha w hw
  have hno : ¬ LetsOut (MidQ P B w0 ops l Q mid Hz) := by rintro ⟨_, _, h⟩; exact h
  unfold Ya0
  rw [ho]
  unfold wpList at h1
  unfold wpD
  by_cases hw : Region.wanted o (yielded ops a.tmps) = true
  · rw [if_pos hw] at h1 ⊢
    rcases h1 with h | ⟨_, h⟩
    · exact Oper.wp_mono_noQ (fun _ _ _ h => h) hno (Oper.wp_mono (fun a' w' h' => h') h)
    · exact (hno h).elim
  · rw [if_neg hw] at h1 ⊢
    exact h1
theorem Yiu {l : List Oper} {mid : List Nat} {Hz F H' : List HP} (hp : Pull Hz H' F) (h : VM P n B w0 ops l Q mid env Hz H') : VQ n B w0 (MidQ P B w0 ops l Q mid Hz) .normal env H' :=
  ⟨fun a w ha hw => ⟨(hw.perm hp).prefix_, h.run a ha w hw⟩⟩
theorem Yia {id : Nat} {l : List Oper} (t : OW) (zs mid tail : List Nat) (mask maskz : List Bool) {Hc F Hz Fz : List HP} (hm : P.follows .mixedOrders = true)
    (hB : (Region.noSelect l.toArray && decide ((mid ++ tail).length ≤ l.toArray.size) && ((mid ++ tail).all fun j => decide (j < l.toArray.size)) && Js l.toArray zs mid tail t (Array.replicate l.toArray.size false) (l.toArray.size - (mid ++ tail).length)) = true)
    (hsp : Split mask H Hc F) (hsz : Split maskz Hc Hz Fz) {l2 : List Oper} (hl2 : Yl l tail = l2) (h : VW P n B w0 l.toArray l (X5 P l.toArray (Only Q) l2) mid t env Hz Hc F) : VC P n B w0 (.region id l.toArray true) Q env H := by
  simp only [Bool.and_eq_true, decide_eq_true_eq] at hB
  obtain ⟨⟨⟨h1, h2⟩, h3⟩, h5⟩ := hB
  refine ⟨fun a w ha hw => Zs (Q := Only Q) ?_ fun e a w h => by cases e <;> first | exact h | cases h⟩
  have hst : St B w0 (Hc ++ F) w.drew := (hw.perm (Xj hsp)).drew
  have hr := h.run a ha w.drew hst
  rw [← hl2] at hr
  have := X9 (S0 := St B w0 Hz) (S := St B w0 Hc) (zs := zs) (fun w hw => (hw.perm (Xj hsz)).prefix_) h1 (fun c a w h => h) (by rintro ⟨_, _, h⟩; exact h) l rfl (fun j hj => by
    have := List.all_eq_true.1 h3 j hj
    exact ⟨_, Array.getElem?_eq_getElem (of_decide_eq_true this)⟩) t _ _ a w.drew (Xz _ _) h5 hst.prefix_ hr
  rw [Nat.sub_add_cancel h2] at this
  exact JL hm (YaZ _ _ _ _ this)
end
open Go.RowKit
theorem XR {P : Program} {m : Mode} {n : Shp} {B d : Nat} {w0 : World} {ops : Array Oper} {Q : Exit → Act → World → Prop} {rest : List Oper} {env : Env} {H : List HP} {ty : TypeId} {pos : String} {after : Array Edge} {x : Operand} {a : Addr} {j : Nat} (hx : evo env x = some (sptr (some a) j)) (hn : Nat.ble (d + 1) n.k = true) (h : VL P m n B w0 ops Q rest ((d, sptr (some a) j) :: env) H) :
    VL P m n B w0 ops Q (⟨some d, .nilCheck x, ty, pos, after, none⟩ :: rest) env H := VS hx hn h
end Go.Eng
namespace Go.Proofs.YtmalhidldgfeoaaGreatDoor
open Go.RowKit Go.Eng Go.Nw Go.Rt
set_option maxHeartbeats 2000000 in
theorem YfX (ga g6 g5 i cap : Nat) (C : List ClM) (x : ClM) (hx : C[i]? = some x) (hxl : x.rs.length ≤ 1000) (lA : Option Addr) (lcap : Nat) (l : List Int) {B : Nat} {w0 : World} {H : List HP} {w : World}
    (hw : St B w0 (blk g6 (.cells #[sptr (some ⟨ga, 0, none⟩) (i * 5)] 249 (0, 0)) :: blk g5 (.cells #[.slice lA l.length lcap] 24 (0, 0)) :: sl 61 5 (some ⟨ga, 0, none⟩) C.length cap (C.flatMap clF) :: sl 72 1 x.rA x.rs.length x.rcap (x.rs.flatMap rowF) :: H) w) :
    Calls Tryz.prog 201 [.pointer (some ⟨g6, 0, none⟩), .pointer (some ⟨g5, 0, none⟩)].toArray w (Post B w0 fun v K => v = .tuple #[] ∧ ∃ A' cap', K = blk g6 (.cells #[sptr (some ⟨ga, 0, none⟩) (i * 5)] 249 (0, 0)) :: blk g5 (.cells #[.slice lA l.length lcap] 24 (0, 0)) :: sl 61 5 (some ⟨ga, 0, none⟩) C.length cap ((C.set i { x with rA := A', rcap := cap', rs := x.rs ++ [⟨lA, lcap, l⟩] }).flatMap clF) :: sl 72 1 A' (x.rs ++ [(⟨lA, lcap, l⟩ : RowM)]).length cap' ((x.rs ++ [(⟨lA, lcap, l⟩ : RowM)]).flatMap rowF) :: H) := by
  refine Yf Tryz.func201 Tryz.ntmps201 rfl rfl hw ?_
  have hi := (List.getElem?_eq_some_iff.1 hx).1
  repeat' (first | fail)
  apply JP [0, 1, 2, 3, 4, 5, 6, 7] [8, 9, 10] [true, true, true]
  kernel_rfl
  kernel_rfl
  exact zy
  (simp only [Yl, nthO]; rfl)
  (simp only [Yl, nthO]; rfl)
  repeat' (first | (apply XR; exact rfl; exact rfl) | (apply Yi; (repeat (first | with_reducible exact Yh | (with_reducible apply Yd; (repeat (first | with_reducible exact Ye | with_reducible apply Yc)))))) | refine zgd ?_ | (refine zgh ?_; intro _) | (refine zgi ?_; intro _ _) | fail)
  rename_i A' cap'
  apply Xx T (f := clF) (l := C) (i := i) (q := 5) (o := 1) (b := x) (b' := { x with rA := A', rcap := cap', rs := x.rs ++ [⟨lA, lcap, l⟩] }); exact rfl; exact rfl; exact rfl; exact zd; exact hx; (simp [clF]); exact fun _ => rfl; exact rfl; exact rfl
  repeat' (first | refine zgd ?_ | fail)
  have q1 : sl 72 1 A' (x.rs.length + 1) cap' (x.rs.flatMap rowF ++ #[Value.slice lA l.length lcap].toList) = sl 72 1 A' (x.rs ++ [(⟨lA, lcap, l⟩ : RowM)]).length cap' ((x.rs ++ [(⟨lA, lcap, l⟩ : RowM)]).flatMap rowF) := WB _ _ _ _ ⟨lA, lcap, l⟩
  rw [q1]
  apply Yk (blk g6 (.cells #[sptr (some ⟨ga, 0, none⟩) (i * 5)] 249 (0, 0)) :: blk g5 (.cells #[.slice lA l.length lcap] 24 (0, 0)) :: sl 61 5 (some ⟨ga, 0, none⟩) C.length cap ((C.set i { x with rA := A', rcap := cap', rs := x.rs ++ [⟨lA, lcap, l⟩] }).flatMap clF) :: sl 72 1 A' (x.rs ++ [(⟨lA, lcap, l⟩ : RowM)]).length cap' ((x.rs ++ [(⟨lA, lcap, l⟩ : RowM)]).flatMap rowF) :: H)
  · clear q1
    exact zk
  apply Xq; exact rfl
  exact ⟨rfl, A', cap', rfl⟩
set_option maxHeartbeats 2000000 in
theorem YfZ (ga g6 g5 i cap : Nat) (C : List ClM) (x : ClM) (hx : C[i]? = some x) (hxl : x.ss.length ≤ 1000) (lA : Option Addr) (lcap : Nat) (l : List Int) {B : Nat} {w0 : World} {H : List HP} {w : World}
    (hw : St B w0 (blk g6 (.cells #[sptr (some ⟨ga, 0, none⟩) (i * 5)] 249 (0, 0)) :: blk g5 (.cells #[.slice lA l.length lcap] 24 (0, 0)) :: sl 61 5 (some ⟨ga, 0, none⟩) C.length cap (C.flatMap clF) :: sl 24 1 x.sA x.ss.length x.scap (x.ss.flatMap rowF) :: H) w) :
    Calls Tryz.prog 203 [.pointer (some ⟨g6, 0, none⟩), .pointer (some ⟨g5, 0, none⟩)].toArray w (Post B w0 fun v K => v = .tuple #[] ∧ ∃ A' cap', K = blk g6 (.cells #[sptr (some ⟨ga, 0, none⟩) (i * 5)] 249 (0, 0)) :: blk g5 (.cells #[.slice lA l.length lcap] 24 (0, 0)) :: sl 61 5 (some ⟨ga, 0, none⟩) C.length cap ((C.set i { x with sA := A', scap := cap', ss := x.ss ++ [⟨lA, lcap, l⟩] }).flatMap clF) :: sl 24 1 A' (x.ss ++ [(⟨lA, lcap, l⟩ : RowM)]).length cap' ((x.ss ++ [(⟨lA, lcap, l⟩ : RowM)]).flatMap rowF) :: H) := by
  refine Yf Tryz.func203 Tryz.ntmps203 rfl rfl hw ?_
  have hi := (List.getElem?_eq_some_iff.1 hx).1
  repeat' (first | fail)
  apply JP [0, 1, 2, 3, 4, 5, 6, 7] [8, 9, 10] [true, true, true]
  kernel_rfl
  kernel_rfl
  exact zy
  (simp only [Yl, nthO]; rfl)
  (simp only [Yl, nthO]; rfl)
  repeat' (first | (apply XR; exact rfl; exact rfl) | (apply Yi; (repeat (first | with_reducible exact Yh | (with_reducible apply Yd; (repeat (first | with_reducible exact Ye | with_reducible apply Yc)))))) | refine zgd ?_ | (refine zgh ?_; intro _) | (refine zgi ?_; intro _ _) | fail)
  rename_i A' cap'
  apply Xx T (f := clF) (l := C) (i := i) (q := 5) (o := 4) (b := x) (b' := { x with sA := A', scap := cap', ss := x.ss ++ [⟨lA, lcap, l⟩] }); exact rfl; exact rfl; exact rfl; exact zd; exact hx; (simp [clF]); exact fun _ => rfl; exact rfl; exact rfl
  repeat' (first | refine zgd ?_ | fail)
  have q1 : sl 24 1 A' (x.ss.length + 1) cap' (x.ss.flatMap rowF ++ #[Value.slice lA l.length lcap].toList) = sl 24 1 A' (x.ss ++ [(⟨lA, lcap, l⟩ : RowM)]).length cap' ((x.ss ++ [(⟨lA, lcap, l⟩ : RowM)]).flatMap rowF) := WB _ _ _ _ ⟨lA, lcap, l⟩
  rw [q1]
  apply Yk (blk g6 (.cells #[sptr (some ⟨ga, 0, none⟩) (i * 5)] 249 (0, 0)) :: blk g5 (.cells #[.slice lA l.length lcap] 24 (0, 0)) :: sl 61 5 (some ⟨ga, 0, none⟩) C.length cap ((C.set i { x with sA := A', scap := cap', ss := x.ss ++ [⟨lA, lcap, l⟩] }).flatMap clF) :: sl 24 1 A' (x.ss ++ [(⟨lA, lcap, l⟩ : RowM)]).length cap' ((x.ss ++ [(⟨lA, lcap, l⟩ : RowM)]).flatMap rowF) :: H)
  · clear q1
    exact zk
  apply Xq; exact rfl
  exact ⟨rfl, A', cap', rfl⟩
set_option maxRecDepth 10000 in
set_option maxHeartbeats 4000000 in
theorem YfY (ga g6 g5 i cap : Nat) (C : List ClM) (x : ClM) (hx : C[i]? = some x) (hxl : x.bs.length ≤ 1000 ∧ x.ws.length ≤ 1000) (lA : Option Addr) (lcap : Nat) (l : List Int) (v0 v1 : Int) (h0 : l[0]? = some v0) (h1 : l[1]? = some v1) {B : Nat} {w0 : World} {H : List HP} {w : World}
    (hw : St B w0 (blk g6 (.cells #[sptr (some ⟨ga, 0, none⟩) (i * 5)] 249 (0, 0)) :: blk g5 (.cells #[.slice lA l.length lcap] 24 (0, 0)) :: sl 61 5 (some ⟨ga, 0, none⟩) C.length cap (C.flatMap clF) :: nrs x.bA x.bcap x.bs :: nrs x.wA x.wcap x.ws :: nrs lA lcap l :: H) w) :
    Calls Tryz.prog 202 [.pointer (some ⟨g6, 0, none⟩), .pointer (some ⟨g5, 0, none⟩)].toArray w (Post B w0 fun v K => v = .tuple #[] ∧ ∃ A1 c1 A2 c2, K = blk g6 (.cells #[sptr (some ⟨ga, 0, none⟩) (i * 5)] 249 (0, 0)) :: blk g5 (.cells #[.slice lA l.length lcap] 24 (0, 0)) :: sl 61 5 (some ⟨ga, 0, none⟩) C.length cap ((C.set i { x with bA := A1, bcap := c1, bs := x.bs ++ [v0], wA := A2, wcap := c2, ws := x.ws ++ [v1] }).flatMap clF) :: nrs A1 c1 (x.bs ++ [v0]) :: nrs A2 c2 (x.ws ++ [v1]) :: nrs lA lcap l :: H) := by
  refine Yf Tryz.func202 Tryz.ntmps202 rfl rfl hw ?_
  have hi := (List.getElem?_eq_some_iff.1 hx).1
  have hl := (List.getElem?_eq_some_iff.1 h1).1
  repeat' (first | fail)
  apply Yia (.z 1 (.s 0 (.s 2 (.s 3 (.s 4 (.s 5 (.s 6 (.s 7 (.s 8 (.s 11 (.s 12 (.s 13 (.s 14 (.s 15 (.s 16 (.s 17 (.e2 9 (.e2 10 (.e1 18 (.e1 19 .done)) 18 (.e1 10 (.e1 19 .done))) 18 (.e1 9 (.e1 10 (.e1 19 .done)))))))))))))))))))) [1] [20, 21, 22] [23, 24, 25] [true, true, true, false, false, true] [true, true, false, true]
  kernel_rfl
  kernel_rfl
  exact zy
  exact zy
  (simp only [Yl, nthO]; rfl)
  repeat' (first | (apply XR; exact rfl; exact rfl) | (apply VW_z; (simp only [nthO]; rfl); exact zp; (repeat (first | with_reducible exact Yh | (with_reducible apply Yd; (repeat (first | with_reducible exact Ye | with_reducible apply Yc)))))) | (apply VW_s; (simp only [nthO]; rfl)) | (apply YlY; (simp only [nthO]; rfl)) | (apply YlZ; (simp only [nthO]; rfl); (simp only [nthO]; rfl)) | (apply Yiw; (repeat (first | with_reducible exact Yh | (with_reducible apply Yd; (repeat (first | with_reducible exact Ye | with_reducible apply Yc)))))) | (apply Ygb; (simp only [nthO]; rfl)) | (apply Yiu; (repeat (first | with_reducible exact Yh | (with_reducible apply Yd; (repeat (first | with_reducible exact Ye | with_reducible apply Yc)))))) | (apply Yit) | (apply Yi; (repeat (first | with_reducible exact Yh | (with_reducible apply Yd; (repeat (first | with_reducible exact Ye | with_reducible apply Yc)))))) | refine zgd ?_ | (refine zgh ?_; intro _) | (refine zgi ?_; intro _ _) | fail)
  all_goals (
    first
      | (rename_i A1 c1 g A2 c2; guard_hyp g : Nat; guard_hyp A1 : Option Addr)
      | (rename_i A1 c1 A2 c2; guard_hyp A1 : Option Addr)
    apply Xx T (f := clF) (l := C) (i := i) (q := 5) (o := 2) (b := x) (b' := { x with bA := A1, bcap := c1, bs := x.bs ++ [v0] }); exact rfl; exact rfl; exact rfl; exact zd; exact hx; (simp [clF]); exact fun _ => rfl; exact rfl; exact rfl
    obtain ⟨C2, hC2⟩ : ∃ C2, C.set i { x with bA := A1, bcap := c1, bs := x.bs ++ [v0] } = C2 := ⟨_, rfl⟩
    have hl2 : C2.length = C.length := by rw [← hC2, List.length_set]
    have hx2 : C2[i]? = some { x with bA := A1, bcap := c1, bs := x.bs ++ [v0] } := by rw [← hC2, List.getElem?_set_self hi]
    rw [hC2]
    repeat' (first | (apply XR; exact rfl; exact rfl) | (apply Ygb; (simp only [nthO]; rfl)) | (apply Yiu; (repeat (first | with_reducible exact Yh | (with_reducible apply Yd; (repeat (first | with_reducible exact Ye | with_reducible apply Yc)))))) | (apply Yit) | refine zgd ?_ | fail)
    apply Xx T (f := clF) (l := C2) (i := i) (q := 5) (o := 3) (b := { x with bA := A1, bcap := c1, bs := x.bs ++ [v0] }) (b' := { x with bA := A1, bcap := c1, bs := x.bs ++ [v0], wA := A2, wcap := c2, ws := x.ws ++ [v1] }); exact rfl; exact rfl; exact rfl; exact zd; exact hx2; (simp [clF]); exact fun _ => rfl; exact rfl; exact rfl
    repeat' (first | refine zgd ?_ | fail)
    rw [ZQ, ZQ, ← hC2, List.set_set]
    apply Yk (blk g6 (.cells #[sptr (some ⟨ga, 0, none⟩) (i * 5)] 249 (0, 0)) :: blk g5 (.cells #[.slice lA l.length lcap] 24 (0, 0)) :: sl 61 5 (some ⟨ga, 0, none⟩) C.length cap ((C.set i { x with bA := A1, bcap := c1, bs := x.bs ++ [v0], wA := A2, wcap := c2, ws := x.ws ++ [v1] }).flatMap clF) :: nrs A1 c1 (x.bs ++ [v0]) :: nrs A2 c2 (x.ws ++ [v1]) :: nrs lA lcap l :: H)
    · exact zk
    apply Xq; exact rfl
    exact ⟨rfl, A1, c1, A2, c2, rfl⟩)
open Go.RowKit Go.Eng Go.Nw Go.Rt
theorem Ue {α : Type} (f : α → HP) (l : List α) (r : α) (H : List HP) : Perm (many ((l ++ [r]).map f) :: H) (f r :: many (l.map f) :: H) := by
  have := Perm.pull (f r) (l.map f) [] H
  rw [List.append_nil] at this
  rw [List.map_append]
  exact this
def Few2 (x : Clm) : Prop := x.routes.length ≤ 2 ∧ x.bounds.length ≤ 2 ∧ x.worst.length ≤ 2 ∧ x.slots.length ≤ 2
theorem Yky {p : Pst} (h : Rdr p) : ∀ x ∈ p.c, Few2 x := by
  intro x hx
  obtain ⟨i, hi⟩ := List.mem_iff_getElem?.1 hx
  have hl := (List.getElem?_eq_some_iff.1 hi).1
  by_cases hi2 : i + 1 < p.c.length
  · have := h.full i x hi hi2
    unfold Few2
    omega
  · obtain ⟨cs, y, hc⟩ := WG (l := p.c) (fun e => by rw [e] at hl; simp at hl)
    have hcl : p.c.length = cs.length + 1 := by rw [hc]; simp
    have e : x = y := by
      rw [hc, List.getElem?_append_right (by omega), show i - cs.length = 0 by omega] at hi
      exact (Option.some.inj hi).symm
    subst e
    unfold Few2
    rcases h.at_ cs x hc with h | h | h | h
    · obtain ⟨_, h1, h2, h3, h4⟩ := h
      rw [h1, h2, h3, h4]
      simp
    · omega
    · omega
    · omega
theorem Ykc {p : Pst} (h : Rdr p) {k : Nat} (hk : k ≠ 0) (hk4 : k < 4) (hf : Z3 p k = true) : p.c ≠ [] := by
  intro e
  have h3 := h.some_ e
  unfold Z3 Xd at hf
  rw [e, h3] at hf
  simp [hk] at hf
  omega
theorem Yjz (k : Nat) (l : List Int) (c : List Clm) : (ZU k l c).length ≤ c.length + 1 := by
  unfold ZU Qn
  split
  · simp
  · rw [List.length_append, List.length_take, List.length_singleton]; omega
theorem YeE : ∀ (ls : List (List UInt8)) {p p' : Pst}, runL ls p = some p' → p'.c.length ≤ p.c.length + ls.length
  | [], p, p', h => by cases h; simp
  | x :: ls, p, p', h => by
    unfold runL at h
    split at h
    · cases h
    rename_i q hq
    have h1 := YeE ls h
    obtain ⟨k, l, _, _, _, _, _, rfl⟩ := Yb2 hq
    have h2 := Yjz k l p.c
    rw [List.length_cons]
    dsimp only at h1
    omega
theorem Ykl {k : Nat} : Uf k ≤ 64 := by unfold Uf; split; omega; split; omega; split <;> omega
open Go.RowKit Go.Eng Go.Nw Go.Rt
theorem Ygh {C : List ClM} {last : Nat} (h : Rdr ⟨C.map ClM.clm, last⟩) : ∀ c ∈ C, c.rs.length ≤ 2 ∧ c.bs.length ≤ 2 ∧ c.ws.length ≤ 2 ∧ c.ss.length ≤ 2 := fun c hc => by
  have h1 := Yky h c.clm (List.mem_map_of_mem hc)
  unfold Few2 ClM.clm at h1
  simp only [List.length_map] at h1
  exact h1
def ZI (C : List ClM) : Prop := ∀ c ∈ C, (∀ r ∈ c.rs, r.xs.length ≤ 64) ∧ ∀ r ∈ c.ss, r.xs.length ≤ 64
def U9 (H : List HP) (g last k : Nat) (l : List Int) (C : List ClM) (v : Value) (K : List HP) : Prop := v = .tuple #[] ∧ ∃ A' cap' C', C'.map ClM.clm = ZU k l (C.map ClM.clm) ∧ ZI C' ∧ K = rdrA g A' cap' C' last :: clsP A' cap' C' :: many (C'.map clQ) :: H
theorem Of (Cs : List ClM) (x y : ClM) : (Cs ++ [x]).set Cs.length y = Cs ++ [y] := by simp
theorem Oa {Cs : List ClM} {x : ClM} (h : ZI (Cs ++ [x])) (y : ClM) (hy : (∀ r ∈ y.rs, r.xs.length ≤ 64) ∧ ∀ r ∈ y.ss, r.xs.length ≤ 64) : ZI (Cs ++ [y]) := fun c hc => by
  rcases List.mem_append.1 hc with h1 | h1
  · exact h c (List.mem_append_left _ h1)
  · rw [List.mem_singleton.1 h1]; exact hy
theorem YeK {l : List RowM} {r : RowM} (h : ∀ x ∈ l, x.xs.length ≤ 64) (hr : r.xs.length ≤ 64) : ∀ x ∈ l ++ [r], x.xs.length ≤ 64 := fun x hx => by
  rcases List.mem_append.1 hx with h1 | h1
  · exact h x h1
  · rw [List.mem_singleton.1 h1]; exact hr
theorem Oj {k : Nat} (hk : k ≠ 0) (l : List Int) (Cs : List ClM) (x y : ClM) (h : y.clm = YZ k l x.clm) : (Cs ++ [y]).map ClM.clm = ZU k l ((Cs ++ [x]).map ClM.clm) := by
  unfold ZU
  rw [if_neg hk, List.map_append, List.map_append, List.map_singleton, List.map_singleton, (Y6 _ _).1, (Y6 _ _).2, h]
set_option maxHeartbeats 2000000 in
theorem YfW (g : Nat) (A : Option Addr) (cap : Nat) (C : List ClM) (last : Nat) (lA : Option Addr) (lcap : Nat) (l : List Int) (v0 : Int) (h0 : l[0]? = some v0) (hC : C.length ≤ 1000000) (hrow : ZI C) {B : Nat} {w0 : World} {H : List HP} {w : World}
    (hw : St B w0 (rdrA g A cap C last :: clsP A cap C :: many (C.map clQ) :: nrs lA lcap l :: H) w) :
    Calls Tryz.prog 145 [.pointer (some ⟨g, 0, none⟩), .int .i64 (0 : Nat), .slice lA l.length lcap].toArray w (Post B w0 (U9 H g last 0 l C)) := by
  refine Yf Tryz.func145 Tryz.ntmps145 rfl rfl hw ?_
  have hl1 := (List.getElem?_eq_some_iff.1 h0).1
  repeat' (first | refine zgb ?_ | (refine zgf ?_ ?_ <;> intro _ <;> try (exfalso; omega)) | (refine zgh ?_; intro _) | fail)
  apply JP [0, 1, 2, 3, 4, 5, 6, 7, 8, 9, 10] [11, 12, 13] [true, true, false, false, true]
  kernel_rfl
  kernel_rfl
  exact zy
  (simp only [Yl, nthO]; rfl)
  (simp only [Yl, nthO]; rfl)
  repeat' (first | (apply XR; exact rfl; exact rfl) | (apply Yi; (repeat (first | with_reducible exact Yh | (with_reducible apply Yd; (repeat (first | with_reducible exact Ye | with_reducible apply Yc)))))) | refine zgd ?_ | (refine zgh ?_; intro _) | (refine zgi ?_; intro _ _) | fail)
  rename_i A' cap'
  have q1 : sl 61 5 A' (C.length + 1) cap' (C.flatMap clF ++ #[Value.int .i64 v0, .slice none 0 0, .slice none 0 0, .slice none 0 0, .slice none 0 0].toList) = clsP A' cap' (C ++ [nilC v0]) := Yd0 _ _ _ (nilC v0)
  rw [q1, show C.length + 1 = (C ++ [nilC v0]).length by simp]
  apply Yk (rdrA g A' cap' (C ++ [nilC v0]) last :: clsP A' cap' (C ++ [nilC v0]) :: many ((C ++ [nilC v0]).map clQ) :: H)
  · clear q1
    intro w hw
    have h5 : St B w0 (many (C.map clQ) :: rdrA g A' cap' (C ++ [nilC v0]) last :: clsP A' cap' (C ++ [nilC v0]) :: H) w := by
      revert w
      exact zk
    have h6 := (Yau v0 h5).perm (ZF clQ C (nilC v0) _)
    exact h6.perm ((Perm.swap _ _ _).trans (.cons _ (.swap _ _ _)))
  apply XU; exact rfl
  refine ⟨rfl, A', cap', C ++ [nilC v0], ?_, ?_, rfl⟩
  · rw [List.map_append]
    unfold ZU
    rw [if_pos rfl, List.getD_eq_getElem?_getD, h0]
    rfl
  · intro c hc
    rcases List.mem_append.1 hc with h1 | h1
    · exact hrow c h1
    · rw [List.mem_singleton.1 h1]
      unfold nilC
      simp
set_option maxHeartbeats 4000000 in
theorem YeT (g : Nat) (A : Option Addr) (cap : Nat) (Cs : List ClM) (x : ClM) (last : Nat) (lA : Option Addr) (lcap : Nat) (l : List Int) (hC : (Cs ++ [x]).length ≤ 1000000) (hx : x.rs.length ≤ 1000) (hrow : ZI (Cs ++ [x])) (hl : l.length ≤ 64) {B : Nat} {w0 : World} {H : List HP} {w : World}
    (hw : St B w0 (rdrA g A cap (Cs ++ [x]) last :: clsP A cap (Cs ++ [x]) :: many ((Cs ++ [x]).map clQ) :: nrs lA lcap l :: H) w) :
    Calls Tryz.prog 145 [.pointer (some ⟨g, 0, none⟩), .int .i64 (1 : Nat), .slice lA l.length lcap].toArray w (Post B w0 (U9 H g last 1 l (Cs ++ [x]))) := by
  refine Yf Tryz.func145 Tryz.ntmps145 rfl rfl hw ?_
  refine Uq (e := 61) (size := 5) (A := A) (k := (Cs ++ [x]).length) (cap := cap) (xs := (Cs ++ [x]).flatMap clF) zm (by simp) ?_
  rintro ga rfl
  have hrx := hrow x (by simp)
  obtain ⟨C, hCe⟩ : ∃ C, Cs ++ [x] = C := ⟨_, rfl⟩
  have hn : C.length = Cs.length + 1 := by rw [← hCe]; simp
  have hxi : C[Cs.length]? = some x := by rw [← hCe]; simp
  rw [hCe] at hC ⊢
  repeat' (first | refine zgb ?_ | (refine zgf ?_ ?_ <;> intro _ <;> try (exfalso; omega)) | (refine zgh ?_; intro _) | fail)
  apply Y0 [0, 1, 2, 3, 4, 5, 6, 7, 8, 9, 10, 11] [12] [true, true, true, false, false]
  kernel_rfl
  kernel_rfl
  exact zy
  (simp only [Yl, nthO]; rfl)
  (simp only [Yl, nthO]; rfl)
  repeat' (first | (apply Va T; exact rfl; exact rfl; exact rfl; exact rfl; omega) | (apply zg29; (apply Yj; exact za ; exact rfl)) | (apply Yi; (repeat (first | with_reducible exact Yh | (with_reducible apply Yd; (repeat (first | with_reducible exact Ye | with_reducible apply Yc)))))) | refine zgd ?_ | (refine zgh ?_; intro _) | fail)
  rename_i g5 _ g6 g7
  apply Wc _ (cs := [.pointer (some ⟨g6, 0, none⟩), .pointer (some ⟨g5, 0, none⟩)])
  exact rfl
  exact Ymh
  exact za
  exact rfl
  · intro w hw
    have h5 : St B w0 (many (C.map clQ) :: blk g6 (.cells #[sptr (some ⟨ga, 0, none⟩) (Cs.length * 5)] 249 (0, 0)) :: blk g5 (.cells #[.slice lA l.length lcap] 24 (0, 0)) :: clsP (some ⟨ga, 0, none⟩) cap C :: rdrA g (some ⟨ga, 0, none⟩) cap C last :: nrs lA lcap l :: H) w := by
      rw [show ((C.length : Int) - 1).toNat = Cs.length by omega] at hw
      revert w
      exact zk
    have h6 : St B w0 (many (clP x) :: many (Cs.map clQ) :: blk g6 (.cells #[sptr (some ⟨ga, 0, none⟩) (Cs.length * 5)] 249 (0, 0)) :: blk g5 (.cells #[.slice lA l.length lcap] 24 (0, 0)) :: clsP (some ⟨ga, 0, none⟩) cap C :: rdrA g (some ⟨ga, 0, none⟩) cap C last :: nrs lA lcap l :: H) w := by
      rw [← hCe] at h5 ⊢
      exact h5.perm (Ue clQ Cs x _)
    have h7 := h6.perm (.open_ (clP x) _)
    refine YfX ga g6 g5 Cs.length cap C x hxi hx lA lcap l (H := many (x.rs.map rowQ) :: nrs x.bA x.bcap x.bs :: nrs x.wA x.wcap x.ws :: sl 24 1 x.sA x.ss.length x.scap (x.ss.flatMap rowF) :: many (x.ss.map rowQ) :: many (Cs.map clQ) :: rdrA g (some ⟨ga, 0, none⟩) cap C last :: nrs lA lcap l :: H) ?_
    unfold clP at h7
    dsimp only [List.cons_append, List.nil_append] at h7
    clear h5 h6 hw
    revert w
    exact zk
  rintro _ _ ⟨rfl, A', cap', rfl⟩
  obtain ⟨x', hx'⟩ : ∃ x' : ClM, { x with rA := A', rcap := cap', rs := x.rs ++ [⟨lA, lcap, l⟩] } = x' := ⟨_, rfl⟩
  have hset : C.set Cs.length x' = Cs ++ [x'] := by rw [← hCe]; exact Of _ _ _
  have hn' : C.length = (Cs ++ [x']).length := by rw [hn]; simp
  rw [hx', hset]
  repeat' (first | refine zga ?_ | fail)
  apply Yk (rdrA g (some ⟨ga, 0, none⟩) cap (Cs ++ [x']) last :: clsP (some ⟨ga, 0, none⟩) cap (Cs ++ [x']) :: many ((Cs ++ [x']).map clQ) :: H)
  · intro w hw
    have h5 : St B w0 (sl 72 1 A' (x.rs ++ [(⟨lA, lcap, l⟩ : RowM)]).length cap' ((x.rs ++ [(⟨lA, lcap, l⟩ : RowM)]).flatMap rowF) :: nrs lA lcap l :: many (x.rs.map rowQ) :: nrs x.bA x.bcap x.bs :: nrs x.wA x.wcap x.ws :: sl 24 1 x.sA x.ss.length x.scap (x.ss.flatMap rowF) :: many (x.ss.map rowQ) :: many (Cs.map clQ) :: rdrA g (some ⟨ga, 0, none⟩) cap (Cs ++ [x']) last :: clsP (some ⟨ga, 0, none⟩) cap (Cs ++ [x']) :: H) w := by
      unfold rdrA clsP
      rw [← hn']
      clear hn' hset
      revert w
      exact zk
    have h6 := h5.perm (.cons _ (UB rowQ x.rs ⟨lA, lcap, l⟩ _))
    have h7 : St B w0 (clQ x' :: many (Cs.map clQ) :: rdrA g (some ⟨ga, 0, none⟩) cap (Cs ++ [x']) last :: clsP (some ⟨ga, 0, none⟩) cap (Cs ++ [x']) :: H) w := by
      have h8 := h6.perm (.close [_, _, _, _, _, _] _)
      rw [← hx'] at h8 ⊢
      exact h8
    exact (h7.perm (ZF clQ Cs x' _)).perm ((Perm.swap _ _ _).trans (.cons _ (.swap _ _ _)))
  apply Xq; exact rfl
  rw [← hCe]
  exact ⟨rfl, _, _, Cs ++ [x'], Oj (by decide) l Cs x x' (by rw [← hx']; unfold ClM.clm YZ; simp), Oa hrow x' (by rw [← hx']; exact ⟨YeK hrx.1 hl, hrx.2⟩), rfl⟩
set_option maxHeartbeats 4000000 in
theorem YeU (g : Nat) (A : Option Addr) (cap : Nat) (Cs : List ClM) (x : ClM) (last : Nat) (lA : Option Addr) (lcap : Nat) (l : List Int) (hC : (Cs ++ [x]).length ≤ 1000000) (hx : x.bs.length ≤ 1000 ∧ x.ws.length ≤ 1000) (v0 v1 : Int) (h0 : l[0]? = some v0) (h1 : l[1]? = some v1) (hrow : ZI (Cs ++ [x])) (_hl : l.length ≤ 64) {B : Nat} {w0 : World} {H : List HP} {w : World}
    (hw : St B w0 (rdrA g A cap (Cs ++ [x]) last :: clsP A cap (Cs ++ [x]) :: many ((Cs ++ [x]).map clQ) :: nrs lA lcap l :: H) w) :
    Calls Tryz.prog 145 [.pointer (some ⟨g, 0, none⟩), .int .i64 (2 : Nat), .slice lA l.length lcap].toArray w (Post B w0 (U9 H g last 2 l (Cs ++ [x]))) := by
  refine Yf Tryz.func145 Tryz.ntmps145 rfl rfl hw ?_
  refine Uq (e := 61) (size := 5) (A := A) (k := (Cs ++ [x]).length) (cap := cap) (xs := (Cs ++ [x]).flatMap clF) zm (by simp) ?_
  rintro ga rfl
  have hrx := hrow x (by simp)
  obtain ⟨C, hCe⟩ : ∃ C, Cs ++ [x] = C := ⟨_, rfl⟩
  have hn : C.length = Cs.length + 1 := by rw [← hCe]; simp
  have hxi : C[Cs.length]? = some x := by rw [← hCe]; simp
  rw [hCe] at hC ⊢
  repeat' (first | refine zgb ?_ | (refine zgf ?_ ?_ <;> intro _ <;> try (exfalso; omega)) | (refine zgh ?_; intro _) | fail)
  apply Y0 [0, 1, 2, 3, 4, 5, 6, 7, 8, 9, 10, 11] [12] [true, true, true, false, false]
  kernel_rfl
  kernel_rfl
  exact zy
  (simp only [Yl, nthO]; rfl)
  (simp only [Yl, nthO]; rfl)
  repeat' (first | (apply Va T; exact rfl; exact rfl; exact rfl; exact rfl; omega) | (apply zg29; (apply Yj; exact za ; exact rfl)) | (apply Yi; (repeat (first | with_reducible exact Yh | (with_reducible apply Yd; (repeat (first | with_reducible exact Ye | with_reducible apply Yc)))))) | refine zgd ?_ | (refine zgh ?_; intro _) | fail)
  rename_i g5 _ g6 g7
  apply Wc _ (cs := [.pointer (some ⟨g6, 0, none⟩), .pointer (some ⟨g5, 0, none⟩)])
  exact rfl
  exact Ymi
  exact za
  exact rfl
  · intro w hw
    have h5 : St B w0 (many (C.map clQ) :: blk g6 (.cells #[sptr (some ⟨ga, 0, none⟩) (Cs.length * 5)] 249 (0, 0)) :: blk g5 (.cells #[.slice lA l.length lcap] 24 (0, 0)) :: clsP (some ⟨ga, 0, none⟩) cap C :: rdrA g (some ⟨ga, 0, none⟩) cap C last :: nrs lA lcap l :: H) w := by
      rw [show ((C.length : Int) - 1).toNat = Cs.length by omega] at hw
      revert w
      exact zk
    have h6 : St B w0 (many (clP x) :: many (Cs.map clQ) :: blk g6 (.cells #[sptr (some ⟨ga, 0, none⟩) (Cs.length * 5)] 249 (0, 0)) :: blk g5 (.cells #[.slice lA l.length lcap] 24 (0, 0)) :: clsP (some ⟨ga, 0, none⟩) cap C :: rdrA g (some ⟨ga, 0, none⟩) cap C last :: nrs lA lcap l :: H) w := by
      rw [← hCe] at h5 ⊢
      exact h5.perm (Ue clQ Cs x _)
    have h7 := h6.perm (.open_ (clP x) _)
    refine YfY ga g6 g5 Cs.length cap C x hxi hx lA lcap l v0 v1 h0 h1 (H := sl 72 1 x.rA x.rs.length x.rcap (x.rs.flatMap rowF) :: many (x.rs.map rowQ) :: sl 24 1 x.sA x.ss.length x.scap (x.ss.flatMap rowF) :: many (x.ss.map rowQ) :: many (Cs.map clQ) :: rdrA g (some ⟨ga, 0, none⟩) cap C last :: H) ?_
    unfold clP at h7
    dsimp only [List.cons_append, List.nil_append] at h7
    clear h5 h6 hw
    revert w
    exact zk
  rintro _ _ ⟨rfl, A1, c1, A2, c2, rfl⟩
  obtain ⟨x', hx'⟩ : ∃ x' : ClM, { x with bA := A1, bcap := c1, bs := x.bs ++ [v0], wA := A2, wcap := c2, ws := x.ws ++ [v1] } = x' := ⟨_, rfl⟩
  have hset : C.set Cs.length x' = Cs ++ [x'] := by rw [← hCe]; exact Of _ _ _
  have hn' : C.length = (Cs ++ [x']).length := by rw [hn]; simp
  rw [hx', hset]
  repeat' (first | refine zga ?_ | fail)
  apply Yk (rdrA g (some ⟨ga, 0, none⟩) cap (Cs ++ [x']) last :: clsP (some ⟨ga, 0, none⟩) cap (Cs ++ [x']) :: many ((Cs ++ [x']).map clQ) :: H)
  · intro w hw
    have h5 : St B w0 (sl 72 1 x.rA x.rs.length x.rcap (x.rs.flatMap rowF) :: many (x.rs.map rowQ) :: nrs A1 c1 (x.bs ++ [v0]) :: nrs A2 c2 (x.ws ++ [v1]) :: sl 24 1 x.sA x.ss.length x.scap (x.ss.flatMap rowF) :: many (x.ss.map rowQ) :: many (Cs.map clQ) :: rdrA g (some ⟨ga, 0, none⟩) cap (Cs ++ [x']) last :: clsP (some ⟨ga, 0, none⟩) cap (Cs ++ [x']) :: H) w := by
      unfold rdrA clsP
      rw [← hn']
      clear hn' hset
      revert w
      exact zk
    have h6 := h5
    have h7 : St B w0 (clQ x' :: many (Cs.map clQ) :: rdrA g (some ⟨ga, 0, none⟩) cap (Cs ++ [x']) last :: clsP (some ⟨ga, 0, none⟩) cap (Cs ++ [x']) :: H) w := by
      have h8 := h6.perm (.close [_, _, _, _, _, _] _)
      rw [← hx'] at h8 ⊢
      exact h8
    exact (h7.perm (ZF clQ Cs x' _)).perm ((Perm.swap _ _ _).trans (.cons _ (.swap _ _ _)))
  apply Xq; exact rfl
  rw [← hCe]
  exact ⟨rfl, _, _, Cs ++ [x'], Oj (by decide) l Cs x x' (by rw [← hx']; unfold ClM.clm YZ; simp [List.getD_eq_getElem?_getD, h0, h1]), Oa hrow x' (by rw [← hx']; exact hrx), rfl⟩
set_option maxHeartbeats 4000000 in
theorem YeV (g : Nat) (A : Option Addr) (cap : Nat) (Cs : List ClM) (x : ClM) (last : Nat) (lA : Option Addr) (lcap : Nat) (l : List Int) (hC : (Cs ++ [x]).length ≤ 1000000) (hx : x.ss.length ≤ 1000) (hrow : ZI (Cs ++ [x])) (hl : l.length ≤ 64) {B : Nat} {w0 : World} {H : List HP} {w : World}
    (hw : St B w0 (rdrA g A cap (Cs ++ [x]) last :: clsP A cap (Cs ++ [x]) :: many ((Cs ++ [x]).map clQ) :: nrs lA lcap l :: H) w) :
    Calls Tryz.prog 145 [.pointer (some ⟨g, 0, none⟩), .int .i64 (3 : Nat), .slice lA l.length lcap].toArray w (Post B w0 (U9 H g last 3 l (Cs ++ [x]))) := by
  refine Yf Tryz.func145 Tryz.ntmps145 rfl rfl hw ?_
  refine Uq (e := 61) (size := 5) (A := A) (k := (Cs ++ [x]).length) (cap := cap) (xs := (Cs ++ [x]).flatMap clF) zm (by simp) ?_
  rintro ga rfl
  have hrx := hrow x (by simp)
  obtain ⟨C, hCe⟩ : ∃ C, Cs ++ [x] = C := ⟨_, rfl⟩
  have hn : C.length = Cs.length + 1 := by rw [← hCe]; simp
  have hxi : C[Cs.length]? = some x := by rw [← hCe]; simp
  rw [hCe] at hC ⊢
  repeat' (first | refine zgb ?_ | (refine zgf ?_ ?_ <;> intro _ <;> try (exfalso; omega)) | (refine zgh ?_; intro _) | fail)
  apply Y0 [0, 1, 2, 3, 4, 5, 6, 7, 8, 9, 10, 11] [12] [true, true, true, false, false]
  kernel_rfl
  kernel_rfl
  exact zy
  (simp only [Yl, nthO]; rfl)
  (simp only [Yl, nthO]; rfl)
  repeat' (first | (apply Va T; exact rfl; exact rfl; exact rfl; exact rfl; omega) | (apply zg29; (apply Yj; exact za ; exact rfl)) | (apply Yi; (repeat (first | with_reducible exact Yh | (with_reducible apply Yd; (repeat (first | with_reducible exact Ye | with_reducible apply Yc)))))) | refine zgd ?_ | (refine zgh ?_; intro _) | fail)
  rename_i g5 _ g6 g7
  apply Wc _ (cs := [.pointer (some ⟨g6, 0, none⟩), .pointer (some ⟨g5, 0, none⟩)])
  exact rfl
  exact Ymj
  exact za
  exact rfl
  · intro w hw
    have h5 : St B w0 (many (C.map clQ) :: blk g6 (.cells #[sptr (some ⟨ga, 0, none⟩) (Cs.length * 5)] 249 (0, 0)) :: blk g5 (.cells #[.slice lA l.length lcap] 24 (0, 0)) :: clsP (some ⟨ga, 0, none⟩) cap C :: rdrA g (some ⟨ga, 0, none⟩) cap C last :: nrs lA lcap l :: H) w := by
      rw [show ((C.length : Int) - 1).toNat = Cs.length by omega] at hw
      revert w
      exact zk
    have h6 : St B w0 (many (clP x) :: many (Cs.map clQ) :: blk g6 (.cells #[sptr (some ⟨ga, 0, none⟩) (Cs.length * 5)] 249 (0, 0)) :: blk g5 (.cells #[.slice lA l.length lcap] 24 (0, 0)) :: clsP (some ⟨ga, 0, none⟩) cap C :: rdrA g (some ⟨ga, 0, none⟩) cap C last :: nrs lA lcap l :: H) w := by
      rw [← hCe] at h5 ⊢
      exact h5.perm (Ue clQ Cs x _)
    have h7 := h6.perm (.open_ (clP x) _)
    refine YfZ ga g6 g5 Cs.length cap C x hxi hx lA lcap l (H := sl 72 1 x.rA x.rs.length x.rcap (x.rs.flatMap rowF) :: many (x.rs.map rowQ) :: nrs x.bA x.bcap x.bs :: nrs x.wA x.wcap x.ws :: many (x.ss.map rowQ) :: many (Cs.map clQ) :: rdrA g (some ⟨ga, 0, none⟩) cap C last :: nrs lA lcap l :: H) ?_
    unfold clP at h7
    dsimp only [List.cons_append, List.nil_append] at h7
    clear h5 h6 hw
    revert w
    exact zk
  rintro _ _ ⟨rfl, A', cap', rfl⟩
  obtain ⟨x', hx'⟩ : ∃ x' : ClM, { x with sA := A', scap := cap', ss := x.ss ++ [⟨lA, lcap, l⟩] } = x' := ⟨_, rfl⟩
  have hset : C.set Cs.length x' = Cs ++ [x'] := by rw [← hCe]; exact Of _ _ _
  have hn' : C.length = (Cs ++ [x']).length := by rw [hn]; simp
  rw [hx', hset]
  repeat' (first | refine zga ?_ | fail)
  apply Yk (rdrA g (some ⟨ga, 0, none⟩) cap (Cs ++ [x']) last :: clsP (some ⟨ga, 0, none⟩) cap (Cs ++ [x']) :: many ((Cs ++ [x']).map clQ) :: H)
  · intro w hw
    have h5 : St B w0 (sl 72 1 x.rA x.rs.length x.rcap (x.rs.flatMap rowF) :: many (x.rs.map rowQ) :: nrs x.bA x.bcap x.bs :: nrs x.wA x.wcap x.ws :: sl 24 1 A' (x.ss ++ [(⟨lA, lcap, l⟩ : RowM)]).length cap' ((x.ss ++ [(⟨lA, lcap, l⟩ : RowM)]).flatMap rowF) :: nrs lA lcap l :: many (x.ss.map rowQ) :: many (Cs.map clQ) :: rdrA g (some ⟨ga, 0, none⟩) cap (Cs ++ [x']) last :: clsP (some ⟨ga, 0, none⟩) cap (Cs ++ [x']) :: H) w := by
      unfold rdrA clsP
      rw [← hn']
      clear hn' hset
      revert w
      exact zk
    have h6 := h5.perm (.cons _ (.cons _ (.cons _ (.cons _ (.cons _ (UB rowQ x.ss ⟨lA, lcap, l⟩ _))))))
    have h7 : St B w0 (clQ x' :: many (Cs.map clQ) :: rdrA g (some ⟨ga, 0, none⟩) cap (Cs ++ [x']) last :: clsP (some ⟨ga, 0, none⟩) cap (Cs ++ [x']) :: H) w := by
      have h8 := h6.perm (.close [_, _, _, _, _, _] _)
      rw [← hx'] at h8 ⊢
      exact h8
    exact (h7.perm (ZF clQ Cs x' _)).perm ((Perm.swap _ _ _).trans (.cons _ (.swap _ _ _)))
  apply Xq; exact rfl
  rw [← hCe]
  exact ⟨rfl, _, _, Cs ++ [x'], Oj (by decide) l Cs x x' (by rw [← hx']; unfold ClM.clm YZ; simp), Oa hrow x' (by rw [← hx']; exact ⟨hrx.1, YeK hrx.2 hl⟩), rfl⟩
theorem YhX (g : Nat) (A : Option Addr) (cap : Nat) (C : List ClM) (last k : Nat) (hk : k < 4) (lA : Option Addr) (lcap : Nat) (l : List Int) (hC : C.length ≤ 1000000) (hf : ∀ c ∈ C, c.rs.length ≤ 2 ∧ c.bs.length ≤ 2 ∧ c.ws.length ≤ 2 ∧ c.ss.length ≤ 2) (hrow : ZI C) (hl1 : JN k ≤ l.length) (hl : l.length ≤ 64) (hne : k ≠ 0 → C ≠ []) {B : Nat} {w0 : World} {H : List HP} {w : World}
    (hw : St B w0 (rdrA g A cap C last :: clsP A cap C :: many (C.map clQ) :: nrs lA lcap l :: H) w) :
    Calls Tryz.prog 145 [.pointer (some ⟨g, 0, none⟩), .int .i64 (k : Nat), .slice lA l.length lcap].toArray w (Post B w0 (U9 H g last k l C)) := by
  match k, hk, hl1, hne with
  | 0, _, hl1, _ =>
    have hl1 : 1 ≤ l.length := hl1
    exact YfW g A cap C last lA lcap l _ (List.getElem?_eq_getElem (by omega)) hC hrow hw
  | k + 1, hk, hl1, hne =>
    obtain ⟨Cs, x, rfl⟩ := WG (hne (by omega))
    have hx := hf x (by simp)
    match k, hk, hl1 with
    | 0, _, _ => exact YeT g A cap Cs x last lA lcap l hC (by omega) hrow hl hw
    | 1, _, hl1 =>
      have hl1 : 2 ≤ l.length := hl1
      exact YeU g A cap Cs x last lA lcap l hC (by omega) _ _ (List.getElem?_eq_getElem (by omega)) (List.getElem?_eq_getElem (by omega)) hrow hl hw
    | 2, _, _ => exact YeV g A cap Cs x last lA lcap l hC (by omega) hrow hl hw
open Go.RowKit Go.Eng Go.Nw Go.Rt
theorem YhP {k : Nat} (hk : k < 4) (w : World) : (Instr.index 213 JK (.int .i64 (k : Nat))).run Tryz.prog w = .ok (.agg #[strV (XO k), .int .i64 (JN k : Nat), .int .i64 (Uf k : Nat), .int .i64 (Xd k : Nat)]) w := Xb hk w
def Qa (H : List HP) (g last : Nat) (C : List ClM) (s : List UInt8) (v : Value) (K : List HP) : Prop :=
  match Zj ⟨C.map ClM.clm, last⟩ s with
  | none => v = .bool false ∧ K = H
  | some p => v = .bool true ∧ ∃ A' cap' C', C'.map ClM.clm = p.c ∧ ZI C' ∧ K = rdrA g A' cap' C' p.last :: clsP A' cap' C' :: many (C'.map clQ) :: H
theorem Yho {w : List UInt8} {k : Nat} (hk : k < 4) (h : w = XO k) : Vm w = some k := by rw [h]; exact (YaY hk).1
theorem Yhp {w : List UInt8} (h : ∀ j, j < 4 → w ≠ XO j) : Vm w = none := by
  unfold Vm
  have h0 : w ≠ wordF := h 0 (by omega)
  have h1 : w ≠ wordR := h 1 (by omega)
  have h2 : w ≠ wordB := h 2 (by omega)
  have h3 : w ≠ wordL := h 3 (by omega)
  rw [if_neg h0, if_neg h1, if_neg h2, if_neg h3]
set_option maxRecDepth 10000 in
set_option maxHeartbeats 4000000 in
theorem YfP (g : Nat) (A : Option Addr) (cap : Nat) (C : List ClM) (last : Nat) (hl3 : last < 4) (s : List UInt8) (hs : s.length ≤ 100000) (hC : C.length ≤ 1000000) (hrd : Rdr ⟨C.map ClM.clm, last⟩) (hrow : ZI C) {B : Nat} {w0 : World} {H : List HP} {w : World} (ht : TabsB B w0)
    (hw : St B w0 (rdrA g A cap C last :: clsP A cap C :: many (C.map clQ) :: H) w) :
    Calls Tryz.prog 82 [.pointer (some ⟨g, 0, none⟩), strV s].toArray w (Post B w0 (Qa H g last C s)) := by
  refine Yf Tryz.func82 Tryz.ntmps82 rfl rfl hw ?_
  obtain ⟨R, hR⟩ : ∃ R, Zj ⟨C.map ClM.clm, last⟩ s = R := ⟨_, rfl⟩
  have hout : ∀ v K, (match R with | none => v = .bool false ∧ K = H | some p => v = .bool true ∧ ∃ A' cap' C', C'.map ClM.clm = p.c ∧ ZI C' ∧ K = rdrA g A' cap' C' p.last :: clsP A' cap' C' :: many (C'.map clQ) :: H) → Qa H g last C s v K := fun v K h => by
    unfold Qa
    rw [hR]
    exact h
  have hlen2 := Ygh hrd
  repeat' (first | refine zga ?_ | fail)
  apply Yr _ en81
  exact za
  exact rfl
  exact fun _ hw => (YaS s 32 (by omega) ht (hw))
  rintro _ _ ⟨gs, rfl, rfl⟩
  obtain ⟨ps, hps⟩ : ∃ ps, cutC 32 s = ps := ⟨_, rfl⟩
  have hne : ps ≠ [] := hps ▸ WR 32 s
  have hp0 : 1 ≤ ps.length := List.length_pos_iff.2 hne
  have hpl : ps.length ≤ 100001 := by have := WQ (c := 32) s; rw [hps] at this; omega
  have hrp : ∀ {L : List HP}, blk gs (.cells (ps.map strV).toArray 9 (0, 0)) ∈ L → Rd B w0 L (some ⟨gs, 0, none⟩) (ps.flatMap strL) := fun h => by
    rw [← Yce]
    exact Rd.blk (cs := (ps.map strV).toArray) h
  have h0 : ps[0]? = some (ps.headD []) := by
    cases ps with
    | nil => exact absurd rfl hne
    | cons p ps => rfl
  obtain ⟨wd, hwd⟩ : ∃ wd, ps.headD [] = wd := ⟨_, rfl⟩
  rw [hwd] at h0
  have hlN : Vm wd = none → R = none := fun e => by rw [← hR]; unfold Zj; rw [hps, hwd, e]
  have hlS : ∀ k, Vm wd = some k → R = Yao ⟨C.map ClM.clm, last⟩ s k := fun k e => by rw [← hR]; unfold Zj; rw [hps, hwd, e]
  rw [hps]
  have p1 := fun {H' : List HP} {w : World} (hw : St B w0 H' w) => OQ hw
  repeat' (first | refine zga ?_ | fail)
  first | apply Ya Z1 | apply Yb Z1
  exact za
  exact rfl
  exact fun _ hw => (p1 hw)
  repeat' (first | refine zgb ?_ | fail)
  refine Yn (fun z : Nat => [(13, .int .i64 (z : Nat)), (12, JK), (4, .bool false), (5, .slice (some ⟨gs, 0, none⟩) ps.length ps.length), (1, strV s), (0, .pointer (some ⟨g, 0, none⟩))])
    (fun _ => blk gs (.cells (ps.map strV).toArray 9 (0, 0)) :: rdrA g A cap C last :: clsP A cap C :: many (C.map clQ) :: H) (fun z => z ≤ 4 ∧ ∀ j, j < z → wd ≠ XO j) (fun z => 4 - z) 0 ⟨Nat.zero_le _, fun k hk => absurd hk (Nat.not_lt_zero _)⟩ ?_ (fun w hw => hw) ?_
  · exact zu
  rintro k ⟨hk, hall⟩ K hK
  by_cases hlt : k < 4
  rotate_left
  · obtain rfl : k = 4 := by omega
    have hRn := hlN (Yhp hall)
    repeat' (first | refine zgc ?_ | (refine zge ?_ ?_ <;> intro _ <;> try (exfalso; omega)) | fail)
    apply Yk H
    · exact zk
    apply Yg; exact rfl; exact rfl
    apply hout
    rw [hRn]
    exact ⟨rfl, rfl⟩
  have hrp' : ∀ X, Rd B w0 (X :: blk gs (.cells (ps.map strV).toArray 9 (0, 0)) :: rdrA g A cap C last :: clsP A cap C :: many (C.map clQ) :: H) (some ⟨gs, 0, none⟩) (ps.flatMap strL) := fun X => hrp (.tail _ (.head _))
  repeat' (first | (apply YE; exact rfl; exact rfl; exact rfl; exact YhP hlt) | refine zgd ?_ | (refine zge ?_ ?_ <;> intro _ <;> try (exfalso; omega)) | (refine zgh ?_; intro _) | fail)
  rename_i g7
  have hr5 := hrp' (blk g7 (.cells #[strV (XO k), .int .i64 (JN k : Nat), .int .i64 (Uf k : Nat), .int .i64 (Xd k : Nat)] 212 (0, 0)))
  repeat' (first | (apply Ycx (XO k) wd; exact rfl; exact rfl; exact rfl; all_goals intro hwk) | refine zgd ?_ | fail)
  · apply hK (k + 1)
    · exact ⟨by omega, fun j hj => by
        by_cases e : j = k
        · subst e; exact fun e2 => hwk e2.symm
        · exact hall j (by omega)⟩
    · omega
    · exact zu
    · exact zk
  have hRk := hlS k (Yho hlt hwk.symm)
  obtain ⟨ws, hws⟩ : ∃ ws, ps.tail = ws := ⟨_, rfl⟩
  have hwl : ws.length = ps.length - 1 := by rw [← hws, List.length_tail]
  have hwm : ∀ p ∈ ws, p.length ≤ 100000 := fun p hp => by
    have h1 := YcL (c := 32) (l := s) p (by rw [hps]; exact List.mem_of_mem_tail (hws ▸ hp))
    omega
  apply Jz T (n' := ws.length); exact rfl; exact rfl; exact rfl; exact rfl; omega; (rw [hwl]; rfl)
  have hrw : ∀ {L : List HP}, blk gs (.cells (ps.map strV).toArray 9 (0, 0)) ∈ L → Rd B w0 L (subA (some ⟨gs, 0, none⟩) 1 ps.length 1) (ws.flatMap strL) := fun h => by
    have h1 := Rd.sub (q := 1) (o := 1) (k := ws.length) (cap := ps.length) (fun _ => rfl) (hrp h) (by omega)
    rw [List.drop_one, hws, List.take_length] at h1
    exact h1
  rw [show (1 : Int).toNat = 1 from rfl]
  obtain ⟨A0, hA0⟩ : ∃ A0, subA (some ⟨gs, 0, none⟩) 1 ps.length 1 = A0 := ⟨_, rfl⟩
  rw [hA0] at hrw ⊢
  repeat' (first | fail)
  apply Yr _ Yl4
  exact za
  exact rfl
  exact fun _ hw => (Ybb ws (by omega) hwm ht (hrw zm) (hw))
  intro v K2 hv
  cases hn : J4 ws with
  | none =>
    rw [hn] at hv
    obtain ⟨rfl, rfl⟩ := hv
    have hRn : R = none := by rw [hRk]; unfold Yao; rw [hps, hws, hn]
    repeat' (first | refine zgd ?_ | fail)
    apply Yk H
    · exact zk
    apply Yg; exact rfl; exact rfl
    apply hout
    rw [hRn]
    exact ⟨rfl, rfl⟩
  | some l =>
    rw [hn] at hv
    obtain ⟨lA, lcap, rfl, rfl⟩ := hv
    have hRl : R = if JN k ≤ l.length ∧ l.length ≤ Uf k ∧ Z3 ⟨C.map ClM.clm, last⟩ k = true then some ⟨ZU k l (C.map ClM.clm), k⟩ else none := by rw [hRk]; unfold Yao; rw [hps, hws, hn]
    have hll : l.length = ws.length := by
      unfold J4 at hn
      split at hn
      · cases hn
      · rw [← Option.some.inj hn, List.length_map]
    by_cases h1 : JN k ≤ l.length ∧ l.length ≤ Uf k
    rotate_left
    · have hRn : R = none := by rw [hRl, if_neg fun e => h1 ⟨e.1, e.2.1⟩]
      by_cases h2 : JN k ≤ l.length
      · have h3 : ¬ l.length ≤ Uf k := fun e => h1 ⟨h2, e⟩
        repeat' (first | refine zgc ?_ | (refine zge ?_ ?_ <;> intro _ <;> try (exfalso; omega)) | fail)
        apply Yk H
        · exact zk
        apply Yg; exact rfl; exact rfl
        apply hout
        rw [hRn]
        exact ⟨rfl, rfl⟩
      · repeat' (first | refine zgc ?_ | (refine zge ?_ ?_ <;> intro _ <;> try (exfalso; omega)) | fail)
        apply Yk H
        · exact zk
        apply Yg; exact rfl; exact rfl
        apply hout
        rw [hRn]
        exact ⟨rfl, rfl⟩
    obtain ⟨h1, h2⟩ := h1
    have hm4 := Ykl (k := k)
    have p2 := fun {H' : List HP} {w : World} (hm : rdrA g A cap C last ∈ H') (hr : Rd B w0 H' A (C.flatMap clF)) (hw : St B w0 H' w) => Yhc g A cap C last k hlt hl3 hC (fun c hc => by have := hlen2 c hc; omega) hm hr hw
    cases hfit : Z3 ⟨C.map ClM.clm, last⟩ k with
    | false =>
      have hRn : R = none := by rw [hRl, if_neg fun e => by rw [hfit] at e; exact Bool.false_ne_true e.2.2]
      rw [hfit] at p2
      repeat' (first | ((first | apply Ya Ygo | apply Yb Ygo); exact za; exact rfl; exact fun _ hw => (p2 zm (.sl zm) hw)) | refine zgd ?_ | (refine zge ?_ ?_ <;> intro _ <;> try (exfalso; omega)) | fail)
      apply Yk H
      · exact zk
      apply Yg; exact rfl; exact rfl
      apply hout
      rw [hRn]
      exact ⟨rfl, rfl⟩
    | true =>
      have hRs : R = some ⟨ZU k l (C.map ClM.clm), k⟩ := by rw [hRl, if_pos ⟨h1, h2, hfit⟩]
      have hne : k ≠ 0 → C ≠ [] := fun hk0 e => Ykc hrd hk0 hlt hfit (by rw [e]; rfl)
      rw [hfit] at p2
      repeat' (first | ((first | apply Ya Ygo | apply Yb Ygo); exact za; exact rfl; exact fun _ hw => (p2 zm (.sl zm) hw)) | refine zgc ?_ | (refine zge ?_ ?_ <;> intro _ <;> try (exfalso; omega)) | fail)
      apply Yr _ Yl5
      exact za
      exact rfl
      · intro w hw
        refine YhX g A cap C last k hlt lA lcap l hC hlen2 hrow h1 (by omega) hne (H := H) ?_
        revert w
        exact zk
      rintro _ _ ⟨rfl, A', cap', C', hC', hrow', rfl⟩
      repeat' (first | refine zgd ?_ | fail)
      apply Yk (rdrA g A' cap' C' k :: clsP A' cap' C' :: many (C'.map clQ) :: H)
      · exact zk
      apply Yg; exact rfl; exact rfl
      apply hout
      rw [hRs]
      exact ⟨rfl, A', cap', C', hC', hrow', rfl⟩
open Go.RowKit Go.Eng Go.Nw Go.Rt
structure PsM where
  i : Nat
  A : Option Addr
  cap : Nat
  C : List ClM
  last : Nat
theorem Yki {C : List ClM} (h : ZI C) (h2 : ∀ c ∈ C, c.rs.length ≤ 2 ∧ c.bs.length ≤ 2 ∧ c.ws.length ≤ 2 ∧ c.ss.length ≤ 2) : ∀ c ∈ C, c.lens := fun c hc => by
  have h3 := h2 c hc
  exact ⟨by omega, fun r hr => by have := (h c hc).1 r hr; omega, fun r hr => by have := (h c hc).2 r hr; omega⟩
theorem Yjg {ls : List (List UInt8)} {k : Nat} {p : Pst} (h : JJ ls k = some p) : Rdr p ∧ p.c.length ≤ k := by
  unfold JJ at h
  have h1 := YeE _ h
  rw [List.length_take] at h1
  have h2 : startP.c.length = 0 := rfl
  exact ⟨(YgH _ Rdr.start h).1, by omega⟩
theorem Yji {p : Pst} (h : Rdr p) : p.last < 4 := by
  by_cases hc : p.c = []
  · have := h.some_ hc; omega
  · obtain ⟨cs, x, hx⟩ := WG hc
    rcases h.at_ cs x hx with h | h | h | h <;> omega
set_option maxRecDepth 10000 in
set_option maxHeartbeats 4000000 in
theorem Yd3 (text : List UInt8) (hl : text.length ≤ 100000) {B : Nat} {w0 : World} {H : List HP} {w : World} (ht : TabsB B w0) (hw : St B w0 H w) :
    Calls Tryz.prog 27 [strV text].toArray w (Post B w0 (OutC H (W8 text))) := by
  refine Yf Tryz.func27 Tryz.ntmps27 rfl rfl hw ?_
  repeat' (first | refine zga ?_ | fail)
  apply Yr _ en81
  exact za
  exact rfl
  exact fun _ hw => (YaS text 10 (by omega) ht (hw))
  rintro _ _ ⟨gs, rfl, rfl⟩
  obtain ⟨ls, hls⟩ : ∃ ls, cutC 10 text = ls := ⟨_, rfl⟩
  have hpe : W8 text = Wy ls := by unfold W8; rw [hls]
  have hlc : ls.length ≤ 100001 := by have := WQ (c := 10) text; rw [hls] at this; omega
  have hl1 : 1 ≤ ls.length := List.length_pos_iff.2 (hls ▸ WR 10 text)
  have hll : ∀ p ∈ ls, p.length ≤ 100000 := fun p hp => by have := YcL (c := 10) (l := text) p (hls ▸ hp); omega
  have hrp : ∀ {L : List HP}, blk gs (.cells (ls.map strV).toArray 9 (0, 0)) ∈ L → Rd B w0 L (some ⟨gs, 0, none⟩) (ls.flatMap strL) := fun h => by
    rw [← Yce]
    exact Rd.blk (cs := (ls.map strV).toArray) h
  rw [hls, hpe]
  repeat' (first | refine zgd ?_ | (refine zgh ?_; intro _) | fail)
  rename_i gr
  obtain ⟨m, hm⟩ : ∃ m, ls.length = m + 1 := ⟨ls.length - 1, by omega⟩
  rw [show ((ls.length : Nat) : Int) - 1 = (m : Int) by omega]
  apply Zd T (l := ls) (n' := (ls.take m).length); exact rfl; exact rfl; exact rfl; exact rfl; omega; exact Nat.le_refl _; (rw [List.length_take]; omega)
  rw [YaU]
  repeat' (first | refine zgb ?_ | fail)
  have hlt : (ls.take m).length = m := by rw [List.length_take]; omega
  have hrt : ∀ {L : List HP}, blk gs (.cells (ls.map strV).toArray 9 (0, 0)) ∈ L → Rd B w0 L (some ⟨gs, 0, none⟩) ((ls.take m).flatMap strL) := fun h => Rd.take (q := 1) m (fun _ => rfl) (hrp h)
  have hpl : Wy ls = if (YG (badL ls) m 0).2 ≠ 0 then ([], YG (badL ls) m 0)
    else if XB ls m ≠ [] ∨ (Wz ls m).last ≠ 3 then ([], ((m : Int), 3))
    else if VJ (Wz ls m).c = false then ([], (-1, 1)) else ((Wz ls m).c, (-1, 0)) := by
    unfold Wy
    rw [show ls.length - 1 = m by omega]
  refine Yn (fun (z : PsM) => [(21, .int .i64 z.i), (20, .int .i64 (ls.take m).length), (19, .slice (some ⟨gs, 0, none⟩) (ls.take m).length ls.length), (5, .slice (some ⟨gs, 0, none⟩) ls.length ls.length), (6, .int .i64 m), (7, .pointer (some ⟨gr, 0, none⟩))])
    (fun z => rdrA gr z.A z.cap z.C z.last :: clsP z.A z.cap z.C :: many (z.C.map clQ) :: blk gs (.cells (ls.map strV).toArray 9 (0, 0)) :: H) (fun z => z.i ≤ m ∧ JJ ls z.i = some ⟨z.C.map ClM.clm, z.last⟩ ∧ ZI z.C) (fun z => m - z.i) ⟨0, none, 0, [], 3⟩ ⟨Nat.zero_le _, rfl, fun c hc => by cases hc⟩ ?_ (fun w hw => ?_) ?_
  · exact zu
  · have h4 : St B w0 (blk gr (.cells #[.slice none 0 0, .int .i64 3] 144 (0, 0)) :: blk gs (.cells (ls.map strV).toArray 9 (0, 0)) :: H) w := by
      revert w
      exact zk
    have h5 : St B w0 (rdrA gr none 0 [] 3 :: blk gs (.cells (ls.map strV).toArray 9 (0, 0)) :: H) w := h4
    exact (Vq h5).perm ((Perm.cons _ (.swap _ _ _)).trans (.swap _ _ _))
  rintro ⟨i, A, cap, C, last⟩ ⟨hi, hp, hrow⟩ K hK
  dsimp only at hi hp hrow ⊢
  obtain ⟨hrd, hcl⟩ := Yjg hp
  have hl3 := Yji hrd
  have hlen2 := Ygh hrd
  dsimp only at hcl hl3
  rw [List.length_map] at hcl
  have hz : ∀ k, k < i → badL ls k = 0 := fun k hk => by
    unfold badL
    have h1 : JJ ls (k + 1) ≠ none := fun e => by
      have h2 : runL (ls.take (k + 1) ++ (ls.take i).drop (k + 1)) startP = some ⟨C.map ClM.clm, last⟩ := by
        rw [show ls.take (k + 1) = (ls.take i).take (k + 1) by rw [List.take_take, Nat.min_eq_left (by omega)], List.take_append_drop]
        exact hp
      rw [J5] at h2
      unfold JJ at e
      rw [e] at h2
      cases h2
    cases hc : JJ ls (k + 1) with
    | none => exact absurd hc h1
    | some p => rfl
  by_cases hlti : i < m
  · have hrt' : Rd B w0 (rdrA gr A cap C last :: clsP A cap C :: many (C.map clQ) :: blk gs (.cells (ls.map strV).toArray 9 (0, 0)) :: H) (some ⟨gs, 0, none⟩) ((ls.take m).flatMap strL) := hrt zm
    have hget : (ls.take m)[i]? = some (XB ls i) := by
      rw [List.getElem?_take, if_pos hlti]
      unfold XB
      rw [List.getD_eq_getElem?_getD, List.getElem?_eq_getElem (by omega)]
      rfl
    have hlm : (XB ls i).length ≤ 100000 := hll _ (List.mem_of_mem_take (List.mem_of_getElem? hget))
    have hst := Yjh (by omega) hp
    repeat' (first | refine zgd ?_ | (refine zge ?_ ?_ <;> intro _ <;> try (exfalso; omega)) | fail)
    apply Yr _ en82
    exact za
    exact rfl
    exact fun _ hw => (YfP gr A cap C last hl3 (XB ls i) hlm (by omega) hrd hrow ht (hw))
    intro v9 K9 hr9
    unfold Qa at hr9
    cases hrow9 : Zj ⟨C.map ClM.clm, last⟩ (XB ls i) with
    | none =>
      rw [hrow9] at hr9 hst
      obtain ⟨rfl, rfl⟩ := hr9
      have hbr : badL ls i = 3 := by unfold badL; rw [hst]; rfl
      have hfa := Xu (f := badL ls) (r := m) (i0 := 0) (i := i) (fun k _ hk => hz k hk) (Nat.zero_le _) (by omega) (by rw [hbr]; decide)
      repeat' (first | refine zgd ?_ | fail)
      apply Yk (clsP none 0 [] :: many (([] : List ClM).map clQ) :: H)
      · intro w hw
        have h5 : St B w0 H w := by
          revert w
          exact zk
        exact Vq h5
      apply XV; exact rfl; exact rfl; exact rfl; exact rfl
      rw [hpl, hfa, hbr, if_pos (by show (3 : Int) ≠ 0; decide)]
      exact Vu rfl rfl
    | some p =>
      rw [hrow9] at hr9 hst
      obtain ⟨rfl, A', cap', C', hC', hrow', rfl⟩ := hr9
      repeat' (first | refine zgd ?_ | fail)
      apply hK ⟨i + 1, A', cap', C', p.last⟩
      · exact ⟨by dsimp only; omega, by dsimp only; rw [hst, hC'], hrow'⟩
      · dsimp only; omega
      · exact zu
      · exact zk
  · obtain rfl : i = m := by omega
    have hrp' : Rd B w0 (rdrA gr A cap C last :: clsP A cap C :: many (C.map clQ) :: blk gs (.cells (ls.map strV).toArray 9 (0, 0)) :: H) (some ⟨gs, 0, none⟩) (ls.flatMap strL) := hrp zm
    have hzz : YG (badL ls) i 0 = (-1, 0) := X7 fun k _ hk => hz k (by omega)
    have hgm : ls[(i : Int).toNat]? = some (XB ls i) := by
      unfold XB
      rw [List.getD_eq_getElem?_getD, Int.toNat_natCast, List.getElem?_eq_getElem (by omega)]
      rfl
    have hpat : Wz ls i = ⟨C.map ClM.clm, last⟩ := by unfold Wz; rw [hp]; rfl
    rw [hpl, hzz, if_neg (by simp), hpat]
    dsimp only
    clear hK
    repeat' (first | (apply Ycx (XB ls i) []; exact rfl; exact rfl; exact rfl; all_goals intro hwd) | refine zgd ?_ | (refine zge ?_ ?_ <;> intro _ <;> try (exfalso; omega)) | fail)
    · apply Yk (clsP none 0 [] :: many (([] : List ClM).map clQ) :: H)
      · intro w hw
        have h5 : St B w0 H w := by
          revert w
          exact zk
        exact Vq h5
      apply XV; exact rfl; exact rfl; exact rfl; exact rfl
      rw [if_pos (.inl hwd)]
      exact Vu rfl rfl
    · have hl9 : last ≠ 3 := by omega
      apply Yk (clsP none 0 [] :: many (([] : List ClM).map clQ) :: H)
      · intro w hw
        have h5 : St B w0 H w := by
          revert w
          exact zk
        exact Vq h5
      apply XV; exact rfl; exact rfl; exact rfl; exact rfl
      rw [if_pos (.inr hl9)]
      exact Vu rfl rfl
    have hl9 : last = 3 := by omega
    rw [if_neg (by rintro (h | h); exact h hwd; exact h hl9)]
    have hlens := Yki hrow hlen2
    have hcin : CIn B w0 (rdrA gr A cap C last :: clsP A cap C :: many (C.map clQ) :: blk gs (.cells (ls.map strV).toArray 9 (0, 0)) :: H) A C := ⟨.sl (cap := cap) (.tail _ (.head _)), fun x hx => W7 (.tail _ (.tail _ (.head _))) hx (hlens x hx), by omega⟩
    have p3 := fun {H' : List HP} {w : World} (hc : CIn B w0 H' A C) (hw : St B w0 H' w) => QK C (cap := cap) hc hw
    cases hf : VJ (C.map ClM.clm) with
    | false =>
      rw [hf] at p3
      repeat' (first | ((first | apply Ya en75 | apply Yb en75); exact za; exact rfl; exact fun _ hw => (p3 hcin hw)) | refine zgd ?_ | fail)
      apply Yk (clsP none 0 [] :: many (([] : List ClM).map clQ) :: H)
      · intro w hw
        have h5 : St B w0 H w := by
          revert w
          exact zk
        exact Vq h5
      apply XV; exact rfl; exact rfl; exact rfl; exact rfl
      rw [if_pos rfl]
      exact Vu rfl rfl
    | true =>
      rw [hf] at p3
      repeat' (first | ((first | apply Ya en75 | apply Yb en75); exact za; exact rfl; exact fun _ hw => (p3 hcin hw)) | refine zgd ?_ | fail)
      apply Yk (clsP A cap C :: many (C.map clQ) :: H)
      · exact zk
      apply XV; exact rfl; exact rfl; exact rfl; exact rfl
      exact ⟨A, cap, C, rfl, rfl, hlens, rfl⟩
open Go.RowKit Go.Eng Go.Nw Go.Rt
set_option maxRecDepth 10000 in
set_option maxHeartbeats 4000000 in
theorem O8 (c d : ClM) {B : Nat} {w0 : World} {H : List HP} {w : World} (hc : c.In B w0 H) (hd : d.In B w0 H) (hw : St B w0 H w) :
    Calls Tryz.prog 73 [clV c, clV d].toArray w (Post B w0 fun u K => u = .bool (decide (c.clm = d.clm)) ∧ K = H) := by
  refine Yf Tryz.func73 Tryz.ntmps73 rfl rfl hw ?_
  have hcl := hc.ln
  have hdl := hd.ln
  have p1 := fun {H' : List HP} {w : World} (hc : c.In B w0 H') (hd : d.In B w0 H') (hw : St B w0 H' w) => O9 c.rs d.rs (cap := c.rcap) (cap2 := d.rcap) hcl.1 hdl.1 hc.rl hd.rl hc.rt hd.rt hc.rw_ hd.rw_ hw
  have p2 := fun {H' : List HP} {w : World} (hc : c.In B w0 H') (hd : d.In B w0 H') (hw : St B w0 H' w) => Zn c.bs d.bs (cap := c.bcap) (cap2 := d.bcap) (by omega) (by omega) hc.bd hd.bd hw
  have p3 := fun {H' : List HP} {w : World} (hc : c.In B w0 H') (hd : d.In B w0 H') (hw : St B w0 H' w) => Zn c.ws d.ws (cap := c.wcap) (cap2 := d.wcap) (by omega) (by omega) hc.ws hd.ws hw
  have hce := @YiF c d
  unfold clV
  by_cases h1 : c.flow = d.flow
  rotate_left
  · rw [decide_eq_false (fun h => h1 (hce.1 h).1)]
    repeat' (first | refine zgc ?_ | (refine zge ?_ ?_ <;> intro _ <;> try (exfalso; omega)) | (refine zgh ?_; intro _) | fail)
    apply Yk H
    · exact zk
    apply Yg; exact rfl; exact rfl; exact ⟨rfl, rfl⟩
  by_cases h2 : c.rs.map (·.xs) = d.rs.map (·.xs)
  rotate_left
  · rw [decide_eq_false (fun h => h2 (hce.1 h).2.1)]
    rw [decide_eq_false h2] at p1
    repeat' (first | refine zgb ?_ | (refine zge ?_ ?_ <;> intro _ <;> try (exfalso; omega)) | (refine zgh ?_; intro _) | fail)
    first | apply Ya UM | apply Yb UM
    exact za
    exact rfl
    exact fun _ hw => (p1 (hc.mono zk) (hd.mono zk) hw)
    repeat' (first | refine zgd ?_ | fail)
    apply Yk H
    · exact zk
    apply Yg; exact rfl; exact rfl; exact ⟨rfl, rfl⟩
  rw [decide_eq_true h2] at p1
  by_cases h3 : c.bs = d.bs
  rotate_left
  · rw [decide_eq_false (fun h => h3 (hce.1 h).2.2.1)]
    rw [decide_eq_false h3] at p2
    repeat' (first | refine zgb ?_ | (refine zge ?_ ?_ <;> intro _ <;> try (exfalso; omega)) | (refine zgh ?_; intro _) | fail)
    first | apply Ya UM | apply Yb UM
    exact za
    exact rfl
    exact fun _ hw => (p1 (hc.mono zk) (hd.mono zk) hw)
    repeat' (first | refine zgc ?_ | fail)
    first | apply Ya XM | apply Yb XM
    exact za
    exact rfl
    exact fun _ hw => (p2 (hc.mono zk) (hd.mono zk) hw)
    repeat' (first | refine zgd ?_ | fail)
    apply Yk H
    · exact zk
    apply Yg; exact rfl; exact rfl; exact ⟨rfl, rfl⟩
  rw [decide_eq_true h3] at p2
  by_cases h4 : c.ws = d.ws
  rotate_left
  · rw [decide_eq_false (fun h => h4 (hce.1 h).2.2.2.1)]
    rw [decide_eq_false h4] at p3
    repeat' (first | refine zgb ?_ | (refine zge ?_ ?_ <;> intro _ <;> try (exfalso; omega)) | (refine zgh ?_; intro _) | fail)
    first | apply Ya UM | apply Yb UM
    exact za
    exact rfl
    exact fun _ hw => (p1 (hc.mono zk) (hd.mono zk) hw)
    repeat' (first | refine zgc ?_ | fail)
    first | apply Ya XM | apply Yb XM
    exact za
    exact rfl
    exact fun _ hw => (p2 (hc.mono zk) (hd.mono zk) hw)
    repeat' (first | refine zgc ?_ | fail)
    first | apply Ya XM | apply Yb XM
    exact za
    exact rfl
    exact fun _ hw => (p3 (hc.mono zk) (hd.mono zk) hw)
    repeat' (first | refine zgd ?_ | fail)
    apply Yk H
    · exact zk
    apply Yg; exact rfl; exact rfl; exact ⟨rfl, rfl⟩
  rw [decide_eq_true h4] at p3
  have h5 : decide (c.clm = d.clm) = decide (c.ss.map (·.xs) = d.ss.map (·.xs)) := decide_eq_decide.2 ⟨fun h => (hce.1 h).2.2.2.2, fun h => hce.2 ⟨h1, h2, h3, h4, h⟩⟩
  rw [h5]
  by_cases h6 : c.ss.length = d.ss.length
  rotate_left
  · rw [decide_eq_false (fun e => h6 (by have := congrArg List.length e; rwa [List.length_map, List.length_map] at this))]
    repeat' (first | refine zgb ?_ | (refine zge ?_ ?_ <;> intro _ <;> try (exfalso; omega)) | (refine zgh ?_; intro _) | fail)
    first | apply Ya UM | apply Yb UM
    exact za
    exact rfl
    exact fun _ hw => (p1 (hc.mono zk) (hd.mono zk) hw)
    repeat' (first | refine zgc ?_ | fail)
    first | apply Ya XM | apply Yb XM
    exact za
    exact rfl
    exact fun _ hw => (p2 (hc.mono zk) (hd.mono zk) hw)
    repeat' (first | refine zgc ?_ | fail)
    first | apply Ya XM | apply Yb XM
    exact za
    exact rfl
    exact fun _ hw => (p3 (hc.mono zk) (hd.mono zk) hw)
    repeat' (first | refine zgc ?_ | (refine zge ?_ ?_ <;> intro _ <;> try (exfalso; omega)) | fail)
    apply Yk H
    · exact zk
    apply Yg; exact rfl; exact rfl; exact ⟨rfl, rfl⟩
  repeat' (first | refine zgb ?_ | (refine zge ?_ ?_ <;> intro _ <;> try (exfalso; omega)) | (refine zgh ?_; intro _) | fail)
  first | apply Ya UM | apply Yb UM
  exact za
  exact rfl
  exact fun _ hw => (p1 (hc.mono zk) (hd.mono zk) hw)
  repeat' (first | refine zgc ?_ | fail)
  first | apply Ya XM | apply Yb XM
  exact za
  exact rfl
  exact fun _ hw => (p2 (hc.mono zk) (hd.mono zk) hw)
  repeat' (first | refine zgc ?_ | fail)
  first | apply Ya XM | apply Yb XM
  exact za
  exact rfl
  exact fun _ hw => (p3 (hc.mono zk) (hd.mono zk) hw)
  repeat' (first | refine zgc ?_ | (refine zge ?_ ?_ <;> intro _ <;> try (exfalso; omega)) | fail)
  rename_i g2 g3 _ _
  refine Yn (fun k : Nat => [(5, .int .i64 (k : Nat)), (3, .pointer (some ⟨g3, 0, none⟩)), (2, .pointer (some ⟨g2, 0, none⟩))]) (fun _ => clA g3 d :: clA g2 c :: H) (fun k => k ≤ c.ss.length ∧ (c.ss.take k).map (·.xs) = (d.ss.take k).map (·.xs)) (fun k => c.ss.length - k) 0 ⟨Nat.zero_le _, by simp⟩ ?_ (fun w hw => hw) ?_
  · exact zu
  rintro k ⟨hk, hz⟩ K hK
  have hcs : Rd B w0 (clA g3 d :: clA g2 c :: H) c.sA (c.ss.flatMap rowF) := hc.st.cons.cons
  have hds : Rd B w0 (clA g3 d :: clA g2 c :: H) d.sA (d.ss.flatMap rowF) := hd.st.cons.cons
  by_cases hlt : k < c.ss.length
  · obtain ⟨a, ha⟩ : ∃ a, c.ss[k]? = some a := ⟨_, List.getElem?_eq_getElem hlt⟩
    obtain ⟨b, hb⟩ : ∃ b, d.ss[k]? = some b := ⟨_, List.getElem?_eq_getElem (by omega)⟩
    have ham := List.mem_of_getElem? ha
    have hbm := List.mem_of_getElem? hb
    have p4 := fun {H' : List HP} {w : World} (hc : c.In B w0 H') (hd : d.In B w0 H') (hw : St B w0 H' w) => Zn a.xs b.xs (cap := a.cap) (cap2 := b.cap) (hc.sl a ham) (hd.sl b hbm) (hc.sw a ham) (hd.sw b hbm) hw
    by_cases he : a.xs = b.xs
    · rw [decide_eq_true he] at p4
      repeat' (first | refine zgb ?_ | (refine zge ?_ ?_ <;> intro _ <;> try (exfalso; omega)) | fail)
      apply YN [0, 1, 2, 3, 4, 5, 6, 7, 8, 9, 10, 11] []
      kernel_rfl
      kernel_rfl
      (simp only [Yl, nthO]; rfl)
      exact rfl
      repeat' (first | refine zgd ?_ | fail)
      first | apply Ya XM | apply Yb XM
      exact za
      exact rfl
      exact fun _ hw => (p4 (hc.mono zk) (hd.mono zk) hw)
      repeat' (first | (apply Yi; (repeat (first | with_reducible exact Yh | (with_reducible apply Yd; (repeat (first | with_reducible exact Ye | with_reducible apply Yc)))))) | refine zgd ?_ | fail)
      · show Perm H (H ++ [])
        rw [List.append_nil]; exact Perm.refl _
      repeat' (first | fail)
      apply hK (k + 1)
      · exact ⟨by omega, by rw [List.take_add_one, List.take_add_one, ha, hb, List.map_append, List.map_append, hz]; simp [he]⟩
      · omega
      · exact zu
      · exact fun w hw => hw
    · rw [decide_eq_false he] at p4
      have hne : ¬ (c.ss.map (·.xs) = d.ss.map (·.xs)) := fun e => by
        have h1 : (c.ss.map (·.xs))[k]? = (d.ss.map (·.xs))[k]? := by rw [e]
        rw [List.getElem?_map, List.getElem?_map, ha, hb] at h1
        exact he (Option.some.inj h1)
      rw [decide_eq_false hne]
      clear hK
      repeat' (first | refine zgb ?_ | (refine zge ?_ ?_ <;> intro _ <;> try (exfalso; omega)) | fail)
      apply YN [0, 1, 2, 3, 4, 5, 6, 7, 8, 9, 10, 11] []
      kernel_rfl
      kernel_rfl
      (simp only [Yl, nthO]; rfl)
      exact rfl
      repeat' (first | refine zgd ?_ | fail)
      first | apply Ya XM | apply Yb XM
      exact za
      exact rfl
      exact fun _ hw => (p4 (hc.mono zk) (hd.mono zk) hw)
      repeat' (first | (apply Yi; (repeat (first | with_reducible exact Yh | (with_reducible apply Yd; (repeat (first | with_reducible exact Ye | with_reducible apply Yc)))))) | refine zgd ?_ | fail)
      · show Perm H (H ++ [])
        rw [List.append_nil]; exact Perm.refl _
      repeat' (first | fail)
      apply Yk H
      · exact zk
      apply Yg; exact rfl; exact rfl; exact ⟨rfl, rfl⟩
  · rw [List.take_of_length_le (by omega), List.take_of_length_le (by omega)] at hz
    rw [decide_eq_true hz]
    clear hK
    repeat' (first | refine zgc ?_ | (refine zge ?_ ?_ <;> intro _ <;> try (exfalso; omega)) | fail)
    apply Yk H
    · exact zk
    apply Yg; exact rfl; exact rfl; exact ⟨rfl, rfl⟩
set_option maxRecDepth 10000 in
set_option maxHeartbeats 2000000 in
theorem YaE (c d : List ClM) {A A2 : Option Addr} {cap cap2 B : Nat} {w0 : World} {H : List HP} {w : World} (hc : CIn B w0 H A c) (hd : CIn B w0 H A2 d) (hw : St B w0 H w) :
    Calls Tryz.prog 21 [.slice A c.length cap, .slice A2 d.length cap2].toArray w (Post B w0 fun u K => u = .bool (decide (c.map ClM.clm = d.map ClM.clm)) ∧ K = H) := by
  refine Yf Tryz.func21 Tryz.ntmps21 rfl rfl hw ?_
  have hcl := hc.ln
  have hdl := hd.ln
  have hcr := hc.rd
  have hdr := hd.rd
  by_cases h6 : c.length = d.length
  rotate_left
  · rw [decide_eq_false (fun e => h6 (by have := congrArg List.length e; rwa [List.length_map, List.length_map] at this))]
    repeat' (first | refine zgb ?_ | (refine zge ?_ ?_ <;> intro _ <;> try (exfalso; omega)) | fail)
    apply Yg; exact rfl; exact rfl; exact ⟨rfl, rfl⟩
  repeat' (first | refine zgb ?_ | (refine zge ?_ ?_ <;> intro _ <;> try (exfalso; omega)) | fail)
  refine Yn (fun k : Nat => [(5, .int .i64 (k : Nat)), (0, .slice A c.length cap), (1, .slice A2 d.length cap2)]) (fun _ => H) (fun k => k ≤ c.length ∧ (c.take k).map ClM.clm = (d.take k).map ClM.clm) (fun k => c.length - k) 0 ⟨Nat.zero_le _, by simp⟩ ?_ (fun w hw => hw) ?_
  · exact zu
  rintro k ⟨hk, hz⟩ K hK
  by_cases hlt : k < c.length
  · obtain ⟨a, ha⟩ : ∃ a, c[k]? = some a := ⟨_, List.getElem?_eq_getElem hlt⟩
    obtain ⟨b, hb⟩ : ∃ b, d[k]? = some b := ⟨_, List.getElem?_eq_getElem (by omega)⟩
    have hax := hc.x a (List.mem_of_getElem? ha)
    have hbx := hd.x b (List.mem_of_getElem? hb)
    have p2 := fun {H' : List HP} {w : World} (hx : a.In B w0 H') (hy : b.In B w0 H') (hw : St B w0 H' w) => O8 a b hx hy hw
    by_cases he : a.clm = b.clm
    · rw [decide_eq_true he] at p2
      repeat' (first | refine zgb ?_ | (refine zge ?_ ?_ <;> intro _ <;> try (exfalso; omega)) | fail)
      apply YN [0, 1, 2, 3, 4, 5, 6, 7, 8, 9] []
      kernel_rfl
      kernel_rfl
      (simp only [Yl, nthO]; rfl)
      exact rfl
      repeat' (first | refine zgd ?_ | fail)
      first | apply Ya en73 | apply Yb en73
      exact za
      exact rfl
      exact fun _ hw => (p2 hax hbx hw)
      repeat' (first | (apply Yi; (repeat (first | with_reducible exact Yh | (with_reducible apply Yd; (repeat (first | with_reducible exact Ye | with_reducible apply Yc)))))) | refine zgd ?_ | fail)
      · show Perm H (H ++ [])
        rw [List.append_nil]; exact Perm.refl _
      repeat' (first | fail)
      apply hK (k + 1)
      · exact ⟨by omega, by rw [List.take_add_one, List.take_add_one, ha, hb, List.map_append, List.map_append, hz]; simp [he]⟩
      · omega
      · exact zu
      · exact fun w hw => hw
    · rw [decide_eq_false he] at p2
      have hne : ¬ (c.map ClM.clm = d.map ClM.clm) := fun e => by
        have h1 : (c.map ClM.clm)[k]? = (d.map ClM.clm)[k]? := by rw [e]
        rw [List.getElem?_map, List.getElem?_map, ha, hb] at h1
        exact he (Option.some.inj h1)
      rw [decide_eq_false hne]
      clear hK
      repeat' (first | refine zgb ?_ | (refine zge ?_ ?_ <;> intro _ <;> try (exfalso; omega)) | fail)
      apply YN [0, 1, 2, 3, 4, 5, 6, 7, 8, 9] []
      kernel_rfl
      kernel_rfl
      (simp only [Yl, nthO]; rfl)
      exact rfl
      repeat' (first | refine zgd ?_ | fail)
      first | apply Ya en73 | apply Yb en73
      exact za
      exact rfl
      exact fun _ hw => (p2 hax hbx hw)
      repeat' (first | (apply Yi; (repeat (first | with_reducible exact Yh | (with_reducible apply Yd; (repeat (first | with_reducible exact Ye | with_reducible apply Yc)))))) | refine zgd ?_ | fail)
      · show Perm H (H ++ [])
        rw [List.append_nil]; exact Perm.refl _
      repeat' (first | fail)
      apply Yg; exact rfl; exact rfl; exact ⟨rfl, rfl⟩
  · rw [List.take_of_length_le (by omega), List.take_of_length_le (by omega)] at hz
    rw [decide_eq_true hz]
    repeat' (first | refine zgc ?_ | (refine zge ?_ ?_ <;> intro _ <;> try (exfalso; omega)) | fail)
    apply Yg; exact rfl; exact rfl; exact ⟨rfl, rfl⟩
end Go.Proofs.YtmalhidldgfeoaaGreatDoor
namespace Go.Eng
open Go.RowKit
section
variable {P : Program} {B : Nat} {w0 : World} {Q : Exit → Act → World → Prop} {env : Env} {H : List HP} {m : Mode} {n : Shp} {ops : Array Oper} {rest : List Oper} {d : Nat} {ty : TypeId} {pos : String} {after : Array Edge}
theorem Ylj {tx : Array TypeId} {x y : Operand} {a b : Int} {k k' : IntKind} (hx : evo env x = some (.int k a)) (hy : evo env y = some (.int k' b)) (hn : Nat.ble (d + 1) n.k = true) (h : VL P m n B w0 ops Q rest ((d, .int k (if b < a then b else a)) :: env) H) :
    VL P m n B w0 ops Q (⟨some d, .call ⟨.builtin .min, #[x, y], tx⟩, ty, pos, after, none⟩ :: rest) env H :=
  Yw rfl rfl hn rfl (fun f w ha _ => by simp [execOp, resolve, invoke, builtin, ha.eval hx, ha.eval hy, run_min_int2]) h
end
end Go.Eng
namespace Go.Proofs.YtmalhidldgfeoaaGreatDoor
open Go.RowKit Go.Eng Go.Nw Go.Rt
def JY (id : Int) (x : Clm) : Bool := decide (x.flow = id) && decide (0 < x.bounds.length)
theorem YcE (x : ClM) (id : Int) (g : Nat) {B : Nat} {w0 : World} {H : List HP} {w : World} (hl : x.bs.length ≤ 1000000000000) (hm : blk g (.cells #[.int .i64 id] 3 (0, 0)) ∈ H) (hw : St B w0 H w) :
    Calls Tryz.prog 90 [clV x, .pointer (some ⟨g, 0, none⟩)].toArray w (Post B w0 fun v K => v = .bool (JY id x.clm) ∧ K = H) := by
  refine Yf Tryz.func90 Tryz.ntmps90 rfl rfl hw ?_
  have e1 : JY id x.clm = (decide (x.flow = id) && decide (0 < x.bs.length)) := rfl
  unfold clV
  by_cases h1 : x.flow = id
  · by_cases h2 : 0 < x.bs.length
    · rw [e1, decide_eq_true h1, decide_eq_true h2]
      repeat' (first | refine zgc ?_ | (refine zgf ?_ ?_ <;> intro _ <;> try (exfalso; omega)) | (refine zgh ?_; intro _) | fail)
      apply Yk H
      · exact zk
      apply Yg; exact rfl; exact rfl; exact ⟨rfl, rfl⟩
    · rw [e1, decide_eq_true h1, decide_eq_false h2]
      repeat' (first | refine zgc ?_ | (refine zgf ?_ ?_ <;> intro _ <;> try (exfalso; omega)) | (refine zgh ?_; intro _) | fail)
      apply Yk H
      · exact zk
      apply Yg; exact rfl; exact rfl; exact ⟨rfl, rfl⟩
  · rw [e1, decide_eq_false h1]
    repeat' (first | refine zgc ?_ | (refine zgf ?_ ?_ <;> intro _ <;> try (exfalso; omega)) | (refine zgh ?_; intro _) | fail)
    apply Yk H
    · exact zk
    apply Yg; exact rfl; exact rfl; exact ⟨rfl, rfl⟩
def idxC (P : Clm → Bool) (c : List Clm) : Int := match c.findIdx? P with | none => -1 | some i => (i : Nat)
theorem YbS {P : Clm → Bool} {c : List Clm} (h : ∀ x ∈ c, P x = false) : idxC P c = -1 := by
  have : c.findIdx? P = none := by rw [List.findIdx?_eq_none_iff]; exact h
  unfold idxC; rw [this]
theorem YbT {P : Clm → Bool} {c : List Clm} {i : Nat} {x : Clm} (h0 : ∀ y ∈ c.take i, P y = false) (hx : c[i]? = some x) (hp : P x = true) : idxC P c = (i : Nat) ∧ c.find? P = some x := by
  have hc : c = c.take i ++ (x :: c.drop (i + 1)) := by
    have hi := (List.getElem?_eq_some_iff.1 hx)
    obtain ⟨hi, e⟩ := hi
    rw [← e, List.getElem_cons_drop, List.take_append_drop]
  have hl : (c.take i).length = i := by
    have hi := (List.getElem?_eq_some_iff.1 hx).1
    rw [List.length_take]; omega
  have h1 : c.findIdx? P = some i := by
    rw [hc, List.findIdx?_append]
    have : (c.take i).findIdx? P = none := by rw [List.findIdx?_eq_none_iff]; exact h0
    rw [this]
    simp [List.findIdx?_cons, hp, hl]
  refine ⟨by unfold idxC; rw [h1], ?_⟩
  rw [hc, List.find?_append]
  have : (c.take i).find? P = none := by rw [List.find?_eq_none]; exact fun y hy => by rw [h0 y hy]; decide
  rw [this]
  simp [hp]
set_option maxRecDepth 10000 in
set_option maxHeartbeats 2000000 in
theorem YdV (c : List ClM) (id : Int) (g : Nat) {A : Option Addr} {cap B : Nat} {w0 : World} {H : List HP} {w : World} (hc : CIn B w0 H A c) (hm : blk g (.cells #[.int .i64 id] 3 (0, 0)) ∈ H) (hw : St B w0 H w) :
    Calls Tryz.prog 87 [.slice A c.length cap, .func (.func 90) #[] #[.pointer (some ⟨g, 0, none⟩)]].toArray w (Post B w0 fun v K => v = .int .i64 (idxC (JY id) (c.map ClM.clm)) ∧ K = H) := by
  refine Yf Tryz.func87 Tryz.ntmps87 rfl rfl hw ?_
  have hcl := hc.ln
  have hcr := hc.rd
  repeat' (first | refine zgb ?_ | fail)
  refine Yn (fun k : Nat => [(8, .int .i64 (k : Nat)), (7, .int .i64 c.length), (6, .slice A c.length cap), (0, .slice A c.length cap), (1, .func (.func 90) #[] #[.pointer (some ⟨g, 0, none⟩)])]) (fun _ => H) (fun k => k ≤ c.length ∧ ∀ y ∈ (c.map ClM.clm).take k, JY id y = false) (fun k => c.length - k) 0 ⟨Nat.zero_le _, by simp⟩ ?_ (fun w hw => hw) ?_
  · exact zu
  rintro k ⟨hk, hz⟩ K hK
  by_cases hlt : k < c.length
  · obtain ⟨x, hx⟩ : ∃ x, c[k]? = some x := ⟨_, List.getElem?_eq_getElem hlt⟩
    have hxm : (c.map ClM.clm)[k]? = some x.clm := by rw [List.getElem?_map, hx]; rfl
    have hxi := hc.x x (List.mem_of_getElem? hx)
    have p1 := fun {w : World} (hw : St B w0 H w) => YcE x id g hxi.ln.2.1 hm hw
    cases hb : JY id x.clm with
    | true =>
      rw [hb] at p1
      have hi := (YbT hz hxm hb).1
      rw [hi]
      clear hK
      repeat' (first | ((first | apply YD (cs := [.pointer (some ⟨g, 0, none⟩)]) | apply Y2 (cs := [.pointer (some ⟨g, 0, none⟩)])); exact rfl; exact en90; exact za; exact rfl; exact fun _ hw => (p1 hw)) | refine zgd ?_ | (refine zge ?_ ?_ <;> intro _ <;> try (exfalso; omega)) | fail)
      apply Yg; exact rfl; exact rfl; exact ⟨rfl, rfl⟩
    | false =>
      rw [hb] at p1
      repeat' (first | ((first | apply YD (cs := [.pointer (some ⟨g, 0, none⟩)]) | apply Y2 (cs := [.pointer (some ⟨g, 0, none⟩)])); exact rfl; exact en90; exact za; exact rfl; exact fun _ hw => (p1 hw)) | refine zgd ?_ | (refine zge ?_ ?_ <;> intro _ <;> try (exfalso; omega)) | fail)
      apply hK (k + 1)
      · exact ⟨by omega, fun y hy => by
          rw [List.take_add_one, hxm, Option.toList_some] at hy
          rcases List.mem_append.1 hy with h | h
          · exact hz y h
          · rw [List.mem_singleton.1 h]; exact hb⟩
      · omega
      · exact zu
      · exact fun w hw => hw
  · rw [List.take_of_length_le (by rw [List.length_map]; omega)] at hz
    rw [YbS hz]
    repeat' (first | refine zgc ?_ | (refine zge ?_ ?_ <;> intro _ <;> try (exfalso; omega)) | fail)
    apply Yg; exact rfl; exact rfl; exact ⟨rfl, rfl⟩
theorem Yi3 {l : List Int} {k : Nat} {y : Int} (h0 : 1 ≤ k) (h : l[k]? = some y) : minI (l.take (k + 1)) = if y < minI (l.take k) then y else minI (l.take k) := by
  rw [List.take_add_one, h, Option.toList_some]
  cases l with
  | nil => cases h
  | cons a l =>
    obtain ⟨k, rfl⟩ : ∃ j, k = j + 1 := ⟨k - 1, by omega⟩
    rw [List.take_succ_cons]
    show List.foldl (fun x y => if y < x then y else x) a (l.take k ++ [y]) = _
    rw [List.foldl_append]
    rfl
set_option maxRecDepth 10000 in
set_option maxHeartbeats 2000000 in
theorem YhR (l : List Int) (hlen : l.length ≤ 1000000000000) (h0 : 1 ≤ l.length) {A : Option Addr} {cap B : Nat} {w0 : World} {H : List HP} {w : World} (hr : Rd B w0 H A (l.flatMap numF)) (hw : St B w0 H w) :
    Calls Tryz.prog 91 [.slice A l.length cap].toArray w (Post B w0 fun v K => v = .int .i64 (minI l) ∧ K = H) := by
  refine Yf Tryz.func91 Tryz.ntmps91 rfl rfl hw ?_
  obtain ⟨a, ha⟩ : ∃ a, l[0]? = some a := ⟨_, List.getElem?_eq_getElem (by omega)⟩
  have ha2 : l[(0 : Int).toNat]? = some a := ha
  have hm1 : minI (l.take 1) = a := by
    cases l with
    | nil => cases ha
    | cons b l => exact Option.some.inj ha
  repeat' (first | refine zgd ?_ | (refine zge ?_ ?_ <;> intro _ <;> try (exfalso; omega)) | fail)
  refine Yn (fun k : Nat => [(4, .int .i64 (k : Nat)), (3, .int .i64 (minI (l.take k))), (0, .slice A l.length cap)]) (fun _ => H) (fun k => 1 ≤ k ∧ k ≤ l.length) (fun k => l.length - k) 1 ⟨Nat.le_refl _, h0⟩ ?_ (fun w hw => hw) ?_
  · rw [hm1]
    exact zu
  rintro k ⟨hk1, hk⟩ K hK
  by_cases hlt : k < l.length
  · obtain ⟨y, hy⟩ : ∃ y, l[k]? = some y := ⟨_, List.getElem?_eq_getElem hlt⟩
    repeat' (first | (apply Ylj; exact rfl; exact rfl; exact rfl) | refine zgd ?_ | (refine zge ?_ ?_ <;> intro _ <;> try (exfalso; omega)) | fail)
    apply hK (k + 1)
    · exact ⟨by omega, by omega⟩
    · omega
    · rw [Yi3 hk1 hy]
      exact zu
    · exact fun w hw => hw
  · rw [show l.take k = l from List.take_of_length_le (by omega)]
    repeat' (first | refine zgc ?_ | (refine zge ?_ ?_ <;> intro _ <;> try (exfalso; omega)) | fail)
    apply Yg; exact rfl; exact rfl; exact ⟨rfl, rfl⟩
set_option maxRecDepth 10000 in
set_option maxHeartbeats 2000000 in
theorem YdQ (c : List ClM) (id : Int) {A : Option Addr} {cap B : Nat} {w0 : World} {H : List HP} {w : World} (hc : CIn B w0 H A c) (hw : St B w0 H w) :
    Calls Tryz.prog 37 [.slice A c.length cap, .int .i64 id].toArray w (Post B w0 fun v K => v = .tuple #[.int .i64 (bndE (c.map ClM.clm) id).1, .bool (bndE (c.map ClM.clm) id).2] ∧ K = H) := by
  refine Yf Tryz.func37 Tryz.ntmps37 rfl rfl hw ?_
  have hcl := hc.ln
  have hcr := hc.rd
  repeat' (first | (apply zg29; (apply Yj; exact za ; exact rfl)) | refine zga ?_ | (refine zgh ?_; intro _) | fail)
  rename_i g
  have p1 := fun {H' : List HP} {w : World} (hc : CIn B w0 H' A c) (hm : blk g (.cells #[.int .i64 id] 3 (0, 0)) ∈ H') (hw : St B w0 H' w) => YdV c id g (cap := cap) hc hm hw
  by_cases hex : ∃ i x, (c.map ClM.clm)[i]? = some x ∧ JY id x = true ∧ ∀ y ∈ (c.map ClM.clm).take i, JY id y = false
  · obtain ⟨i, x, hx, hb, hz⟩ := hex
    obtain ⟨h1, h2⟩ := YbT hz hx hb
    have hbe : bndE (c.map ClM.clm) id = (minI x.bounds, true) := by
      unfold bndE
      rw [show (c.map ClM.clm).find? (fun x => decide (x.flow = id) && decide (0 < x.bounds.length)) = some x from h2]
    rw [List.getElem?_map] at hx
    obtain ⟨y, hy, rfl⟩ : ∃ y, c[i]? = some y ∧ y.clm = x := by
      cases hc0 : c[i]? with
      | none => rw [hc0] at hx; cases hx
      | some y => rw [hc0] at hx; exact ⟨y, rfl, Option.some.inj hx⟩
    have hyi := hc.x y (List.mem_of_getElem? hy)
    have hi := (List.getElem?_eq_some_iff.1 hy).1
    have hpos : 1 ≤ y.bs.length := by
      unfold JY at hb
      rw [Bool.and_eq_true, decide_eq_true_eq, decide_eq_true_eq] at hb
      exact hb.2
    rw [h1] at p1
    rw [hbe]
    have p2 := fun {H' : List HP} {w : World} (hr : Rd B w0 H' y.bA (y.bs.flatMap numF)) (hw : St B w0 H' w) => YhR y.bs hyi.ln.2.1 hpos (cap := y.bcap) hr hw
    have hcr2 : Rd B w0 (blk g (.cells #[.int .i64 id] 3 (0, 0)) :: H) A (c.flatMap clF) := hcr.cons
    first | apply Ya en87 | apply Yb en87
    exact za
    exact rfl
    exact fun _ hw => (p1 hc.cons (.head _) hw)
    repeat' (first | refine zgd ?_ | (refine zge ?_ ?_ <;> intro _ <;> try (exfalso; omega)) | fail)
    first | apply Ya en91 | apply Yb en91
    exact za
    exact rfl
    exact fun _ hw => (p2 hyi.bd.cons hw)
    repeat' (first | refine zga ?_ | fail)
    apply Yk H
    · exact zk
    apply Yt; exact rfl; exact rfl; exact rfl; exact ⟨rfl, rfl⟩
  · have hall : ∀ y ∈ c.map ClM.clm, JY id y = false := by
      intro y hy
      cases hb : JY id y with
      | false => rfl
      | true =>
        exfalso
        have hsm : ((c.map ClM.clm).find? (JY id)).isSome = true := by
          rw [List.find?_isSome]; exact ⟨y, hy, hb⟩
        have hsi : ((c.map ClM.clm).findIdx? (JY id)).isSome = true := by
          rw [List.findIdx?_isSome, List.any_eq_true]; exact ⟨y, hy, hb⟩
        obtain ⟨i, hi⟩ := Option.isSome_iff_exists.1 hsi
        rw [List.findIdx?_eq_some_iff_getElem] at hi
        obtain ⟨hlt, hpi, hno⟩ := hi
        refine hex ⟨i, _, List.getElem?_eq_getElem hlt, hpi, fun z hz => ?_⟩
        obtain ⟨j, hj⟩ := List.mem_iff_getElem?.1 hz
        rw [List.getElem?_take] at hj
        split at hj
        · rename_i hji
          obtain ⟨hj1, hj2⟩ := List.getElem?_eq_some_iff.1 hj
          have := hno j hji
          rw [hj2] at this
          simpa using this
        · cases hj
    have hbe : bndE (c.map ClM.clm) id = (0, false) := by
      unfold bndE
      have : (c.map ClM.clm).find? (JY id) = none := by rw [List.find?_eq_none]; exact fun y hy => by rw [hall y hy]; decide
      rw [show (c.map ClM.clm).find? (fun x => decide (x.flow = id) && decide (0 < x.bounds.length)) = none from this]
    rw [YbS hall] at p1
    rw [hbe]
    first | apply Ya en87 | apply Yb en87
    exact za
    exact rfl
    exact fun _ hw => (p1 hc.cons (.head _) hw)
    repeat' (first | refine zgb ?_ | (refine zge ?_ ?_ <;> intro _ <;> try (exfalso; omega)) | fail)
    apply Yk H
    · exact zk
    apply Yt; exact rfl; exact rfl; exact rfl; exact ⟨rfl, rfl⟩
end Go.Proofs.YtmalhidldgfeoaaGreatDoor
namespace Go.Eng
open Go.RowKit
section
variable {P : Program} {B : Nat} {w0 : World} {Q : Exit → Act → World → Prop} {env : Env} {H : List HP} {m : Mode} {n : Shp} {ops : Array Oper} {rest : List Oper} {d : Nat} {ty : TypeId} {pos : String} {after : Array Edge} {xt yt : TypeId} {x y : Operand} {k : IntKind} {a b : Int}
theorem Qw (T : Tab P) {α : Type} {f : α → List Value} {l : List α} {t i q o k : Nat} {b : α} {x : Operand} {A : Option Addr} {vs : List Value} (hx : evo env x = some (sptr A (i * q + o))) (hr : Rd B w0 H A (l.flatMap f)) (hb : l[i]? = some b) (hq : ∀ a, (f a).length = q)
    (ht : look T.ag t = some k) (ho : Nat.ble (o + k) q = true) (h0 : Nat.blt 0 k = true) (hv : subL o k (f b) = vs) (hk : Nat.beq vs.length k = true) (hn : Nat.ble (d + 1) n.k = true)
    (h : VL P m n B w0 ops Q rest ((d, .agg vs.toArray) :: env) H) : VL P m n B w0 ops Q (⟨some d, .load t x, ty, pos, after, none⟩ :: rest) env H := by
  refine Yw rfl rfl hn rfl (fun a w ha hw => ?_) h
  have hk := Nat.eq_of_beq_eq_true hk
  have hk0 : 0 < k := by simpa using h0
  have hok : o + k ≤ q := Nat.le_of_ble_eq_true ho
  have hget : ∀ j v, vs[j]? = some v → (l.flatMap f)[i * q + o + j]? = some v := fun j v hj => by
    have hlt : j < k := by have := (List.getElem?_eq_some_iff.1 hj).1; rwa [hk] at this
    rw [Nat.add_assoc, JU hq l i (o + j) b hb (by omega)]
    rw [← hv, subL, List.getElem?_take, if_pos hlt, List.getElem?_drop] at hj
    exact hj
  obtain ⟨g, u, rfl, _⟩ := hr w hw _ _ (hget 0 _ (List.getElem?_eq_getElem (by rw [hk]; exact hk0)))
  have hl := run_loadCells_list (P := P) w ⟨g, u + (i * q + o), none⟩ vs (fun j v hj => by
    obtain ⟨g', u', e1, hc⟩ := hr w hw _ _ (hget j v hj)
    injection e1 with e1
    injection e1 with e1 e2
    subst e1 e2
    rw [Addr.add_lit, Nat.add_assoc]; exact hc)
  rw [hk] at hl
  simp [execOp, ha.eval hx, sptr, Instr.loadAt, Instr.sureAddr, loadVar, XE (T.aggs ht), Xr (ZA (T.aggs ht)), Addr.add_lit, hl]
end
open Go.RowKit
section
variable {P : Program} {B : Nat} {w0 : World} {Q : Exit → Act → World → Prop} {env : Env} {H : List HP} {m : Mode} {n : Shp} {ops : Array Oper} {rest : List Oper} {d : Nat} {ty : TypeId} {pos : String} {after : Array Edge}
end
end Go.Eng
namespace Go.Proofs.YtmalhidldgfeoaaGreatDoor
open Go.RowKit Go.Eng Go.Nw Go.Rt
set_option maxRecDepth 10000 in
theorem YeI (q : List RqM) {A : Option Addr} {cap B : Nat} {w0 : World} {H : List HP} {w : World} (hl : q.length ≤ 1000000000000) (hr : Rd B w0 H A (q.flatMap rqF)) (hw : St B w0 H w) :
    Calls Tryz.prog 32 [.slice A q.length cap].toArray w (Post B w0 fun v K => ∃ A2 cap2, v = .slice A2 (RqM.fl q).length cap2 ∧ K = flws A2 cap2 (RqM.fl q) :: H) := by
  refine Yf Tryz.func32 Tryz.ntmps32 rfl rfl hw ?_
  repeat' (first | (apply Jf T; exact rfl; exact rfl; intro g2) | refine zgb ?_ | fail)
  refine Yn (fun z : FlM => [(4, .int .i64 (z.i : Nat)), (3, .slice z.A (RqM.fl (q.take z.i)).length z.cap), (0, .slice A q.length cap)]) (fun z => flws z.A z.cap (RqM.fl (q.take z.i)) :: H) (fun z => z.i ≤ q.length) (fun z => q.length - z.i) ⟨0, some ⟨g2, 0, none⟩, 0⟩ (Nat.zero_le _) ?_ (fun w hw => hw) ?_
  · exact zu
  rintro ⟨i, A2, cap2⟩ hi K hK
  dsimp only at hi ⊢
  have hlen : (RqM.fl (q.take i)).length = i := by unfold RqM.fl; rw [List.length_map, List.length_take]; omega
  have hr' := hr.cons (X := flws A2 cap2 (RqM.fl (q.take i)))
  by_cases hlt : i < q.length
  · obtain ⟨x, hx⟩ : ∃ x, q[i]? = some x := ⟨_, List.getElem?_eq_getElem hlt⟩
    have hst : RqM.fl (q.take (i + 1)) = RqM.fl (q.take i) ++ [x.f] := by unfold RqM.fl; rw [List.take_add_one, hx, Option.toList_some, List.map_append]; rfl
    repeat' (first | (apply Qw T (vs := [.int .i64 x.f.1, .int .i64 x.f.2.1, .int .i64 x.f.2.2.1, .int .i64 x.f.2.2.2.1, .int .i64 x.f.2.2.2.2.1, .int .i64 x.f.2.2.2.2.2]); exact rfl; exact hr'; exact hx; exact fun _ => rfl; exact rfl; exact rfl; exact rfl; exact rfl; exact rfl; exact rfl) | refine zgd ?_ | (refine zge ?_ ?_ <;> intro _ <;> try (exfalso; omega)) | (refine zgh ?_; intro _) | (refine zgi ?_; intro _ _) | fail)
    rename_i A' cap'
    rw [YbQ, ← hst, show (RqM.fl (q.take i)).length + 1 = (RqM.fl (q.take (i + 1))).length from by rw [hst]; simp]
    apply hK ⟨i + 1, A', cap'⟩
    · show i + 1 ≤ _
      omega
    · dsimp only; omega
    · exact zu
    · exact zk
  · obtain rfl : i = q.length := by omega
    rw [List.take_length]
    repeat' (first | refine zgc ?_ | (refine zge ?_ ?_ <;> intro _ <;> try (exfalso; omega)) | fail)
    apply Yg; exact rfl; exact rfl
    exact ⟨A2, cap2, rfl, rfl⟩
open Go.ChangeShapes Go.WideShapes Go.ChangeAt Go.RowKit Go.Eng Go.Nw Go.Rt
section
variable {H : Type} {enc : TypeId × Value → H} {W : World} {spare : Nat → Bool} {held : Bool}
structure RtG (W : World) (r : RowM) : Prop where
  old : Old W r.A (r.xs.flatMap numF)
  len : r.xs.length ≤ 9223372036854775807
  cap : r.xs.length ≤ r.cap
  good : ∀ z ∈ r.xs, I64 z
theorem Yi8 : Opn enc Tryz.prog W spare held 72 rowF (RtG W) :=
  Vs (ZR (q := 1) Tryz.underlying72 (by kernel_rfl) (by decide) op_i) YgI (fun _ => rfl) (fun _ h => ⟨h.old, Nat.le_trans h.len maxL, h.cap, h.good⟩)
theorem Yks : Opn enc Tryz.prog W spare held 24 rowF (RtG W) :=
  Vs YcX YgI (fun _ => rfl) (fun _ h => ⟨h.old, Nat.le_trans h.len maxL, h.cap, h.good⟩)
theorem Yhy : Opn enc Tryz.prog W spare held 59 (fun s : SlM RowM => [s.val]) (SlG W rowF (RtG W)) := ZR (q := 1) Tryz.underlying59 (by kernel_rfl) (by decide) Yi8
structure RqG (W : World) (x : RqM) : Prop where
  f : FlwG x.f
  old : Old W x.A (x.rows.flatMap rowF)
  len : x.rows.length ≤ 9223372036854775807
  cap : x.rows.length ≤ x.cap
  good : ∀ r ∈ x.rows, RtG W r
theorem YfI : Opn enc Tryz.prog W spare held 70 rqF (RqG W) :=
  Vs (ZG (ts := [68, 59]) (by kernel_rfl) (YA Ykq (YA Yhy Vh)))
    (fun x => ⟨x.1, x.2.1.A, x.2.1.cap, x.2.1.xs⟩) (fun x => by simp [rqF, flwF, SlM.val]) (fun x h => by
      obtain ⟨h1, h2, _⟩ := h
      exact ⟨h1, h2.old, Nat.le_trans h2.len maxL, h2.cap, h2.good⟩)
theorem Yex : Opn enc Tryz.prog W spare held 45 (fun s : SlM RqM => [s.val]) (SlG W rqF (RqG W)) := ZR (q := 7) Tryz.underlying45 (by kernel_rfl) (by decide) YfI
set_option maxRecDepth 100000 in
theorem YlS {r : Reach} {b0 : Nat} {v : Value} {d : DataW H} {p : List MemPlace} (hv : Value.okWide Tryz.prog W r b0 45 v) (h : DataW.Trod enc Tryz.prog W 0 spare held 45 v d p) : ∃ s : SlM RqM, v = s.val ∧ SlG W rqF (RqG W) s := by
  obtain ⟨a, len, cap, rfl⟩ := okWide_slice Tryz.underlying45 hv
  obtain ⟨fuel, hf⟩ := h
  obtain ⟨n, h1, h2⟩ := Yex fuel _ _ hf
  refine ⟨n, ?_, h2⟩
  injection h1
end
open Go.RowKit Go.Eng Go.Nw Go.Rt
structure ClM.Bg (B : Nat) (w0 : World) (H : List HP) (c : ClM) : Prop where
  rt : Rd B w0 H c.rA (c.rs.flatMap rowF)
  rw_ : ∀ r ∈ c.rs, Rd B w0 H r.A (r.xs.flatMap numF)
  bd : Rd B w0 H c.bA (c.bs.flatMap numF)
  ws : Rd B w0 H c.wA (c.ws.flatMap numF)
  st : Rd B w0 H c.sA (c.ss.flatMap rowF)
  sw : ∀ r ∈ c.ss, Rd B w0 H r.A (r.xs.flatMap numF)
  ln : c.rs.length ≤ 9223372036854775807 ∧ c.bs.length ≤ 9223372036854775807 ∧ c.ws.length ≤ 9223372036854775807 ∧ c.ss.length ≤ 9223372036854775807
  rl : ∀ r ∈ c.rs, r.xs.length ≤ 9223372036854775807
  sl : ∀ r ∈ c.ss, r.xs.length ≤ 9223372036854775807
structure CBg (B : Nat) (w0 : World) (H : List HP) (A : Option Addr) (c : List ClM) : Prop where
  rd : Rd B w0 H A (c.flatMap clF)
  x : ∀ x ∈ c, x.Bg B w0 H
  ln : c.length ≤ 9223372036854775807
def FewX (x : ClM) : Prop := x.rs.length ≤ 3 ∧ x.bs.length ≤ 8 ∧ x.ws.length ≤ 8 ∧ x.ss.length ≤ 8 ∧ (∀ r ∈ x.rs, r.xs.length ≤ 12) ∧ ∀ r ∈ x.ss, r.xs.length ≤ 70
def FewC (c : List ClM) : Prop := c.length ≤ 17 ∧ ∀ x ∈ c, FewX x
theorem CBg.small {B : Nat} {w0 : World} {H : List HP} {A : Option Addr} {c : List ClM} (h : CBg B w0 H A c) (hf : FewC c) : CIn B w0 H A c := by
  refine ⟨h.rd, fun x hx => ?_, by have := hf.1; omega⟩
  have h1 := h.x x hx
  obtain ⟨f1, f2, f3, f4, f5, f6⟩ := hf.2 x hx
  exact ⟨h1.rt, h1.rw_, h1.bd, h1.ws, h1.st, h1.sw, by omega, fun r hr => by have := f5 r hr; omega, fun r hr => by have := f6 r hr; omega⟩
theorem YdI {α : Type} {P : α → Prop} {l : List α} {k : Nat} {x : α} (h : ∀ y ∈ l.take k, P y) (hx : l[k]? = some x) (hp : P x) : ∀ y ∈ l.take (k + 1), P y := fun y hy => by
  rw [List.take_add_one, hx, Option.toList_some] at hy
  rcases List.mem_append.1 hy with h1 | h1
  · exact h y h1
  · rw [List.mem_singleton.1 h1]; exact hp
theorem Ygf {α : Type} {P : α → Prop} {l : List α} {k : Nat} (h : ∀ y ∈ l.take k, P y) (hk : ¬ k < l.length) : ∀ y ∈ l, P y := by
  rw [List.take_of_length_le (by omega)] at h
  exact h
open Go.RowKit Go.Eng Go.Nw
def YcN (n : Net) : Bool := decide ((∀ r ∈ n.power, r.length ≤ 40) ∧ n.power.length ≤ 8 ∧ n.links.length ≤ 60 ∧ n.margin.length ≤ 60)
theorem QZ (n : NetM) {B : Nat} {w0 : World} {H : List HP} {w : World} (hin : n.In B w0 H) (hw : St B w0 H w) :
    Calls Tryz.prog 12 [n.val].toArray w (Post B w0 fun v K => v = .bool (YcN n.net) ∧ K = H) := by
  refine Yf Tryz.func12 Tryz.ntmps12 rfl rfl hw ?_
  obtain ⟨hpw, hrw, hlk, hmg, hs1, hs2, hs3, hs4⟩ := id hin
  have e1 : (∀ r ∈ n.net.power, r.length ≤ 40) ↔ ∀ r ∈ n.rows, r.xs.length ≤ 40 := by simp [NetM.net]
  have e2 : n.net.power.length = n.rows.length := by simp [NetM.net]
  have e3 : n.net.links = n.links := rfl
  have e4 : n.net.margin = n.margin := rfl
  unfold YcN
  rw [e2, e3, e4]
  (apply Zx; apply XH; apply Xv; exact rfl; exact rfl; intro g)
  repeat' (first | refine zgb ?_ | fail)
  refine Yn (fun (a : Nat) => [(3, .int .i64 a), (1, .pointer (some ⟨g, 0, none⟩))]) (fun _ => netN g n :: H) (fun a => a ≤ n.rows.length ∧ ∀ j r, j < a → n.rows[j]? = some r → r.xs.length ≤ 40) (fun a => n.rows.length - a) 0 ⟨Nat.zero_le _, by intro j r hj; omega⟩ ?_ (fun w hw => hw) ?_
  · exact zu
  rintro a ⟨ha, hai⟩ K hK
  unfold netN
  by_cases hlt : a < n.rows.length
  · obtain ⟨r, hr⟩ : ∃ r, n.rows[a]? = some r := ⟨_, List.getElem?_eq_getElem hlt⟩
    have hs2r := hs2 r (List.mem_of_getElem? hr)
    repeat' (first | refine zgd ?_ | (refine zge ?_ ?_ <;> intro _ <;> try (exfalso; omega)) | fail)
    · rename_i h
      apply Ys; apply Yg; exact rfl; exact rfl
      exact ⟨by rw [decide_eq_false fun hc => by have := e1.1 hc.1 r (List.mem_of_getElem? hr); omega], rfl⟩
    · rename_i h
      apply hK (a + 1)
      · refine ⟨by omega, fun j q hj hq => ?_⟩
        by_cases e : j = a
        · subst e; rw [hr] at hq; rw [← Option.some.inj hq]; omega
        · exact hai j q (by omega) hq
      · omega
      · exact zu
      · exact fun w hw => hw
  obtain rfl : a = n.rows.length := by omega
  have hall : ∀ r ∈ n.rows, r.xs.length ≤ 40 := fun r hr => by
    obtain ⟨j, hj⟩ := List.getElem?_of_mem hr
    exact hai j r (List.getElem?_eq_some_iff.1 hj).1 hj
  repeat' (first | refine zgc ?_ | (refine zgf ?_ ?_ <;> intro _ <;> try (exfalso; omega)) | fail)
  · apply Ys; apply Yg; exact rfl; exact rfl
    exact ⟨by rw [decide_eq_true ⟨e1.2 hall, by omega, by omega, by omega⟩], rfl⟩
  all_goals (apply Ys; apply Yg; exact rfl; exact rfl; exact ⟨by rw [decide_eq_false fun hc => by omega], rfl⟩)
open Go.RowKit Go.Eng Go.Nw Go.Rt
structure RqM.Bg (B : Nat) (w0 : World) (H : List HP) (x : RqM) : Prop where
  rt : Rd B w0 H x.A (x.rows.flatMap rowF)
  rw_ : ∀ r ∈ x.rows, Rd B w0 H r.A (r.xs.flatMap numF)
  ln : x.rows.length ≤ 9223372036854775807
  rl : ∀ r ∈ x.rows, r.xs.length ≤ 9223372036854775807 ∧ r.xs.length ≤ r.cap
structure QBg (B : Nat) (w0 : World) (H : List HP) (A : Option Addr) (q : List RqM) : Prop where
  rd : Rd B w0 H A (q.flatMap rqF)
  x : ∀ x ∈ q, x.Bg B w0 H
  ln : q.length ≤ 9223372036854775807
theorem RqM.Bg.mono {B : Nat} {w0 : World} {H H' : List HP} {x : RqM} (h : x.Bg B w0 H) (hH : ∀ w, St B w0 H' w → St B w0 H w) : x.Bg B w0 H' := ⟨h.rt.mono hH, fun r hr => (h.rw_ r hr).mono hH, h.ln, h.rl⟩
theorem QBg.mono {B : Nat} {w0 : World} {H H' : List HP} {A : Option Addr} {q : List RqM} (h : QBg B w0 H A q) (hH : ∀ w, St B w0 H' w → St B w0 H w) : QBg B w0 H' A q := ⟨h.rd.mono hH, fun x hx => (h.x x hx).mono hH, h.ln⟩
def FewR (l : List RowM) : Prop := l.length ≤ 3 ∧ ∀ r ∈ l, r.xs.length ≤ 12
def FewQ (q : List RqM) (s : SchM) : Prop := q.length ≤ 4 ∧ s.cells.length ≤ 30 ∧ ∀ x ∈ q, FewR x.rows
theorem QBg.small {B : Nat} {w0 : World} {H : List HP} {A : Option Addr} {q : List RqM} {s : SchM} (h : QBg B w0 H A q) (hf : FewQ q s) : QIn B w0 H A q := by
  refine ⟨h.rd, fun x hx => ?_, by have := hf.1; omega⟩
  have h1 := h.x x hx
  obtain ⟨f1, f2⟩ := hf.2.2 x hx
  exact ⟨h1.rt, h1.rw_, by omega, fun r hr => ⟨by have := f2 r hr; omega, (h1.rl r hr).2⟩⟩
theorem req_bg {W : World} {s : SlM RqM} {K : List HP} (h : SlG W rqF (RqG W) s) : QBg W.heap.size W K s.A s.xs :=
  ⟨h.old.rd, fun x hx => ⟨(h.good x hx).old.rd, fun r hr => ((h.good x hx).good r hr).old.rd, (h.good x hx).len, fun r hr => ⟨((h.good x hx).good r hr).len, ((h.good x hx).good r hr).cap⟩⟩, Nat.le_trans h.len maxL⟩
set_option maxRecDepth 10000 in
set_option maxHeartbeats 2000000 in
theorem Yfu (n : NetM) (s : SchM) (l : List RowM) {A : Option Addr} {cap B : Nat} {w0 : World} {H : List HP} {w : World} (hin : n.In B w0 H) (hr : Rd B w0 H A (l.flatMap rowF)) (hll : l.length ≤ 9223372036854775807) (_hsl : s.cells.length ≤ 9223372036854775807) (hlr : ∀ r ∈ l, r.xs.length ≤ 9223372036854775807) (hw : St B w0 H w) :
    Calls Tryz.prog 66 [n.val, s.val, .slice A l.length cap].toArray w (Post B w0 fun v K => (∃ b, v = .bool b ∧ (b = true → FewR l)) ∧ K = H) := by
  refine Yf Tryz.func66 Tryz.ntmps66 rfl rfl hw ?_
  unfold NetM.val SchM.val
  have p1 := fun {H' : List HP} {w : World} (hin : n.In B w0 H') (hw : St B w0 H' w) => QZ n hin hw
  unfold NetM.val at p1
  repeat' (first | refine zgb ?_ | (refine zgh ?_; intro _) | fail)
  rename_i g3 g4
  refine Yn (fun k : Nat => [(7, .int .i64 (k : Nat)), (2, .slice A l.length cap), (4, .pointer (some ⟨g4, 0, none⟩)), (3, .pointer (some ⟨g3, 0, none⟩))]) (fun _ => schA g4 s :: netA g3 n :: H) (fun k => k ≤ l.length ∧ ∀ r ∈ l.take k, r.xs.length ≤ 12) (fun k => l.length - k) 0 ⟨Nat.zero_le _, by simp⟩ ?_ (fun w hw => hw) ?_
  · exact zu
  rintro k ⟨hk, hz⟩ K hK
  have hr2 : Rd B w0 (schA g4 s :: netA g3 n :: H) A (l.flatMap rowF) := hr.cons.cons
  by_cases hlt : k < l.length
  · obtain ⟨r, hx⟩ : ∃ r, l[k]? = some r := ⟨_, List.getElem?_eq_getElem hlt⟩
    have hrl := hlr r (List.mem_of_getElem? hx)
    repeat' (first | refine zgd ?_ | (refine zge ?_ ?_ <;> intro _ <;> try (exfalso; omega)) | fail)
    · apply Yk H
      · exact zk
      apply Yg; exact rfl; exact rfl; exact ⟨⟨_, rfl, fun h => by cases h⟩, rfl⟩
    · apply hK (k + 1)
      · exact ⟨by omega, YdI hz hx (by omega)⟩
      · omega
      · exact zu
      · exact fun w hw => hw
  · have hz := Ygf hz hlt
    clear hK
    cases hb : YcN n.net <;> (
      rw [hb] at p1
      repeat' (first | refine zgc ?_ | (refine zge ?_ ?_ <;> intro _ <;> try (exfalso; omega)) | fail)
      first | apply Ya en12 | apply Yb en12
      exact za
      exact rfl
      exact fun _ hw => (p1 (hin.mono zk) hw)
      repeat' (first | refine zgc ?_ | (refine zgf ?_ ?_ <;> intro _ <;> try (exfalso; omega)) | fail)
      all_goals (
        apply Yk H
        · exact zk
        apply Yg; exact rfl; exact rfl
        exact ⟨⟨_, rfl, fun h => by first | (exact absurd h (by decide)) | (rw [decide_eq_true_eq] at h; exact ⟨by omega, hz⟩) | exact ⟨by omega, hz⟩⟩, rfl⟩))
set_option maxRecDepth 10000 in
set_option maxHeartbeats 2000000 in
theorem Yfv (n : NetM) (q : List RqM) (s : SchM) {A : Option Addr} {cap B : Nat} {w0 : World} {H : List HP} {w : World} (hin : n.In B w0 H) (hq : QBg B w0 H A q) (hsl : s.cells.length ≤ 9223372036854775807) (hw : St B w0 H w) :
    Calls Tryz.prog 18 [n.val, .slice A q.length cap, s.val].toArray w (Post B w0 fun v K => (∃ b, v = .bool b ∧ (b = true → FewQ q s)) ∧ K = H) := by
  refine Yf Tryz.func18 Tryz.ntmps18 rfl rfl hw ?_
  unfold NetM.val SchM.val
  have p1 := fun {H' : List HP} {w : World} (hin : n.In B w0 H') (hw : St B w0 H' w) => QZ n hin hw
  have p2 := fun {x : RqM} {H' : List HP} {w : World} (hin : n.In B w0 H') (hx : x.Bg B w0 H') (hw : St B w0 H' w) => Yfu n ⟨0, 0, none, 0, []⟩ x.rows (cap := x.cap) hin hx.rt hx.ln (by simp) (fun r hr => (hx.rl r hr).1) hw
  unfold NetM.val at p1 p2
  have hql := hq.ln
  repeat' (first | refine zgb ?_ | (refine zgh ?_; intro _) | fail)
  rename_i g3 g4
  refine Yn (fun k : Nat => [(7, .int .i64 (k : Nat)), (1, .slice A q.length cap), (5, .pointer (some ⟨g4, 0, none⟩)), (3, .pointer (some ⟨g3, 0, none⟩))]) (fun _ => schA g4 s :: netA g3 n :: H) (fun k => k ≤ q.length ∧ ∀ x ∈ q.take k, FewR x.rows) (fun k => q.length - k) 0 ⟨Nat.zero_le _, by simp⟩ ?_ (fun w hw => hw) ?_
  · exact zu
  rintro k ⟨hk, hz⟩ K hK
  have hr2 : Rd B w0 (schA g4 s :: netA g3 n :: H) A (q.flatMap rqF) := hq.rd.cons.cons
  by_cases hlt : k < q.length
  · obtain ⟨x, hx⟩ : ∃ x, q[k]? = some x := ⟨_, List.getElem?_eq_getElem hlt⟩
    have hxb := hq.x x (List.mem_of_getElem? hx)
    repeat' (first | refine zgb ?_ | (refine zge ?_ ?_ <;> intro _ <;> try (exfalso; omega)) | fail)
    apply YN [0, 1, 2, 3, 4, 5, 6, 7, 8] []
    kernel_rfl
    kernel_rfl
    (simp only [Yl, nthO]; rfl)
    exact rfl
    repeat' (first | refine zgd ?_ | fail)
    apply Yr _ en66
    exact za
    exact rfl
    exact fun _ hw => (p2 (hin.mono zk) (hxb.mono zk) (hw))
    rintro _ _ ⟨⟨b, rfl, hb⟩, hK0⟩
    rw [hK0]
    cases b with
    | false =>
      repeat' (first | (apply Yi; (repeat (first | with_reducible exact Yh | (with_reducible apply Yd; (repeat (first | with_reducible exact Ye | with_reducible apply Yc)))))) | refine zgd ?_ | fail)
      · show Perm H (H ++ [])
        rw [List.append_nil]; exact Perm.refl _
      repeat' (first | fail)
      apply Yk H
      · exact zk
      apply Yg; exact rfl; exact rfl; exact ⟨⟨_, rfl, fun h => by cases h⟩, rfl⟩
    | true =>
      have hb := hb rfl
      repeat' (first | (apply Yi; (repeat (first | with_reducible exact Yh | (with_reducible apply Yd; (repeat (first | with_reducible exact Ye | with_reducible apply Yc)))))) | refine zgd ?_ | fail)
      · show Perm H (H ++ [])
        rw [List.append_nil]; exact Perm.refl _
      repeat' (first | fail)
      apply hK (k + 1)
      · exact ⟨by omega, YdI hz hx hb⟩
      · omega
      · exact zu
      · exact fun w hw => hw
  · have hz := Ygf hz hlt
    clear hK
    cases hb : YcN n.net <;> (
      rw [hb] at p1
      repeat' (first | refine zgc ?_ | (refine zge ?_ ?_ <;> intro _ <;> try (exfalso; omega)) | fail)
      first | apply Ya en12 | apply Yb en12
      exact za
      exact rfl
      exact fun _ hw => (p1 (hin.mono zk) hw)
      repeat' (first | refine zgc ?_ | (refine zgf ?_ ?_ <;> intro _ <;> try (exfalso; omega)) | fail)
      all_goals (
        apply Yk H
        · exact zk
        apply Yg; exact rfl; exact rfl
        exact ⟨⟨_, rfl, fun h => by first | (exact absurd h (by decide)) | (rw [decide_eq_true_eq] at h; exact ⟨by omega, by omega, hz⟩) | exact ⟨by omega, by omega, hz⟩⟩, rfl⟩))
open Go.RowKit Go.Eng Go.Nw
theorem J1 {n : Int} (h : 0 ≤ n ∧ n < 10) : Lib.itoa n = [UInt8.ofNat (48 + n.toNat)] := by
  rw [J0 h.1, Lib.decDigits_one (by omega)]
end Go.Proofs.YtmalhidldgfeoaaGreatDoor
namespace Go.Eng
open Go.RowKit
theorem YgZ {P : Program} {B : Nat} {w0 : World} {env : Env} {H : List HP} {n : Nat} (T : Tab P) {fn : Func} {Φ : Value → List HP → Prop} {p g k u p2 g2 k2 rt rt2 : Nat} {x : Value} {cs cs2 : Array Value} {tt tt2 : TypeId} {fr fr2 : Nat × Nat} (hr : fn.results = #[.cell p rt, .tmp u, .cell p2 rt2]) (hp : get env p = some (.pointer (some ⟨g, 0, none⟩))) (hu : get env u = some x) (hp2 : get env p2 = some (.pointer (some ⟨g2, 0, none⟩)))
    (hm : blk g (.cells cs tt fr) ∈ H) (hm2 : blk g2 (.cells cs2 tt2 fr2) ∈ H) (ht : look T.ag rt = some k) (ht2 : look T.ag rt2 = some k2) (hk : cs.size = k) (hk2 : cs2.size = k2) {H2 : List HP} (hH : ∀ w, St B w0 H w → St B w0 H2 w) (h : Φ (.tuple #[.agg cs, x, .agg cs2]) H2) : VQ ⟨n, [], none⟩ B w0 (bodyPost P fn (Post B w0 Φ)) .ret env H := by
  refine ⟨fun a w ha hw => bodyPost_ret (v := .tuple #[.agg cs, x, .agg cs2]) ?_ ha.defers ⟨_, H2, rfl, hH w hw, h⟩⟩
  have hp' := ha.slot p _ hp
  have hp2' := ha.slot p2 _ hp2
  simp [results, hr, Array.getD_eq_getD_getElem?, hp', hp2', ha.slot u _ hu, asAddr, Z9 T (hw.blk hm).1 ht hk, Z9 T (hw.blk hm2).1 ht2 hk2]
end Go.Eng
namespace Go.Proofs.YtmalhidldgfeoaaGreatDoor
open Go.RowKit Go.Eng Go.Nw Go.Rt
def exN8 : Net := ⟨3, [[0, 9, 9], [9, 0, 9], [9, 9, 0]], 1, 1000, [(0, 1, 1), (1, 0, 0), (1, 2, 1), (2, 1, 0)], [9, 9, 9, 9]⟩
def exQ : List Rqs := [((3, 0, 2, 6, 0, 6), [[0, 1, 2]])]
def exZ : Sch := ⟨6, 1, [(0, 0, 0, 1, 3), (1, 0, 1, 2, 3), (2, 0, 0, 1, 3), (3, 0, 1, 2, 3), (4, 0, 1, 2, 3)]⟩
set_option maxRecDepth 10000 in
set_option maxHeartbeats 4000000 in
theorem Yfs {B : Nat} {w0 : World} {H : List HP} {w : World} (hw : St B w0 H w) :
    Calls Tryz.prog 65 [].toArray w (Post B w0 fun v K => ∃ (n : NetM) (A : Option Addr) (cap : Nat) (q : List RqM) (s : SchM), v = .tuple #[n.val, .slice A q.length cap, s.val] ∧ n.net = exN8 ∧ q.map RqM.rq = exQ ∧ s.sch = exZ ∧ n.In B w0 K ∧ QIn B w0 K A q ∧ Rd B w0 K s.A (s.cells.flatMap celF) ∧ ∀ w, St B w0 K w → St B w0 H w) := by
  refine Yf Tryz.func65 Tryz.ntmps65 rfl rfl hw ?_
  repeat' (first | refine zgd ?_ | (refine zgh ?_; intro _) | fail)
  rename_i g0 g2 r5 r6 r7 gp gm g3 gl gc g4
  apply Ur (.n1 0 (.n1 1 (.n1 6 (.n2 2 (.n2 3 (.n1 4 (.n2 5 (.n1 7 (.n1 8 .done)) 7 (.n1 5 (.n1 8 .done)))) 7 (.n1 3 (.n1 4 (.n1 5 (.n1 8 .done))))) 7 (.n1 2 (.n1 3 (.n1 4 (.n1 5 (.n1 8 .done))))))))) [9] [true, false, false, true]
  kernel_rfl
  kernel_rfl
  exact zy
  (simp only [Yl, nthO]; rfl)
  repeat' (first | (apply Yi; (repeat (first | with_reducible exact Yh | (with_reducible apply Yd; (repeat (first | with_reducible exact Ye | with_reducible apply Yc)))))) | apply (zs91 ?_ ?_) | (apply Yo; (repeat (first | with_reducible exact Yh | (with_reducible apply Yd; (repeat (first | with_reducible exact Ye | with_reducible apply Yc)))))) | refine zgd ?_ | (refine zgh ?_; intro _) | fail)
  all_goals (
    rename_i gi gr gq
    apply YgZ T; exact rfl; exact rfl; exact rfl; exact rfl; exact zm; exact zm; exact rfl; exact rfl; exact rfl; exact rfl; exact fun w hw => hw
    refine ⟨⟨3, (some ⟨gp, 0, none⟩), 3, [⟨(some ⟨r5, 0, none⟩), 3, [0, 9, 9]⟩, ⟨(some ⟨r6, 0, none⟩), 3, [9, 0, 9]⟩, ⟨(some ⟨r7, 0, none⟩), 3, [9, 9, 0]⟩], 1, 1000, (some ⟨gl, 0, none⟩), 4, [(0, 1, 1), (1, 0, 0), (1, 2, 1), (2, 1, 0)], (some ⟨gm, 0, none⟩), 4, [9, 9, 9, 9]⟩, (some ⟨gq, 0, none⟩), 1, [⟨(3, 0, 2, 6, 0, 6), (some ⟨gr, 0, none⟩), 1, [⟨(some ⟨gi, 0, none⟩), 3, [0, 1, 2]⟩]⟩], ⟨6, 1, (some ⟨gc, 0, none⟩), 5, exZ.cells⟩, rfl, rfl, rfl, rfl, ?_, ?_, ?_, ?_⟩
    · refine ⟨Rd.blk (cs := #[.slice (some ⟨r5, 0, none⟩) 3 3, .slice (some ⟨r6, 0, none⟩) 3 3, .slice (some ⟨r7, 0, none⟩) 3 3]) (t := 24) (fr := (0, 0)) zm, fun r hr => ?_, Rd.blk (cs := #[.int .i64 0, .int .i64 1, .int .i64 1, .int .i64 1, .int .i64 0, .int .i64 0, .int .i64 1, .int .i64 2, .int .i64 1, .int .i64 2, .int .i64 1, .int .i64 0]) (t := 172) (fr := (0, 0)) zm, Rd.blk (cs := #[.int .i64 9, .int .i64 9, .int .i64 9, .int .i64 9]) (t := 3) (fr := (0, 0)) zm, by show 3 ≤ _; omega, fun r hr => ?_, by show 4 ≤ _; omega, by show 4 ≤ _; omega⟩
      · simp only [List.mem_cons, List.not_mem_nil, or_false] at hr
        rcases hr with rfl | rfl | rfl
        · exact Rd.blk (cs := #[.int .i64 0, .int .i64 9, .int .i64 9]) (t := 3) (fr := (0, 0)) zm
        · exact Rd.blk (cs := #[.int .i64 9, .int .i64 0, .int .i64 9]) (t := 3) (fr := (0, 0)) zm
        · exact Rd.blk (cs := #[.int .i64 9, .int .i64 9, .int .i64 0]) (t := 3) (fr := (0, 0)) zm
      · simp only [List.mem_cons, List.not_mem_nil, or_false] at hr
        rcases hr with rfl | rfl | rfl <;> (show 3 ≤ _; omega)
    · refine ⟨Rd.blk (cs := #[.int .i64 3, .int .i64 0, .int .i64 2, .int .i64 6, .int .i64 0, .int .i64 6, .slice (some ⟨gr, 0, none⟩) 1 1]) (t := 70) (fr := (0, 0)) zm, fun x hx => ?_, by show 1 ≤ _; omega⟩
      obtain rfl := List.mem_singleton.1 hx
      refine ⟨Rd.blk (cs := #[.slice (some ⟨gi, 0, none⟩) 3 3]) (t := 72) (fr := (0, 0)) zm, fun r hr => ?_, by show 1 ≤ _; omega, fun r hr => ?_⟩
      · obtain rfl := List.mem_singleton.1 hr
        exact Rd.blk (cs := #[.int .i64 0, .int .i64 1, .int .i64 2]) (t := 3) (fr := (0, 0)) zm
      · obtain rfl := List.mem_singleton.1 hr
        exact ⟨by show 3 ≤ _; omega, by show 3 ≤ 3; omega⟩
    · exact Rd.blk (cs := #[.int .i64 0, .int .i64 0, .int .i64 0, .int .i64 1, .int .i64 3, .int .i64 1, .int .i64 0, .int .i64 1, .int .i64 2, .int .i64 3, .int .i64 2, .int .i64 0, .int .i64 0, .int .i64 1, .int .i64 3, .int .i64 3, .int .i64 0, .int .i64 1, .int .i64 2, .int .i64 3, .int .i64 4, .int .i64 0, .int .i64 1, .int .i64 2, .int .i64 3]) (t := 40) (fr := (0, 0)) zm
    · exact zk)
open Go.RowKit Go.Eng Go.Nw Go.Rt
def exK : Clm := ⟨3, [[0, 1, 2]], [5], [0], [[0, 2, 3, 4]]⟩
theorem Ygw : Zt exN8 exQ exZ = ([exK], (-1, 0)) := by decide
theorem YbL : VJ [exK] = true := by decide
theorem YiO : bndE [exK] 3 = (5, true) := by decide
def QX : List UInt8 := [102, 108, 111, 119, 32, 51, 10, 114, 111, 117, 116, 101, 32, 48, 32, 49, 32, 50, 10, 98, 111, 117, 110, 100, 32, 53, 32, 48, 10, 115, 108, 111, 116, 115, 32, 48, 32, 50, 32, 51, 32, 52, 10]
theorem YbM : OS [exK] = QX := by
  have h0 : Lib.itoa 0 = [48] := J1 (by omega)
  have h1 : Lib.itoa 1 = [49] := J1 (by omega)
  have h2 : Lib.itoa 2 = [50] := J1 (by omega)
  have h3 : Lib.itoa 3 = [51] := J1 (by omega)
  have h4 : Lib.itoa 4 = [52] := J1 (by omega)
  have h5 : Lib.itoa 5 = [53] := J1 (by omega)
  unfold OS Zw exK
  simp only [List.flatMap_cons, List.flatMap_nil, List.length_cons, List.length_nil, show List.range (0 + 1) = [0] from rfl]
  unfold YeJ YO rtAt
  simp [h0, h1, h2, h3, h4, h5, QX, wordF, wordR, wordB, wordL]
set_option maxRecDepth 10000 in
set_option maxHeartbeats 4000000 in
theorem YeY {B : Nat} {w0 : World} {H : List HP} {w : World} (ht : TabsB B w0) (hw : St B w0 H w) :
    Calls Tryz.prog 17 [].toArray w (Post B w0 fun v K => v = .bool true ∧ K = H) := by
  refine Yf Tryz.func17 Tryz.ntmps17 rfl rfl hw ?_
  have hpr : Uj [exK] = (QX, 0) := by unfold Uj; rw [YbL, if_neg (by decide), YbM]
  have hpa : W8 QX = ([exK], (-1, 0)) := by rw [← YbM]; exact Yc0 YbL
  repeat' (first | refine zga ?_ | fail)
  apply Yr _ en65
  exact za
  exact rfl
  exact fun _ hw => (Yfs (hw))
  rintro _ K0 ⟨n, A, cap, q, s, rfl, hn, hq, hs, hin, hqin, hrs, hback⟩
  have hsl : s.cells.length ≤ 1000000000000 := by
    have h1 : s.sch.cells.length = 5 := by rw [hs]; rfl
    have h2 : s.cells.length = 5 := h1
    omega
  have p1 : ∀ {H' : List HP} {w : World}, n.In B w0 H' → QIn B w0 H' A q → Rd B w0 H' s.A (s.cells.flatMap celF) → St B w0 H' w → Calls Tryz.prog 19 [n.val, .slice A q.length cap, s.val].toArray w (Post B w0 (OutC H' ([exK], (-1, 0)))) := fun hin hqin hrs hw => by
    have h := W5 n q s (cap := cap) ht hin hqin hrs hsl hw
    rw [hn, hq, hs, Ygw] at h
    exact h
  have hchk : chkE exN8 exQ exZ [exK] = (-1, 0) := by unfold chkE; rw [Ygw]; decide
  unfold NetM.val SchM.val
  unfold NetM.val SchM.val at p1
  repeat' (first | refine zgd ?_ | (refine zgh ?_; intro _) | fail)
  apply Yr _ en19
  exact za
  exact rfl
  exact fun _ hw => (p1 (hin.mono zk) (hqin.mono zk) (hrs.mono zk) (hw))
  rintro _ _ ⟨A2, cap2, C, rfl, hC, hCl, rfl⟩
  have hC : C.map ClM.clm = [exK] := hC
  have hCn : C.length = 1 := by have := congrArg List.length hC; rwa [List.length_map] at this
  have hcin : ∀ {H' : List HP}, clsP A2 cap2 C ∈ H' → many (C.map clQ) ∈ H' → CIn B w0 H' A2 C := fun h1 h2 => ⟨.sl h1, fun x hx => W7 h2 hx (hCl x hx), by omega⟩
  have p2 : ∀ {H' : List HP} {w : World}, CIn B w0 H' A2 C → St B w0 H' w → Calls Tryz.prog 25 [.slice A2 C.length cap2].toArray w (Post B w0 fun v K => v = .tuple #[strV QX, .int .i64 0] ∧ K = H') := fun hc hw => by
    have h := Yd4 C (cap := cap2) ht hc hw
    rw [hC, hpr] at h
    exact h
  have p3 : ∀ {H' : List HP} {w : World}, n.In B w0 H' → QIn B w0 H' A q → Rd B w0 H' s.A (s.cells.flatMap celF) → CIn B w0 H' A2 C → St B w0 H' w → Calls Tryz.prog 23 [n.val, .slice A q.length cap, s.val, .slice A2 C.length cap2].toArray w (Post B w0 fun v K => v = .tuple #[.int .i64 (-1), .int .i64 0] ∧ K = H') := fun hin hqin hrs hc hw => by
    have h := YcG n q s C (cap := cap) (cap1 := cap2) ht hin hqin hrs hsl hc hw
    rw [hn, hq, hs, hC, hchk] at h
    exact h
  have p4 : ∀ {H' : List HP} {w : World}, St B w0 H' w → Calls Tryz.prog 27 [strV QX].toArray w (Post B w0 (OutC H' ([exK], (-1, 0)))) := fun hw => by
    have h := Yd3 QX (by decide) ht hw
    rw [hpa] at h
    exact h
  have p5 : ∀ {H' : List HP} {w : World}, CIn B w0 H' A2 C → St B w0 H' w → Calls Tryz.prog 37 [.slice A2 C.length cap2, .int .i64 3].toArray w (Post B w0 fun v K => v = .tuple #[.int .i64 5, .bool true] ∧ K = H') := fun hc hw => by
    have h := YdQ C 3 (cap := cap2) hc hw
    rw [hC, YiO] at h
    exact h
  unfold NetM.val SchM.val at p3
  repeat' (first | refine zgc ?_ | fail)
  first | apply Ya en25 | apply Yb en25
  exact za
  exact rfl
  exact fun _ hw => (p2 (hcin zm zm) hw)
  repeat' (first | refine zgc ?_ | fail)
  first | apply Ya en23 | apply Yb en23
  exact za
  exact rfl
  exact fun _ hw => (p3 (hin.mono zk) (hqin.mono zk) (hrs.mono zk) (hcin zm zm) hw)
  repeat' (first | refine zgc ?_ | fail)
  apply Yr _ en27
  exact za
  exact rfl
  exact fun _ hw => (p4 (hw))
  rintro _ _ ⟨A3, cap3, C3, rfl, hC3, hCl3, rfl⟩
  have hC3 : C3.map ClM.clm = [exK] := hC3
  have hCn3 : C3.length = 1 := by have := congrArg List.length hC3; rwa [List.length_map] at this
  have hcin3 : ∀ {H' : List HP}, clsP A3 cap3 C3 ∈ H' → many (C3.map clQ) ∈ H' → CIn B w0 H' A3 C3 := fun h1 h2 => ⟨.sl h1, fun x hx => W7 h2 hx (hCl3 x hx), by omega⟩
  have p6 : ∀ {H' : List HP} {w : World}, CIn B w0 H' A2 C → CIn B w0 H' A3 C3 → St B w0 H' w → Calls Tryz.prog 21 [.slice A2 C.length cap2, .slice A3 C3.length cap3].toArray w (Post B w0 fun v K => v = .bool true ∧ K = H') := fun hc hd hw => by
    have h := YaE C C3 (cap := cap2) (cap2 := cap3) hc hd hw
    rw [hC, hC3, decide_eq_true rfl] at h
    exact h
  dsimp only
  repeat' (first | refine zgc ?_ | fail)
  first | apply Ya en37 | apply Yb en37
  exact za
  exact rfl
  exact fun _ hw => (p5 (hcin zm zm) hw)
  repeat' (first | (apply Ycs; exact rfl; exact rfl; exact rfl; all_goals (intro hE; try (exact absurd rfl hE))) | refine zgc ?_ | (refine zgf ?_ ?_ <;> intro _ <;> try (exfalso; omega)) | fail)
  first | apply Ya en21 | apply Yb en21
  exact za
  exact rfl
  exact fun _ hw => (p6 (hcin zm zm) (hcin3 zm zm) hw)
  repeat' (first | refine zgc ?_ | (refine zgf ?_ ?_ <;> intro _ <;> try (exfalso; omega)) | fail)
  apply Yk H
  · intro w hw
    refine hback w ?_
    revert w
    exact zk
  apply Yg; exact rfl; exact rfl
  exact ⟨rfl, rfl⟩
open Go.RowKit Go.Eng Go.Nw Go.Rt
theorem Ylw {r : List Int} (h : r.Nodup) {i : Nat} (hi : i < r.length) : Yq (fun y => decide (r.getD i 0 = y)) r 0 = (i : Nat) := by
  have h1 : r[i]? = some (r.getD i 0) := by rw [List.getD_eq_getElem?_getD, List.getElem?_eq_getElem hi]; rfl
  have h0 := @U0 _ (fun y => decide (r.getD i 0 = y)) r 0 i _ h1 (decide_eq_true rfl) (fun j b hj hb => by
    obtain ⟨h2, rfl⟩ := List.getElem?_eq_some_iff.1 hb
    refine decide_eq_false fun e => ?_
    rw [List.getD_eq_getElem?_getD, List.getElem?_eq_getElem hi] at e
    exact List.pairwise_iff_getElem.1 h j i h2 hi hj e.symm)
  rw [h0]; omega
theorem Yhs {n : Net} {r : List Int} {i : Nat} (h : Xa n (r.getD i 0) (r.getD (i + 1) 0) = true) (id k : Int) : OK n [id, k, r.getD i 0, r.getD (i + 1) 0] = some (X0 n r i).2.2 := by
  show (if 0 ≤ YC n (r.getD i 0) (r.getD (i + 1) 0) then some (lnk n (YC n (r.getD i 0) (r.getD (i + 1) 0)).toNat).2.2 else none) = _
  rw [if_pos (Ux h)]; rfl
theorem Yhv {n : Net} {a b : Int} {r : List Int} (hr : XQ n a b r = 0) {atts : List AttM} {out : List BrM} (hbr : ∀ (k : KL) b, OK n k = some b → brO b (osK atts k) 0 = true → ∃ x ∈ out, [x.f, x.k, x.u, x.v] = k) {id k : Int} (hno : out.any (onBr id k r) = false) :
    ∀ x ∈ YB n r, brO x.2.2 ((keyL atts id k x.1 x.2.1).map AttM.o) 0 = false := by
  intro x hx
  obtain ⟨-, -, -, hnd, hk⟩ := OJ hr
  obtain ⟨-, -, hg⟩ := Vd hr
  unfold YB at hx
  obtain ⟨i, hi, rfl⟩ := List.mem_map.1 hx
  have hi := List.mem_range.1 hi
  have hi2 : i + 1 < r.length := by omega
  obtain ⟨k1, k2⟩ := hk i hi2
  rw [k1, k2, ← Yja]
  cases hb : brO (X0 n r i).2.2 (osK atts [id, k, r.getD i 0, r.getD (i + 1) 0]) 0 with
  | false => rfl
  | true =>
    obtain ⟨y, hy, e⟩ := hbr _ _ (Yhs (hg i hi2) id k) hb
    obtain ⟨e1, e⟩ := List.cons.inj e
    obtain ⟨e2, e⟩ := List.cons.inj e
    obtain ⟨e3, e⟩ := List.cons.inj e
    obtain ⟨e4, -⟩ := List.cons.inj e
    exfalso
    apply List.any_eq_false.1 hno y hy
    refine decide_eq_true ?_
    rw [e3, e4, Ylw hnd (by omega), Int.toNat_natCast]
    exact ⟨e1, e2, by omega, hi2, rfl⟩
theorem Ykx {l : List Flw} {s : Sch} {n : Int} {j : Nat} {p : PlM} (h : Pl l s n j p) : 0 ≤ n ∧ ∀ d ∈ p.dels, 0 ≤ d.2.2 := by
  induction h with
  | start => exact ⟨Int.le_refl _, fun d hd => by cases hd⟩
  | rel st h _ _ ih => exact ih
  | skip h _ _ ih => exact ih
  | att o h _ _ _ _ _ ih =>
    refine ⟨ih.1, fun d hd => ?_⟩
    rcases List.mem_append.1 hd with hd | hd
    · exact ih.2 d hd
    · unfold delS at hd
      split at hd
      · rw [List.mem_singleton.1 hd]; exact ih.1
      · cases hd
  | next ds h hp ih => exact ⟨by have := ih.1; omega, fun d hd => ih.2 d (hp.mem_iff.1 hd)⟩
theorem YfD {n : Net} {s : Sch} {l : List Flw} {sl : Int} {st : List StM} {atts : List AttM} {dels : List (Int × Int × Int)} {out : List BrM} (hpl : Pl l s sl 0 ⟨st, atts, dels⟩) (hf32 : (YR 32 l).2 = 0) {f : Flw} (hf : f ∈ l) (hl : 1 ≤ s.len) {r : List Int} (hr : (YS n s f r).2 = 0) (hdl : (YS n s f r).1.1 ≤ f.2.2.2.2.2)
    (hbr : ∀ (k : KL) b, OK n k = some b → brO b (osK atts k) 0 = true → ∃ x ∈ out, [x.f, x.k, x.u, x.v] = k) {k : Int} (hk : k ∈ frsL f 0 (max 0 (sl - f.2.2.2.1 + 1))) (hno : out.any (onBr f.1 k r) = false) :
    ∃ t, delT dels f.1 k = some t ∧ 0 ≤ t ∧ t - Yy f k + 1 ≤ (YS n s f r).1.1 := by
  obtain ⟨hw, b, hb, he⟩ := WA hr
  obtain ⟨hc, hfm, -, hmod, hck⟩ := Ydd hw
  obtain ⟨hg, hid⟩ := UX hf32
  have hfx := hg f hf
  obtain ⟨h1, h2, -, h4⟩ := Xm hfx
  obtain ⟨hk0, hk1⟩ := Ygy hfx (by omega) hk
  have hfk : 0 ≤ Yy f k := by
    have := Int.mul_nonneg hk0 (show 0 ≤ perF f by unfold perF; omega)
    unfold Yy phaF
    omega
  rw [he] at hdl ⊢
  dsimp only at hdl ⊢
  obtain ⟨hch, hloss, hne, -, -⟩ := OJ hck
  obtain ⟨t, ht, htl, hun⟩ := Yhm (fun f hf => Ykd (hg f hf)) hid hpl hf hfm hl (by unfold phaF perF; omega) hmod hne hch hloss (b := b) hb hk0 (by omega) (Yhv hck hbr hno)
  refine ⟨t, ?_, (Ykx hpl).2 _ ht, htl⟩
  unfold delT
  cases hfi : dels.find? (Wn f.1 k) with
  | none => exact absurd (show Wn f.1 k (f.1, k, t) = true from decide_eq_true ⟨rfl, rfl⟩) (by have := List.find?_eq_none.1 hfi _ ht; exact this)
  | some d =>
    have h6 : Wn f.1 k d = true := List.find?_some hfi
    have h5 := of_decide_eq_true (show decide (d.1 = f.1 ∧ d.2.1 = k) = true from h6)
    have := hun d (List.mem_of_find?_eq_some hfi) h5.1 h5.2
    rw [Option.map_some, this]
theorem YdX {n : Net} {s : Sch} {q : List Rqs} (h : (Zt n q s).2.2 = 0) {x : Rqs} (hx : x ∈ q) {r : List Int} (hr : r ∈ x.2) : (YS n s x.1 r).2 = 0 ∧ (YS n s x.1 r).1.1 ≤ x.1.2.2.2.2.2 := by
  have hw := (YdU.1 h).2 x hx
  unfold Ych at hw
  rw [Bool.and_eq_true] at hw
  have hl := hw.2
  simp only [Bool.not_eq_true'] at hl
  exact YgC hl hr
open Go.RowKit Go.Eng Go.Nw Go.Rt
section
variable {P : Program} {n : Shp} {B : Nat} {w0 : World} {Q : Exit → Act → World → Prop} {env : Env} {H : List HP} {m : Eng.Mode} {ops : Array Oper} {rest : List Oper} {d : Nat} {ty : TypeId} {pos : String} {after : Array Edge}
theorem YjS {x y : Operand} {k : IntKind} {a b : Int} {tys : Array TypeId} (hx : evo env x = some (.int k a)) (hy : evo env y = some (.int k b)) (hn : Nat.ble (d + 1) n.k = true) (ha : 0 ≤ a) (hb : 0 ≤ b) (h : ∀ z, 0 ≤ z → z ≤ b → VL P m n B w0 ops Q rest ((d, .int k z) :: env) H) :
    VL P m n B w0 ops Q (⟨some d, .call ⟨.builtin .min, #[x, y], tys⟩, ty, pos, after, none⟩ :: rest) env H :=
  Yga hx hy hn (fun _ => h _ (by omega) (by omega)) (fun _ => h _ (by omega) (by omega))
theorem YjR {x y : Operand} {k : IntKind} {a b : Int} {tys : Array TypeId} (hx : evo env x = some (.int k a)) (hy : evo env y = some (.int k b)) (hn : Nat.ble (d + 1) n.k = true) (h : VL P m n B w0 ops Q rest ((d, .int k (max a b)) :: env) H) :
    VL P m n B w0 ops Q (⟨some d, .call ⟨.builtin .max, #[x, y], tys⟩, ty, pos, after, none⟩ :: rest) env H :=
  Yf9 hx hy hn (fun hlt => by rw [show max a b = b by omega] at h; exact h) (fun hge => by rw [show max a b = a by omega] at h; exact h)
end
set_option maxRecDepth 10000 in
set_option maxHeartbeats 4000000 in
theorem Ylx (n : NetM) (q : List RqM) (s : SchM) (xs : List RuM) {A xA : Option Addr} {cap xc B : Nat} {w0 : World} {H : List HP} {w : World} (ht : TabsB B w0) (hin : n.In B w0 H) (hqb : QBg B w0 H A q) (hrs : Rd B w0 H s.A (s.cells.flatMap celF)) (hsl : s.cells.length ≤ 9223372036854775807) (hx : XIn B w0 H xA xs) (hxl : xs.length ≤ 9223372036854775807) (hw : St B w0 H w) :
    Calls Tryz.prog 10 [n.val, .slice A q.length cap, s.val, .slice xA xs.length xc].toArray w (Post B w0 fun v K => v = .bool true ∧ K = H) := by
  refine Yf Tryz.func10 Tryz.ntmps10 rfl rfl hw ?_
  have hop : ∀ w, St B w0 [many H] w → St B w0 H w := fun w hw => hw.perm (.openT H)
  have hin := hin.mono hop
  have hqb := hqb.mono hop
  have hrs := hrs.mono hop
  have hx := hx.mono hop
  refine VP [many H] (fun w hw => hw.perm (.closeT H)) ?_
  have p0 := fun {H' : List HP} {w : World} (hin : n.In B w0 H') (hqb : QBg B w0 H' A q) (hw : St B w0 H' w) => Yfv n q s (cap := cap) hin hqb hsl hw
  unfold NetM.val SchM.val
  unfold NetM.val SchM.val at p0
  repeat' (first | refine zga ?_ | (refine zgh ?_; intro _) | fail)
  rename_i gn gs
  first | apply Ya en17 | apply Yb en17
  exact za
  exact rfl
  exact fun _ hw => (YeY ht hw)
  repeat' (first | refine zgc ?_ | fail)
  apply Yr _ en18
  exact za
  exact rfl
  exact fun _ hw => (p0 (hin.mono zk) (hqb.mono zk) (hw))
  rintro _ _ ⟨⟨b, rfl, hfew⟩, hK0⟩
  rw [hK0]
  cases b with
  | false =>
    repeat' (first | refine zgd ?_ | fail)
    apply Yk H
    · intro w hw
      have h5 : St B w0 [many H] w := by
        revert w
        exact zk
      exact hop w h5
    apply Yg; exact rfl; exact rfl; exact ⟨rfl, rfl⟩
  | true =>
  have hfew := hfew rfl
  by_cases hc24 : 24 < s.cells.length
  · repeat' (first | refine zgc ?_ | (refine zge ?_ ?_ <;> intro _ <;> try (exfalso; omega)) | fail)
    apply Yk H
    · intro w hw
      have h5 : St B w0 [many H] w := by
        revert w
        exact zk
      exact hop w h5
    apply Yg; exact rfl; exact rfl; exact ⟨rfl, rfl⟩
  by_cases hx40 : 40 < xs.length
  · repeat' (first | refine zgc ?_ | (refine zge ?_ ?_ <;> intro _ <;> try (exfalso; omega)) | fail)
    apply Yk H
    · intro w hw
      have h5 : St B w0 [many H] w := by
        revert w
        exact zk
      exact hop w h5
    apply Yg; exact rfl; exact rfl; exact ⟨rfl, rfl⟩
  have hq := hqb.small hfew
  have hsl2 : s.cells.length ≤ 1000000000000 := by omega
  have hq4 := hfew.1
  have p1 := fun {H' : List HP} {w : World} (hin : n.In B w0 H') (hq : QIn B w0 H' A q) (hrs : Rd B w0 H' s.A (s.cells.flatMap celF)) (hw : St B w0 H' w) => W5 n q s (cap := cap) ht hin hq hrs hsl2 hw
  unfold OutC NetM.val SchM.val at p1
  obtain ⟨⟨RC, ri, re⟩, hR⟩ : ∃ R, Zt n.net (q.map RqM.rq) s.sch = R := ⟨_, rfl⟩
  rw [hR] at p1
  dsimp only at p1
  repeat' (first | refine zgc ?_ | (refine zge ?_ ?_ <;> intro _ <;> try (exfalso; omega)) | fail)
  apply Yr _ en19
  exact za
  exact rfl
  exact fun _ hw => (p1 (hin.mono zk) (hq.mono zk) (hrs.mono zk) (hw))
  rintro _ _ ⟨A2, cap2, C, rfl, hC, hCl, rfl⟩
  by_cases hre : re = 0
  rotate_left
  · repeat' (first | refine zgc ?_ | (refine zge ?_ ?_ <;> intro _ <;> try (exfalso; omega)) | fail)
    apply Yk H
    · intro w hw
      have h5 : St B w0 [many H] w := by
        revert w
        exact zk
      exact hop w h5
    apply Yg; exact rfl; exact rfl; exact ⟨rfl, rfl⟩
  subst hre
  have hce := Yka (n := n.net) (q := q.map RqM.rq) (s := s.sch) (by rw [hR])
  have hsch := (YdU.1 (show (Zt n.net (q.map RqM.rq) s.sch).2.2 = 0 by rw [hR])).1
  obtain ⟨hnc, hfl, hsz, hmod, -⟩ := WK (Ydc.1 hsch).whole
  have hsb : 1 ≤ s.len ∧ s.len ≤ 512 := by
    unfold ZZ at hsz
    have := of_decide_eq_true hsz
    exact ⟨this.1, this.2.1⟩
  have pf := fun {H' : List HP} {w : World} (hq : QIn B w0 H' A q) (hw : St B w0 H' w) => YeI q (cap := cap) (by omega) hq.rd hw
  have hfll : (RqM.fl q).length = q.length := by unfold RqM.fl; rw [List.length_map]
  have pp := fun (sl : Int) (A4 : Option Addr) (cap4 : Nat) {H' : List HP} {w : World} (hr : Rd B w0 H' A4 ((RqM.fl q).flatMap flwF)) (hs : Rd B w0 H' s.A (s.cells.flatMap celF)) (hx : XIn B w0 H' xA xs) (hw : St B w0 H' w) => YfM (PlC.mk A4 cap4 (RqM.fl q) s xA xc xs) sl (by dsimp only; omega) (by dsimp only; omega) (by dsimp only; omega) ht hr hs hx hw
  unfold SchM.val at pp
  dsimp only at pp
  repeat' (first | (apply YjS; exact rfl; exact rfl; exact rfl; omega; omega; intro sl hs0 hs1) | refine zgd ?_ | (refine zge ?_ ?_ <;> intro _ <;> try (exfalso; omega)) | fail)
  refine Zb (fun (z : {z : (Option Addr × Nat) × Nat × (Option Addr × Nat × List AttM) × (Option Addr × Nat × List (Int × Int × Int)) × Int // Yh7 (PlC.mk z.1.1 z.1.2 (RqM.fl q) s xA xc xs) sl z.2.2.1.2.2 z.2.2.2.1.2.2 z.2.2.2.2}) => [(14, .int .i64 z.1.2.2.2.2), (13, .pointer (some ⟨z.1.2.1, 0, none⟩)), (12, .int .i64 sl), (11, .int .i64 0), (9, .slice A2 C.length cap2), (8, .bool false), (6, .pointer (some ⟨gs, 0, none⟩)), (4, .pointer (some ⟨gn, 0, none⟩)), (1, .slice A q.length cap), (3, .slice xA xs.length xc)])
    (fun z => blk z.1.2.1 (.cells #[.slice z.1.2.2.1.1 z.1.2.2.1.2.2.length z.1.2.2.1.2.1, .slice z.1.2.2.2.1.1 z.1.2.2.2.1.2.2.length z.1.2.2.2.1.2.1] 84 (0, 0)) :: plT z.1.2.2.1.1 z.1.2.2.1.2.1 z.1.2.2.1.2.2 :: plD z.1.2.2.2.1.1 z.1.2.2.2.1.2.1 z.1.2.2.2.1.2.2 :: clsP A2 cap2 C :: many (C.map clQ) :: blk gn (.cells #[.int .i64 n.nodes, .slice n.pA n.rows.length n.pcap, .int .i64 n.noise, .int .i64 n.thr, .slice n.lA n.links.length n.lcap, .slice n.mA n.margin.length n.mcap] 26 (0, 0)) :: [many H]) ?_ ?_
  · intro K2 hK2
    apply Ur (.n1 0 (.n1 2 (.n1 3 (.n1 4 (.n2 1 (.n2 5 (.n1 6 (.n1 7 (.n1 8 (.n1 9 (.n1 10 (.n1 11 .done)))))) 9 (.n1 5 (.n1 6 (.n1 7 (.n1 8 (.n1 10 (.n1 11 .done))))))) 9 (.n1 1 (.n1 5 (.n1 6 (.n1 7 (.n1 8 (.n1 10 (.n1 11 .done)))))))))))) [] [true, true, true, true, true]
    kernel_rfl
    kernel_rfl
    exact zy
    exact rfl
    repeat' (first | (apply Yi; (repeat (first | with_reducible exact Yh | (with_reducible apply Yd; (repeat (first | with_reducible exact Ye | with_reducible apply Yc)))))) | apply (zs91 ?_ ?_) | (apply Yo; (repeat (first | with_reducible exact Yh | (with_reducible apply Yd; (repeat (first | with_reducible exact Ye | with_reducible apply Yc)))))) | refine zgd ?_ | (refine zgh ?_; intro _) | fail)
    · skip
      apply Yr _ en32
      exact za
      exact rfl
      exact fun _ hw => (pf (hq.mono zk) (hw))
      rintro _ _ ⟨A4, cap4, rfl, rfl⟩
      repeat' (first | (apply Yi; (repeat (first | with_reducible exact Yh | (with_reducible apply Yd; (repeat (first | with_reducible exact Ye | with_reducible apply Yc)))))) | apply (zs91 ?_ ?_) | (apply Yo; (repeat (first | with_reducible exact Yh | (with_reducible apply Yd; (repeat (first | with_reducible exact Ye | with_reducible apply Yc)))))) | refine zgd ?_ | (refine zgh ?_; intro _) | fail)
      · skip
        apply Yr _ en38
        exact za
        exact rfl
        exact fun _ hw => (pp sl A4 cap4 (.sl zm) (hrs.mono zk) (hx.mono zk) (hw))
        rintro _ _ ⟨tA, tc, atts, dA, dc, dels, e, rfl, hok, rfl⟩
        repeat' (first | (apply Yi; (repeat (first | with_reducible exact Yh | (with_reducible apply Yd; (repeat (first | with_reducible exact Ye | with_reducible apply Yc)))))) | (apply Yo; (repeat (first | with_reducible exact Yh | (with_reducible apply Yd; (repeat (first | with_reducible exact Ye | with_reducible apply Yc)))))) | refine zgd ?_ | (refine zgh ?_; intro _) | fail)
        rename_i g13
        apply hK2 ⟨((A4, cap4), g13, (tA, tc, atts), (dA, dc, dels), e), hok⟩
        · exact zu
        · exact zk
      · rename_i g13
        apply Yr _ en38
        exact za
        exact rfl
        exact fun _ hw => (pp sl A4 cap4 (.sl zm) (hrs.mono zk) (hx.mono zk) (hw))
        rintro _ _ ⟨tA, tc, atts, dA, dc, dels, e, rfl, hok, rfl⟩
        repeat' (first | (apply Yi; (repeat (first | with_reducible exact Yh | (with_reducible apply Yd; (repeat (first | with_reducible exact Ye | with_reducible apply Yc)))))) | (apply Yo; (repeat (first | with_reducible exact Yh | (with_reducible apply Yd; (repeat (first | with_reducible exact Ye | with_reducible apply Yc)))))) | refine zgd ?_ | fail)
        apply hK2 ⟨((A4, cap4), g13, (tA, tc, atts), (dA, dc, dels), e), hok⟩
        · exact zu
        · exact zk
    · rename_i g13
      apply Yr _ en32
      exact za
      exact rfl
      exact fun _ hw => (pf (hq.mono zk) (hw))
      rintro _ _ ⟨A4, cap4, rfl, rfl⟩
      repeat' (first | (apply Yi; (repeat (first | with_reducible exact Yh | (with_reducible apply Yd; (repeat (first | with_reducible exact Ye | with_reducible apply Yc)))))) | (apply Yo; (repeat (first | with_reducible exact Yh | (with_reducible apply Yd; (repeat (first | with_reducible exact Ye | with_reducible apply Yc)))))) | refine zgd ?_ | fail)
      apply Yr _ en38
      exact za
      exact rfl
      exact fun _ hw => (pp sl A4 cap4 (.sl zm) (hrs.mono zk) (hx.mono zk) (hw))
      rintro _ _ ⟨tA, tc, atts, dA, dc, dels, e, rfl, hok, rfl⟩
      repeat' (first | (apply Yi; (repeat (first | with_reducible exact Yh | (with_reducible apply Yd; (repeat (first | with_reducible exact Ye | with_reducible apply Yc)))))) | (apply Yo; (repeat (first | with_reducible exact Yh | (with_reducible apply Yd; (repeat (first | with_reducible exact Ye | with_reducible apply Yc)))))) | refine zgd ?_ | fail)
      apply hK2 ⟨((A4, cap4), g13, (tA, tc, atts), (dA, dc, dels), e), hok⟩
      · exact zu
      · exact zk
  rintro ⟨⟨⟨A4, cap4⟩, g13, ⟨tA, tc, atts⟩, ⟨dA, dc, dels⟩, e⟩, hok⟩
  dsimp only at hok ⊢
  by_cases he : e = 0
  rotate_left
  · repeat' (first | refine zgc ?_ | (refine zge ?_ ?_ <;> intro _ <;> try (exfalso; omega)) | fail)
    apply Yk H
    · intro w hw
      have h5 : St B w0 [many H] w := by
        revert w
        exact zk
      exact hop w h5
    apply Yg; exact rfl; exact rfl; exact ⟨rfl, rfl⟩
  obtain ⟨⟨ss, hP⟩, hal, hf32, hfm, -⟩ := hok he
  subst he
  dsimp only at hP hf32 hfm
  have hRC : RC = (q.map RqM.rq).map (clmE n.net s.sch) := by
    rw [hR] at hce
    exact (Prod.mk.inj hce).1
  have hCq : C.length = q.length := by
    have h := congrArg List.length hC
    rw [hRC, List.length_map, List.length_map, List.length_map] at h
    exact h
  have pb := fun {H' : List HP} {w : World} (hin : n.In B w0 H') (hr : Rd B w0 H' tA (atts.flatMap attF)) (hw : St B w0 H' w) => Ya8 n atts hal dA dels.length dc (tc := tc) hin hr hw
  unfold NetM.val at pb
  repeat' (first | refine zgc ?_ | (refine zge ?_ ?_ <;> intro _ <;> try (exfalso; omega)) | fail)
  apply Yr _ en39
  exact za
  exact rfl
  exact fun _ hw => (pb (hin.mono zk) (.sl zm) (hw))
  rintro _ _ ⟨out, A5, cap5, rfl, hol, hbr, rfl⟩
  have hbr := hbr hnc
  have hqr := hq.rd
  repeat' (first | refine zgb ?_ | fail)
  refine Yn (fun j : Nat => [(87, .int .i64 (j : Nat)), (86, .int .i64 q.length), (85, .slice A q.length cap), (15, .slice A5 out.length cap5), (13, .pointer (some ⟨g13, 0, none⟩)), (12, .int .i64 sl), (9, .slice A2 C.length cap2)])
    (fun _ => brP A5 cap5 out :: blk g13 (.cells #[.slice tA atts.length tc, .slice dA dels.length dc] 84 (0, 0)) :: plT tA tc atts :: plD dA dc dels :: clsP A2 cap2 C :: many (C.map clQ) :: [many H]) (fun j => j ≤ q.length) (fun j => q.length - j) 0 (Nat.zero_le _) ?_ ?_ ?_
  · exact zu
  · exact zk
  rintro j hj K hK
  dsimp only at hj ⊢
  by_cases hlt : j < q.length
  rotate_left
  · clear hK
    repeat' (first | refine zgc ?_ | (refine zge ?_ ?_ <;> intro _ <;> try (exfalso; omega)) | fail)
    apply Yk H
    · intro w hw
      have h5 : St B w0 [many H] w := by
        revert w
        exact zk
      exact hop w h5
    apply Yg; exact rfl; exact rfl; exact ⟨rfl, rfl⟩
  obtain ⟨x, hxj⟩ : ∃ x, q[j]? = some x := ⟨_, List.getElem?_eq_getElem hlt⟩
  have hxm : x ∈ q := List.mem_of_getElem? hxj
  have hfx : YX 32 x.f = 0 := (UX hf32).1 x.f (List.mem_map.2 ⟨x, hxm, rfl⟩)
  have hnum := Xm hfx
  obtain ⟨to_, hto⟩ : ∃ t : Int, max 0 (sl - x.f.2.2.2.1 + 1) = t := ⟨_, rfl⟩
  have htb : 0 ≤ to_ ∧ to_ ≤ 1000 := by have := hnum.1; omega
  have hfr0 : frIx x.f 0 ≤ frIx x.f to_ := by
    have h1 := Vi hfx (t := 0) (Int.le_refl _)
    have h2 := Vi hfx (t := to_) htb.1
    omega
  have pfr := fun {H' : List HP} {w : World} (hw : St B w0 H' w) => Yef x.f 0 to_ hfx ⟨Int.le_refl _, htb.1⟩ htb.2 hfr0 hw
  rw [← hto] at pfr
  obtain ⟨F, hF⟩ : ∃ F, frsL x.f 0 (max 0 (sl - x.f.2.2.2.1 + 1)) = F := ⟨_, rfl⟩
  rw [hF] at pfr
  have hFl : F.length ≤ 1000 := by
    rw [← hF, hto]
    unfold frsL
    rw [List.length_map, List.length_range]
    have h1 := Vi hfx (t := to_) htb.1
    have h2 := Vi hfx (t := 0) (Int.le_refl _)
    omega
  obtain ⟨y, hyj⟩ : ∃ y, C[j]? = some y := ⟨_, List.getElem?_eq_getElem (by omega)⟩
  have hym : y ∈ C := List.mem_of_getElem? hyj
  have hyc : y.clm = clmE n.net s.sch x.rq := by
    have h1 : (C.map ClM.clm)[j]? = some y.clm := by rw [List.getElem?_map, hyj]; rfl
    rw [hC, hRC, List.getElem?_map, List.getElem?_map, hxj] at h1
    exact (Option.some.inj h1).symm
  have hyb : y.bs = x.rows.map fun r => (YS n.net s.sch x.f r.xs).1.1 := by
    have h1 : y.bs = (x.rows.map (·.xs)).map fun r => (YS n.net s.sch x.f r).1.1 := congrArg Clm.bounds hyc
    rw [h1, List.map_map]; rfl
  have hybl : y.bs.length = x.rows.length := by rw [hyb, List.length_map]
  have hxl2 : x.rows.length ≤ 1000000000000 := (hq.x x hxm).ln
  have hxr := (hq.x x hxm).rt
  have hyr := (W7 (H := [many (C.map clQ), many H]) (B := B) (w0 := w0) (.head _) hym (hCl y hym)).bd
  have hdl9 : dels.length ≤ 1000000000 := by have := hP.dl; omega
  have hrk : ∀ r ∈ x.rows, ((YS n.net s.sch x.f r.xs).1.1 ≤ 512 ∧ r.xs.length ≤ 9) ∧ ∀ k ∈ F, out.any (onBr x.f.1 k r.xs) = false → ∃ t, delT dels x.f.1 k = some t ∧ 0 ≤ t ∧ t - Yy x.f k + 1 ≤ (YS n.net s.sch x.f r.xs).1.1 := fun r hr => by
    have h1 := YdX (n := n.net) (q := q.map RqM.rq) (s := s.sch) (by rw [hR]) (x := x.rq) (List.mem_map_of_mem hxm) (r := r.xs) (List.mem_map.2 ⟨r, hr, rfl⟩)
    have h2 : (YS n.net s.sch x.f r.xs).1.1 ≤ x.f.2.2.2.2.2 := h1.2
    refine ⟨⟨by omega, (Vd (Ydd (WA h1.1).1).2.2.2.2).2.1.2⟩, fun k hk hno => ?_⟩
    rw [← hF] at hk
    exact YfD (l := RqM.fl q) (s := s.sch) hP.pl hf32 (List.mem_map.2 ⟨x, hxm, rfl⟩) hsb.1 h1.1 h1.2 hbr hk hno
  unfold flwV at pfr
  repeat' (first | (apply YjR; exact rfl; exact rfl; exact rfl) | (apply YW T; exact rfl; exact zm; exact rfl; exact zv; exact rfl; exact rfl) | refine zgd ?_ | (refine zge ?_ ?_ <;> intro _ <;> try (exfalso; omega)) | (refine zgh ?_; intro _) | fail)
  rename Nat => gq
  apply Yr _ en40
  exact za
  exact rfl
  exact fun _ hw => (pfr (hw))
  rintro _ _ ⟨A6, cap6, rfl, rfl⟩
  repeat' (first | refine zgd ?_ | (refine zge ?_ ?_ <;> intro _ <;> try (exfalso; omega)) | fail)
  refine Yn (fun i : Nat => [(121, .int .i64 (i : Nat)), (120, .int .i64 F.length), (119, .slice A6 F.length cap6), (17, .pointer (some ⟨gq, 0, none⟩)), (16, .int .i64 (j : Nat)), (87, .int .i64 (j : Nat)), (86, .int .i64 q.length), (85, .slice A q.length cap), (15, .slice A5 out.length cap5), (13, .pointer (some ⟨g13, 0, none⟩)), (12, .int .i64 sl), (9, .slice A2 C.length cap2)])
    (fun _ => rqA gq x :: nrs A6 cap6 F :: brP A5 cap5 out :: blk g13 (.cells #[.slice tA atts.length tc, .slice dA dels.length dc] 84 (0, 0)) :: plT tA tc atts :: plD dA dc dels :: clsP A2 cap2 C :: many (C.map clQ) :: [many H]) (fun i => i ≤ F.length) (fun i => F.length - i) 0 (Nat.zero_le _) ?_ ?_ ?_
  · exact zu
  · exact zk
  rintro i hi K2 hK2
  dsimp only at hi ⊢
  by_cases hlt2 : i < F.length
  rotate_left
  · repeat' (first | refine zgd ?_ | (refine zge ?_ ?_ <;> intro _ <;> try (exfalso; omega)) | fail)
    apply hK (j + 1)
    · show j + 1 ≤ _; omega
    · omega
    · exact zu
    · exact zk
  obtain ⟨k, hk⟩ : ∃ k, F[i]? = some k := ⟨_, List.getElem?_eq_getElem hlt2⟩
  have hkm : k ∈ F := List.mem_of_getElem? hk
  have hkb : 0 ≤ k ∧ Yy x.f k < to_ := by
    have h1 := hkm
    rw [← hF, hto] at h1
    exact Ygy hfx htb.1 h1
  have hfb : 0 ≤ Yy x.f k ∧ k ≤ 1000000 := by
    have h1 := Int.mul_le_mul_of_nonneg_left hnum.1.1 hkb.1
    have h2 := hkb.2
    unfold Yy phaF perF at h2 ⊢
    omega
  have pw := fun {H' : List HP} {w : World} (hw : St B w0 H' w) => Ye2 x.f k hfx ⟨hkb.1, hfb.2⟩ hw
  unfold flwV at pw
  have pd := fun {H' : List HP} {w : World} (hr : Rd B w0 H' dA (dels.flatMap delF)) (hw : St B w0 H' w) => QT dels x.f.1 k hdl9 tA atts.length tc (dc := dc) hr hw
  obtain ⟨od, hod⟩ : ∃ o, delT dels x.f.1 k = o := ⟨_, rfl⟩
  rw [hod] at pd
  obtain ⟨fw, hfw⟩ : ∃ o, Yy x.f k = o := ⟨_, rfl⟩
  rw [hfw] at pw hfb hkb
  repeat' (first | (apply YW T; exact rfl; exact zm; exact rfl; exact zv; exact rfl; exact rfl) | refine zgd ?_ | (refine zge ?_ ?_ <;> intro _ <;> try (exfalso; omega)) | (refine zgh ?_; intro _) | fail)
  rename Nat => gk
  first | apply Ya en41 | apply Yb en41
  exact za
  exact rfl
  exact fun _ hw => (pw hw)
  repeat' (first | refine zgc ?_ | fail)
  first | apply Ya en42 | apply Yb en42
  exact za
  exact rfl
  exact fun _ hw => (pd (.sl zm) hw)
  repeat' (first | refine zgc ?_ | fail)
  refine Yn (fun m : Nat => [(145, .int .i64 (m : Nat)), (144, .int .i64 x.rows.length), (143, .slice x.A x.rows.length x.cap), (26, .bool od.isSome), (25, .int .i64 (od.getD 0)), (24, .int .i64 0), (22, .int .i64 fw), (21, .pointer (some ⟨gk, 0, none⟩)), (121, .int .i64 (i : Nat)), (120, .int .i64 F.length), (119, .slice A6 F.length cap6), (17, .pointer (some ⟨gq, 0, none⟩)), (16, .int .i64 (j : Nat)), (87, .int .i64 (j : Nat)), (86, .int .i64 q.length), (85, .slice A q.length cap), (15, .slice A5 out.length cap5), (13, .pointer (some ⟨g13, 0, none⟩)), (12, .int .i64 sl), (9, .slice A2 C.length cap2)])
    (fun _ => rqA gq x :: blk gk (.cells #[.int .i64 k] 3 (0, 0)) :: nrs A6 cap6 F :: brP A5 cap5 out :: blk g13 (.cells #[.slice tA atts.length tc, .slice dA dels.length dc] 84 (0, 0)) :: plT tA tc atts :: plD dA dc dels :: clsP A2 cap2 C :: many (C.map clQ) :: [many H]) (fun m => m ≤ x.rows.length) (fun m => x.rows.length - m) 0 (Nat.zero_le _) ?_ ?_ ?_
  · exact zu
  · exact zk
  rintro m hm K3 hK3
  dsimp only at hm ⊢
  by_cases hlt3 : m < x.rows.length
  rotate_left
  · repeat' (first | refine zgd ?_ | (refine zge ?_ ?_ <;> intro _ <;> try (exfalso; omega)) | fail)
    apply hK2 (i + 1)
    · show i + 1 ≤ _; omega
    · omega
    · exact zu
    · exact zk
  obtain ⟨r, hr⟩ : ∃ r, x.rows[m]? = some r := ⟨_, List.getElem?_eq_getElem hlt3⟩
  have hrm : r ∈ x.rows := List.mem_of_getElem? hr
  obtain ⟨hbd, hkp⟩ := hrk r hrm
  have hkp := hkp k hkm
  rw [hod, hfw] at hkp
  obtain ⟨bd, hbde⟩ : ∃ b, (YS n.net s.sch x.f r.xs).1.1 = b := ⟨_, rfl⟩
  rw [hbde] at hbd hkp
  have hbs : y.bs[m]? = some bd := by
    rw [hyb, List.getElem?_map, hr, ← hbde]; rfl
  repeat' (first | (apply zg29; (apply Yj; exact za ; exact rfl)) | refine zgd ?_ | (refine zge ?_ ?_ <;> intro _ <;> try (exfalso; omega)) | (refine zgh ?_; intro _) | fail)
  rename Nat => gr
  have hrr := (hq.x x hxm).rw_ r hrm
  first | apply Ya en43 | apply Yb en43
  exact za
  exact rfl
  exact fun _ hw => (O6 (onBr x.f.1 k r.xs) out 44 [.pointer (some ⟨gr, 0, none⟩), .pointer (some ⟨gq, 0, none⟩), .pointer (some ⟨gk, 0, none⟩)] en44 (by omega) (.sl zm) (fun a _ w hw => YfC a k x r gr gq gk (by omega) (hrr.mono zk) hw) hw)
  cases hbk : out.any (onBr x.f.1 k r.xs) with
  | true =>
    repeat' (first | refine zgd ?_ | (refine zge ?_ ?_ <;> intro _ <;> try (exfalso; omega)) | fail)
    apply hK3 (m + 1)
    · show m + 1 ≤ _; omega
    · omega
    · exact zu
    · exact zk
  | false =>
    obtain ⟨t, rfl, ht0, htb2⟩ := hkp hbk
    dsimp only [Option.isSome_some, Option.getD_some]
    repeat' (first | refine zgd ?_ | (refine zge ?_ ?_ <;> intro _ <;> try (exfalso; omega)) | fail)
    apply hK3 (m + 1)
    · show m + 1 ≤ _; omega
    · omega
    · exact zu
    · exact zk
open Go.ChangeShapes Go.WideShapes Go.ChangeAt Go.RowKit Go.Eng Go.Nw Go.Rt
section
variable {H : Type} {enc : TypeId × Value → H} {W : World} {spare : Nat → Bool} {held : Bool}
def RuG (W : World) (r : RuM) : Prop := RtG W ⟨r.A, r.cap, r.os⟩
theorem Yku : Opn enc Tryz.prog W spare held 257 ruF (RuG W) :=
  Vs (ZG (ts := [3, 3, 3, 3, 24]) (by kernel_rfl) (YA op_i (YA op_i (YA op_i (YA op_i (YA Yks Vh))))))
    (fun x => ⟨x.1, x.2.1, x.2.2.1, x.2.2.2.1, x.2.2.2.2.1.A, x.2.2.2.2.1.cap, x.2.2.2.2.1.xs⟩) (fun x => by simp [ruF, numF, rowF]) (fun x h => by
      obtain ⟨h1, h2, h3, h4, h5, _⟩ := h
      exact h5)
theorem Yi9 : Opn enc Tryz.prog W spare held 80 (fun s : SlM RuM => [s.val]) (SlG W ruF (RuG W)) := ZR (q := 5) Tryz.underlying80 (by kernel_rfl) (by decide) Yku
set_option maxRecDepth 100000 in
theorem Yk9 {r : Reach} {b0 : Nat} {v : Value} {d : DataW H} {p : List MemPlace} (hv : Value.okWide Tryz.prog W r b0 80 v) (h : DataW.Trod enc Tryz.prog W 0 spare held 80 v d p) : ∃ s : SlM RuM, v = s.val ∧ SlG W ruF (RuG W) s := by
  obtain ⟨a, len, cap, rfl⟩ := okWide_slice Tryz.underlying80 hv
  obtain ⟨fuel, hf⟩ := h
  obtain ⟨n, h1, h2⟩ := Yi9 fuel _ _ hf
  refine ⟨n, ?_, h2⟩
  injection h1
end
theorem YlU {W : World} {s : SlM RuM} {K : List HP} (h : SlG W ruF (RuG W) s) : XIn W.heap.size W K s.A s.xs :=
  ⟨h.old.rd, fun x hx => ⟨RtG.old (h.good x hx) |>.rd, RtG.len (h.good x hx)⟩⟩
theorem YlF {W : World} {s : SlM RuM} (h : SlG W ruF (RuG W) s) : s.xs.length ≤ 9223372036854775807 := Nat.le_trans h.len maxL
end Go.Proofs.YtmalhidldgfeoaaGreatDoor
