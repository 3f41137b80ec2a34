/- Lemmas for the claim, part 3. -/
import Derived.Shelf.Strings.Builder1
import Derived.Shelf.Small.Wraps
import Derived.Shelf.Strings.BuilderF
import Derived.Shelf.Strings.BuilderK
import Derived.Shelf.Strconv.Atoi
import Derived.Shelf.Strconv.Itoa0
import Derived.Shelf.Strconv.Itoa1
import Derived.Shelf.LaysM
import Derived.Shelf.Strconv.Itoa2
import Derived.Shelf.Strconv.Itoa3
import Derived.Shelf.Strconv.AtoiErrFast
import Derived.Shelf.Strconv.ParseIntEmpty
import Derived.Shelf.Strconv.AtoiFail
import Derived.Shelf.Strconv.Clone
import Derived.Shelf.Strconv.SyntaxError
import Derived.Shelf.LaysC
import Derived.Shelf.Strconv.ToError
import Derived.Shelf.Strconv.Lower
import Derived.Shelf.Strconv.ParseUint10
import Derived.Shelf.Strconv.ParseUint10Empty
import Derived.Shelf.Strconv.ParseUint10Any
import Derived.Shelf.Strconv.ParseInt10
import Derived.Shelf.Strconv.AtoiLong
import Derived.Shelf.Strconv.AtoiInnerAll
import Derived.Shelf.Strconv.RangeError
import Derived.Shelf.Strconv.ToErrorRange
import Derived.Shelf.Strconv.AtoiAll
import Derived.Shelf.Strconv.ErrVarAll
import Derived.Shelf.Strings.Search1
import Derived.Shelf.Strings.Search2
import Derived.Shelf.Strings.Search3
import Derived.Shelf.Strings.Count
import Derived.Shelf.Strings.Shaped
import Derived.Shelf.Strings.Split
import Derived.Shelf.Strings.SplitShaped
import Derived.Shelf.Unicode.DecodeSlow
import Derived.Shelf.Slices.Turned
import Derived.Shelf.Slices.Equal
import Derived.Ground.Names2Prog
import Derived.Shelf.Slices.Clone
import Derived.Shelf.Slices.SearchI
import Derived.Test.YtmalhidldgfeoaaGreatDoorProg
import Derived.Sort.OwnSortedInts
import Derived.Lib.Split
import Derived.Lib.ItoaNum
import Derived.Lib.AtoiAll
import Derived.Lib.AtoiTie
import Derived.Lib.AppendIntMem
import Derived.WideLaws
import Derived.Lib.SmallJoins
import Derived.Lib.Builder
import Derived.Lib.AtoiAllCases
import Derived.Test.YtmalhidldgfeoaaGreatDoorQ2

namespace Go.Proofs.YtmalhidldgfeoaaGreatDoor
open Go.RowKit Go.Eng Go.Nw
def cpN (n : Net) (node : Int) (d : Cel) : Int := powN n (YP d) node + powN n (toC d) node
def sumC (n : Net) (node : Int) (l : List Cel) : Int := (l.map (cpN n node)).sum
theorem W5 (n : Net) (node : Int) (d : Cel) (l : List Cel) : sumC n node (d :: l) = cpN n node d + sumC n node l := by unfold sumC; rw [List.map_cons, List.sum_cons]
theorem Yhz {n : Net} (h : Ok n) (node : Int) {l m : List Cel} (hs : l.Sublist m) : sumC n node l ≤ sumC n node m := by
  induction hs with
  | slnil => exact Int.le_refl _
  | @cons l m d _ ih =>
    rw [W5]
    have h1 := Zq h (YP d) node
    have h2 := Zq h (toC d) node
    unfold cpN
    omega
  | cons_cons d _ ih => rw [W5, W5]; omega
def QG (n : Net) (l : List Cel) (c : Cel) (node : Int) : Int := sumC n node (l.filter fun d => YK c d && decide (d ≠ c))
def WI (n : Net) (l : List Cel) (c : Cel) : Bool := Xd n (mar n (Yw n (YP c) (toC c)).toNat) (QG n l c (toC c)) && Xd n (mar n (Yw n (toC c) (YP c)).toNat) (QG n l c (YP c))
structure Sem (n : Net) (l : List Flw) (s : Sch) : Prop where
  ck : YA n = 0
  fl : (YN n.nodes l).2 = 0
  per : ∀ f ∈ l, s.len.tmod f.2.2.2.1 = 0
  frm : Frm s
  good : ∀ c ∈ s.cells, YR n (YP c) (toC c) = true ∧ 0 ≤ Zx l (UI c)
  once : s.cells.Pairwise fun a b => a.1 = b.1 → YY a b = false
  clear : ∀ c ∈ s.cells, WI n s.cells c = true
theorem QO {n : Net} (h : Ok n) {s d e : Int} (he : e ≤ d) (hd : Xd n s d = true) : Xd n s e = true := by
  unfold Xd at hd ⊢
  have h1 := of_decide_eq_true hd
  have h2 := h.t0
  have h3 : n.thr * (n.noise + e) ≤ n.thr * (n.noise + d) := Int.mul_le_mul_of_nonneg_left (by omega) (by omega)
  exact decide_eq_true (by omega)
theorem Sem.sub {n : Net} {l : List Flw} {s t : Sch} (h : Sem n l s) (h1 : t.len = s.len) (h2 : t.off = s.off) (hs : t.cells.Sublist s.cells) : Sem n l t := by
  have hok := YZ h.ck
  have hlen := hs.length_le
  have hfew := h.frm.few
  refine ⟨h.ck, h.fl, by rw [h1]; exact h.per, ⟨?_, by omega, fun c hc => ?_, h.frm.ord.sublist hs⟩, fun c hc => h.good c (hs.subset hc), h.once.sublist hs, fun c hc => ?_⟩
  · have := h.frm.sized
    unfold X5 at this ⊢
    rw [h1, h2]; exact this
  · have := h.frm.formed c (hs.subset hc)
    unfold XR Xm at this ⊢
    rw [h1, h2]; exact this
  · have := h.clear c (hs.subset hc)
    unfold WI at this ⊢
    simp only [Bool.and_eq_true] at this ⊢
    have hd : ∀ node, QG n t.cells c node ≤ QG n s.cells c node := fun node => Yhz hok node (hs.filter _)
    exact ⟨QO hok (hd _) this.1, QO hok (hd _) this.2⟩
open Go.RowKit Go.Eng Go.Nw
def Ygh (n : Net) (l : List Flw) (s : Sch) : Prop := ∀ c ∈ s.cells, YR n (YP c) (toC c) = true ∧ 0 ≤ Zx l (UI c)
def Ygi (s : Sch) : Prop := s.cells.Pairwise fun a b => a.1 = b.1 → YY a b = false
def YdZ (n : Net) (s : Sch) : Prop := ∀ c ∈ s.cells, WI n s.cells c = true
theorem Yhs (s : Sch) (k : Nat) : repC s (k + 1) = repC s k ++ s.cells.map (movC ((k : Int) * s.len)) := by
  unfold repC
  rw [List.range_succ, List.flatMap_append]
  simp
theorem Qb {s : Sch} {k : Nat} {x : Cel} : x ∈ repC s k ↔ ∃ i, i < k ∧ ∃ c ∈ s.cells, x = movC ((i : Int) * s.len) c := by
  unfold repC
  simp only [List.mem_flatMap, List.mem_range, List.mem_map]
  constructor
  · rintro ⟨i, hi, c, hc, rfl⟩; exact ⟨i, hi, c, hc, rfl⟩
  · rintro ⟨i, hi, c, hc, rfl⟩; exact ⟨i, hi, c, hc, rfl⟩
theorem Ydn {i j : Nat} {L : Int} (hL : 0 ≤ L) (h : i < j) : (i : Int) * L + L ≤ (j : Int) * L := by
  have h1 : ((i : Int) + 1) * L ≤ (j : Int) * L := Int.mul_le_mul_of_nonneg_right (by omega) hL
  rw [Int.add_mul] at h1
  omega
theorem Yfg {s : Sch} (hf : Frm s) {c : Cel} (hc : c ∈ s.cells) : 0 ≤ c.1 ∧ c.1 < s.len := by
  have := hf.formed c hc
  unfold XR Xm insE at this
  simp only [Bool.and_eq_true, decide_eq_true_eq] at this
  exact this.1.1.1.1
theorem YbJ {s : Sch} (hf : Frm s) {c d : Cel} (hc : c ∈ s.cells) (hd : d ∈ s.cells) {i j : Nat} (h : c.1 + (i : Int) * s.len = d.1 + (j : Int) * s.len) : i = j ∧ c.1 = d.1 := by
  have h1 := Yfg hf hc
  have h2 := Yfg hf hd
  rcases Nat.lt_trichotomy i j with h3 | h3 | h3
  · have := Ydn (L := s.len) (by omega) h3; omega
  · subst h3; exact ⟨rfl, by omega⟩
  · have := Ydn (L := s.len) (by omega) h3; omega
structure Rep (s t : Sch) (k : Nat) : Prop where
  k1 : 1 ≤ k
  frm : Frm s
  len : t.len = s.len * k
  off : t.off = s.off
  cells : t.cells = repC s k
  l512 : s.len * k ≤ 512
  c512 : s.cells.length * k ≤ 512
theorem Yac {s : Sch} {p q : Cel → Bool} {j0 : Nat} (hq : ∀ d ∈ s.cells, p (movC ((j0 : Int) * s.len) d) = q d) : ∀ {m : Nat}, (∀ j, j < m → j ≠ j0 → ∀ d ∈ s.cells, p (movC ((j : Int) * s.len) d) = false) → (repC s m).filter p = if j0 < m then (s.cells.filter q).map (movC ((j0 : Int) * s.len)) else []
  | 0, _ => by simp [repC]
  | m + 1, h => by
    rw [Yhs, List.filter_append, Yac hq fun j hj => h j (by omega), List.filter_map]
    by_cases e : m = j0
    · subst e
      rw [if_neg (by omega), if_pos (by omega), List.nil_append]
      congr 1
      exact List.filter_congr fun d hd => hq d hd
    · have hz : s.cells.filter (p ∘ movC ((m : Int) * s.len)) = [] := by
        rw [List.filter_eq_nil_iff]
        intro d hd
        show ¬ p (movC ((m : Int) * s.len) d) = true
        rw [h m (by omega) e d hd]; simp
      rw [hz, List.map_nil, List.append_nil]
      by_cases h2 : j0 < m
      · rw [if_pos h2, if_pos (by omega)]
      · rw [if_neg h2, if_neg (by omega)]
theorem Yis (n : Net) (node d : Int) (l : List Cel) : sumC n node (l.map (movC d)) = sumC n node l := by
  unfold sumC
  rw [List.map_map]
  rfl
theorem Rep.dist {s t : Sch} {k : Nat} (h : Rep s t k) (n : Net) {i : Nat} (hi : i < k) {c : Cel} (hc : c ∈ s.cells) (node : Int) : QG n t.cells (movC ((i : Int) * s.len) c) node = QG n s.cells c node := by
  unfold QG
  rw [h.cells, Yac (j0 := i) (q := fun d => YK c d && decide (d ≠ c)), if_pos hi, Yis]
  · intro d hd
    have h2 : (movC ((i : Int) * s.len) d ≠ movC ((i : Int) * s.len) c) ↔ d ≠ c := by
      constructor
      · intro h3 e; subst e; exact h3 rfl
      · intro h3 e
        apply h3
        obtain ⟨d1, d2⟩ := d
        obtain ⟨c1, c2⟩ := c
        unfold movC at e
        injection e with e1 e2
        simp only at e1 e2
        subst e2
        have : d1 = c1 := by omega
        rw [this]
    show (YK _ _ && decide _) = (YK _ _ && decide _)
    rw [decide_eq_decide.2 h2]
    congr 1
    unfold YK movC
    rw [decide_eq_decide]
    simp only
    omega
  · intro j hj hne d hd
    have : YK (movC ((i : Int) * s.len) c) (movC ((j : Int) * s.len) d) = false := by
      unfold YK movC
      refine decide_eq_false ?_
      rintro ⟨h3, _⟩
      exact hne (YbJ h.frm hd hc h3).1
    rw [this]; rfl
theorem Rep.good {s t : Sch} {k : Nat} (h : Rep s t k) (n : Net) (l : List Flw) : Ygh n l t ↔ Ygh n l s := by
  unfold Ygh
  rw [h.cells]
  constructor
  · intro hg c hc
    exact hg (movC (((0 : Nat) : Int) * s.len) c) (Qb.2 ⟨0, h.k1, c, hc, rfl⟩)
  · intro hg x hx
    obtain ⟨i, _, c, hc, rfl⟩ := Qb.1 hx
    exact hg c hc
theorem Rep.once {s t : Sch} {k : Nat} (h : Rep s t k) : Ygi t ↔ Ygi s := by
  unfold Ygi
  rw [h.cells]
  unfold repC
  rw [List.pairwise_flatMap]
  constructor
  · rintro ⟨h1, _⟩
    have := h1 0 (List.mem_range.2 h.k1)
    rw [List.pairwise_map] at this
    exact this.imp fun {a b} hab e => hab (by simp only [movC]; omega)
  · intro ho
    refine ⟨fun i _ => ?_, ?_⟩
    · rw [List.pairwise_map]
      exact ho.imp fun {a b} hab e => hab (by simp only [movC] at e; omega)
    · refine List.pairwise_lt_range.imp fun {i j} hij x hx y hy e => ?_
      obtain ⟨a, ha, rfl⟩ := List.mem_map.1 hx
      obtain ⟨b, hb, rfl⟩ := List.mem_map.1 hy
      have := (YbJ h.frm ha hb e).1
      omega
theorem Rep.clear {s t : Sch} {k : Nat} (h : Rep s t k) (n : Net) : YdZ n t ↔ YdZ n s := by
  have hc : ∀ i, i < k → ∀ c ∈ s.cells, WI n t.cells (movC ((i : Int) * s.len) c) = WI n s.cells c := fun i hi c hc => by
    unfold WI
    have e1 : YP (movC ((i : Int) * s.len) c) = YP c := rfl
    have e2 : toC (movC ((i : Int) * s.len) c) = toC c := rfl
    rw [e1, e2, h.dist n hi hc, h.dist n hi hc]
  unfold YdZ
  constructor
  · intro hg c hcm
    rw [← hc 0 h.k1 c hcm]
    exact hg _ (by rw [h.cells]; exact Qb.2 ⟨0, h.k1, c, hcm, rfl⟩)
  · intro hg x hx
    rw [h.cells] at hx
    obtain ⟨i, hi, c, hcm, rfl⟩ := Qb.1 hx
    rw [hc i hi c hcm]
    exact hg c hcm
end Go.Proofs.YtmalhidldgfeoaaGreatDoor
namespace Go.Proofs
open Go.Shelf
def Tryz.lays169_ren : Go.Shelf.Ren := ⟨fun | 169 => 78 | n => n, fun | 70 => 129 | 9 => 9 | 0 => 0 | 72 => 132 | 37 => 130 | 127 => 207 | 3 => 3 | 5 => 5 | n => n, fun | n => n⟩
theorem Tryz.lays169 : Go.Proofs.Lays.n169 Tryz.prog Tryz.lays169_ren := {
  mixed := by kernel_rfl
  f169 := Tryz.func78.trans (congrArg some (by kernel_rfl))
  t0 := Tryz.underlying0
  a0 := Tryz.isAgg0
  z0 := Tryz.sizeOf0
  v0 := Tryz.zeroValue0
  t3 := Tryz.underlying3
  a3 := Tryz.isAgg3
  z3 := Tryz.sizeOf3
  v3 := Tryz.zeroValue3
  t9 := Tryz.underlying9
  a9 := Tryz.isAgg9
  z9 := Tryz.sizeOf9
  v9 := Tryz.zeroValue9
  t37 := Tryz.underlying130
  a37 := Tryz.isAgg130
  z37 := Tryz.sizeOf130
  v37 := Tryz.zeroValue130
  t70 := Tryz.underlying129
  a70 := Tryz.isAgg129
  z70 := Tryz.sizeOf129
  v70 := Tryz.zeroValue129
  t72 := Tryz.underlying132
  a72 := Tryz.isAgg132
  z72 := Tryz.sizeOf132
  v72 := Tryz.zeroValue132
  t127 := Tryz.underlying207
  a127 := Tryz.isAgg207
  z127 := Tryz.sizeOf207
  v127 := Tryz.zeroValue207 }
theorem Tryz.Builder_Extra_169 : Builder.Extra Tryz.prog Tryz.lays169_ren := {
  sizeBuilder := by kernel_rfl
  liesBuilder := by kernel_rfl
  t5 := Tryz.underlying5
  a5 := Tryz.isAgg5
  z5 := Tryz.sizeOf5
  v5 := Tryz.zeroValue5
  infoByte := by kernel_rfl
  cellsByte := by kernel_rfl
  sizeByte := by kernel_rfl
  neB5 := by decide }
open Go.RowKit in
theorem Tryz.Builder_String_any (B b : Nat) (l : List UInt8) (w : World) (h : Lib.IsBuilder 132 5 B b (Lib.byteCells l) w) (hBw : B ≤ w.heap.size) :
    Calls Tryz.prog 78 #[.pointer (some ⟨b, 0, none⟩)] w fun e w' => e = .returned (.string ⟨l.toArray⟩) ∧ Below B w w' := Any.Builder_String_any Tryz.lays169 Tryz.Builder_Extra_169 B b l w h hBw
def Tryz.laysM171_ren : Go.Shelf.Ren := ⟨fun | 171 => 137 | 243 => 197 | 246 => 239 | 283 => 275 | 284 => 276 | 285 => 277 | 286 => 278 | 129 => 224 | 317 => 295 | 318 => 296 | 319 => 297 | 320 => 298 | 337 => 304 | 338 => 305 | n => n, fun | 3 => 3 | 9 => 9 | 2 => 2 | 4 => 4 | 171 => 315 | 0 => 0 | 53 => 277 | 37 => 130 | 5 => 5 | 173 => 317 | 212 => 334 | 51 => 275 | 20 => 20 | 213 => 335 | 46 => 197 | 232 => 347 | 233 => 348 | n => n, fun | 17 => 3 | 18 => 6 | 19 => 7 | n => n⟩
theorem Tryz.laysM171 : Go.Proofs.LaysM.n171 Tryz.prog Tryz.laysM171_ren := {
  mixed := by kernel_rfl
  f129 := Tryz.func224.trans (congrArg some (by kernel_rfl))
  f171 := Tryz.func137.trans (congrArg some (by kernel_rfl))
  f243 := Tryz.func197.trans (congrArg some (by kernel_rfl))
  f246 := Tryz.func239.trans (congrArg some (by kernel_rfl))
  f283 := Tryz.func275.trans (congrArg some (by kernel_rfl))
  f284 := Tryz.func276.trans (congrArg some (by kernel_rfl))
  f285 := Tryz.func277.trans (congrArg some (by kernel_rfl))
  f286 := Tryz.func278.trans (congrArg some (by kernel_rfl))
  f317 := Tryz.func295.trans (congrArg some (by kernel_rfl))
  f318 := Tryz.func296.trans (congrArg some (by kernel_rfl))
  f319 := Tryz.func297.trans (congrArg some (by kernel_rfl))
  f320 := Tryz.func298.trans (congrArg some (by kernel_rfl))
  f337 := Tryz.func304.trans (congrArg some (by kernel_rfl))
  f338 := Tryz.func305.trans (congrArg some (by kernel_rfl))
  t0 := Tryz.underlying0
  a0 := Tryz.isAgg0
  z0 := Tryz.sizeOf0
  v0 := Tryz.zeroValue0
  t2 := Tryz.underlying2
  a2 := Tryz.isAgg2
  z2 := Tryz.sizeOf2
  v2 := Tryz.zeroValue2
  t3 := Tryz.underlying3
  a3 := Tryz.isAgg3
  z3 := Tryz.sizeOf3
  v3 := Tryz.zeroValue3
  t4 := Tryz.underlying4
  a4 := Tryz.isAgg4
  z4 := Tryz.sizeOf4
  v4 := Tryz.zeroValue4
  t5 := Tryz.underlying5
  a5 := Tryz.isAgg5
  z5 := Tryz.sizeOf5
  v5 := Tryz.zeroValue5
  t9 := Tryz.underlying9
  a9 := Tryz.isAgg9
  z9 := Tryz.sizeOf9
  v9 := Tryz.zeroValue9
  t20 := Tryz.underlying20
  a20 := Tryz.isAgg20
  z20 := Tryz.sizeOf20
  v20 := Tryz.zeroValue20
  t37 := Tryz.underlying130
  a37 := Tryz.isAgg130
  z37 := Tryz.sizeOf130
  v37 := Tryz.zeroValue130
  t46 := Tryz.underlying197
  a46 := Tryz.isAgg197
  z46 := Tryz.sizeOf197
  v46 := Tryz.zeroValue197
  t51 := Tryz.underlying275
  a51 := Tryz.isAgg275
  z51 := Tryz.sizeOf275
  v51 := Tryz.zeroValue275
  t53 := Tryz.underlying277
  a53 := Tryz.isAgg277
  z53 := Tryz.sizeOf277
  v53 := Tryz.zeroValue277
  t171 := Tryz.underlying315
  a171 := Tryz.isAgg315
  z171 := Tryz.sizeOf315
  v171 := Tryz.zeroValue315
  t173 := Tryz.underlying317
  a173 := Tryz.isAgg317
  z173 := Tryz.sizeOf317
  v173 := Tryz.zeroValue317
  t212 := Tryz.underlying334
  a212 := Tryz.isAgg334
  z212 := Tryz.sizeOf334
  v212 := Tryz.zeroValue334
  t213 := Tryz.underlying335
  a213 := Tryz.isAgg335
  z213 := Tryz.sizeOf335
  t232 := Tryz.underlying347
  a232 := Tryz.isAgg347
  z232 := Tryz.sizeOf347
  v232 := Tryz.zeroValue347
  t233 := Tryz.underlying348
  a233 := Tryz.isAgg348
  z233 := Tryz.sizeOf348
  v233 := Tryz.zeroValue348
  g17 := by kernel_rfl
  g18 := by kernel_rfl
  g19 := by kernel_rfl
  i0 := by kernel_rfl
  i2 := by kernel_rfl
  i3 := by kernel_rfl
  i4 := by kernel_rfl
  i5 := by kernel_rfl
  i9 := by kernel_rfl
  i20 := by kernel_rfl
  i37 := by kernel_rfl
  i46 := by kernel_rfl
  i51 := by kernel_rfl
  i53 := by kernel_rfl
  i171 := by kernel_rfl
  i173 := by kernel_rfl
  i212 := by kernel_rfl
  i232 := by kernel_rfl
  i233 := by kernel_rfl
  m17 := by kernel_rfl
  m18 := by kernel_rfl
  m19 := by kernel_rfl }
open Go.RowKit Go.Sort Go.Lib in
theorem Tryz.strconv_Itoa (n : Int) (h0 : -9223372036854775808 ≤ n) (h1 : n ≤ 9223372036854775807) (w : World) (htab : Lib.TabIs Tryz.prog w "internal/strconv.uint64pow10" .u64 Lib.pow10Tab) :
    Calls Tryz.prog 137 #[.int .i64 n] w fun e w' => e = .returned (.string ⟨(Lib.itoa n).toArray⟩) ∧ ∃ k os, w' = grow (w.drewN k) os := Any.strconv_Itoa Tryz.laysM171 n h0 h1 w htab
def Tryz.laysC172_ren : Go.Shelf.Ren := ⟨fun | 172 => 159 | 244 => 225 | 245 => 226 | 247 => 266 | 279 => 267 | 280 => 268 | 281 => 269 | 282 => 270 | 287 => 292 | 316 => 293 | 171 => 137 | 205 => 294 | 321 => 302 | 322 => 303 | 243 => 197 | 246 => 239 | 283 => 275 | 284 => 276 | 285 => 277 | 286 => 278 | 129 => 224 | 317 => 295 | 318 => 296 | 319 => 297 | 320 => 298 | 337 => 304 | 338 => 305 | n => n, fun | 9 => 9 | 3 => 3 | 75 => 134 | 76 => 135 | 4 => 4 | 5 => 5 | 167 => 308 | 37 => 130 | 0 => 0 | 85 => 309 | 2 => 2 | 168 => 311 | 53 => 277 | 175 => 327 | 46 => 197 | 210 => 331 | 127 => 207 | 145 => 346 | 143 => 344 | 21 => 21 | 171 => 315 | 173 => 317 | 212 => 334 | 51 => 275 | 20 => 20 | 213 => 335 | 232 => 347 | 233 => 348 | 80 => 138 | n => n, fun | 15 => 1 | 16 => 2 | 17 => 3 | 18 => 6 | 19 => 7 | n => n⟩
theorem Tryz.laysC172 : Go.Proofs.LaysC.n172 Tryz.prog Tryz.laysC172_ren := {
  mixed := by kernel_rfl
  f129 := Tryz.func224.trans (congrArg some (by kernel_rfl))
  f171 := Tryz.func137.trans (congrArg some (by kernel_rfl))
  f172 := Tryz.func159.trans (congrArg some (by kernel_rfl))
  f205 := Tryz.func294.trans (congrArg some (by kernel_rfl))
  f243 := Tryz.func197.trans (congrArg some (by kernel_rfl))
  f244 := Tryz.func225.trans (congrArg some (by kernel_rfl))
  f245 := Tryz.func226.trans (congrArg some (by kernel_rfl))
  f246 := Tryz.func239.trans (congrArg some (by kernel_rfl))
  f247 := Tryz.func266.trans (congrArg some (by kernel_rfl))
  f279 := Tryz.func267.trans (congrArg some (by kernel_rfl))
  f280 := Tryz.func268.trans (congrArg some (by kernel_rfl))
  f281 := Tryz.func269.trans (congrArg some (by kernel_rfl))
  f282 := Tryz.func270.trans (congrArg some (by kernel_rfl))
  f283 := Tryz.func275.trans (congrArg some (by kernel_rfl))
  f284 := Tryz.func276.trans (congrArg some (by kernel_rfl))
  f285 := Tryz.func277.trans (congrArg some (by kernel_rfl))
  f286 := Tryz.func278.trans (congrArg some (by kernel_rfl))
  f287 := Tryz.func292.trans (congrArg some (by kernel_rfl))
  f316 := Tryz.func293.trans (congrArg some (by kernel_rfl))
  f317 := Tryz.func295.trans (congrArg some (by kernel_rfl))
  f318 := Tryz.func296.trans (congrArg some (by kernel_rfl))
  f319 := Tryz.func297.trans (congrArg some (by kernel_rfl))
  f320 := Tryz.func298.trans (congrArg some (by kernel_rfl))
  f321 := Tryz.func302.trans (congrArg some (by kernel_rfl))
  f322 := Tryz.func303.trans (congrArg some (by kernel_rfl))
  f337 := Tryz.func304.trans (congrArg some (by kernel_rfl))
  f338 := Tryz.func305.trans (congrArg some (by kernel_rfl))
  t0 := Tryz.underlying0
  a0 := Tryz.isAgg0
  z0 := Tryz.sizeOf0
  v0 := Tryz.zeroValue0
  t2 := Tryz.underlying2
  a2 := Tryz.isAgg2
  z2 := Tryz.sizeOf2
  v2 := Tryz.zeroValue2
  t3 := Tryz.underlying3
  a3 := Tryz.isAgg3
  z3 := Tryz.sizeOf3
  v3 := Tryz.zeroValue3
  t4 := Tryz.underlying4
  a4 := Tryz.isAgg4
  z4 := Tryz.sizeOf4
  v4 := Tryz.zeroValue4
  t5 := Tryz.underlying5
  a5 := Tryz.isAgg5
  z5 := Tryz.sizeOf5
  v5 := Tryz.zeroValue5
  t9 := Tryz.underlying9
  a9 := Tryz.isAgg9
  z9 := Tryz.sizeOf9
  v9 := Tryz.zeroValue9
  t20 := Tryz.underlying20
  a20 := Tryz.isAgg20
  z20 := Tryz.sizeOf20
  v20 := Tryz.zeroValue20
  t21 := Tryz.underlying21
  a21 := Tryz.isAgg21
  z21 := Tryz.sizeOf21
  v21 := Tryz.zeroValue21
  t37 := Tryz.underlying130
  a37 := Tryz.isAgg130
  z37 := Tryz.sizeOf130
  v37 := Tryz.zeroValue130
  t46 := Tryz.underlying197
  a46 := Tryz.isAgg197
  z46 := Tryz.sizeOf197
  v46 := Tryz.zeroValue197
  t51 := Tryz.underlying275
  a51 := Tryz.isAgg275
  z51 := Tryz.sizeOf275
  v51 := Tryz.zeroValue275
  t53 := Tryz.underlying277
  a53 := Tryz.isAgg277
  z53 := Tryz.sizeOf277
  v53 := Tryz.zeroValue277
  t75 := Tryz.underlying134
  a75 := Tryz.isAgg134
  z75 := Tryz.sizeOf134
  v75 := Tryz.zeroValue134
  t76 := Tryz.underlying135
  a76 := Tryz.isAgg135
  z76 := Tryz.sizeOf135
  v76 := Tryz.zeroValue135
  t85 := Tryz.underlying309
  a85 := Tryz.isAgg309
  z85 := Tryz.sizeOf309
  v85 := Tryz.zeroValue309
  t127 := Tryz.underlying207
  a127 := Tryz.isAgg207
  z127 := Tryz.sizeOf207
  v127 := Tryz.zeroValue207
  t143 := Tryz.underlying344
  a143 := Tryz.isAgg344
  z143 := Tryz.sizeOf344
  v143 := Tryz.zeroValue344
  t145 := Tryz.underlying346
  a145 := Tryz.isAgg346
  z145 := Tryz.sizeOf346
  v145 := Tryz.zeroValue346
  t167 := Tryz.underlying308
  a167 := Tryz.isAgg308
  z167 := Tryz.sizeOf308
  v167 := Tryz.zeroValue308
  t168 := Tryz.underlying311
  a168 := Tryz.isAgg311
  z168 := Tryz.sizeOf311
  v168 := Tryz.zeroValue311
  t171 := Tryz.underlying315
  a171 := Tryz.isAgg315
  z171 := Tryz.sizeOf315
  v171 := Tryz.zeroValue315
  t173 := Tryz.underlying317
  a173 := Tryz.isAgg317
  z173 := Tryz.sizeOf317
  v173 := Tryz.zeroValue317
  t175 := Tryz.underlying327
  a175 := Tryz.isAgg327
  z175 := Tryz.sizeOf327
  v175 := Tryz.zeroValue327
  t210 := Tryz.underlying331
  a210 := Tryz.isAgg331
  z210 := Tryz.sizeOf331
  v210 := Tryz.zeroValue331
  t212 := Tryz.underlying334
  a212 := Tryz.isAgg334
  z212 := Tryz.sizeOf334
  v212 := Tryz.zeroValue334
  t213 := Tryz.underlying335
  a213 := Tryz.isAgg335
  z213 := Tryz.sizeOf335
  t232 := Tryz.underlying347
  a232 := Tryz.isAgg347
  z232 := Tryz.sizeOf347
  v232 := Tryz.zeroValue347
  t233 := Tryz.underlying348
  a233 := Tryz.isAgg348
  z233 := Tryz.sizeOf348
  v233 := Tryz.zeroValue348
  g15 := by kernel_rfl
  g16 := by kernel_rfl
  g17 := by kernel_rfl
  g18 := by kernel_rfl
  g19 := by kernel_rfl
  t80 := Tryz.underlying138
  a80 := Tryz.isAgg138
  z80 := Tryz.sizeOf138
  v80 := Tryz.zeroValue138
  i0 := by kernel_rfl
  i2 := by kernel_rfl
  i3 := by kernel_rfl
  i4 := by kernel_rfl
  i5 := by kernel_rfl
  i9 := by kernel_rfl
  i20 := by kernel_rfl
  i21 := by kernel_rfl
  i37 := by kernel_rfl
  i46 := by kernel_rfl
  i51 := by kernel_rfl
  i53 := by kernel_rfl
  i75 := by kernel_rfl
  i76 := by kernel_rfl
  i80 := by kernel_rfl
  i85 := by kernel_rfl
  i127 := by kernel_rfl
  i143 := by kernel_rfl
  i145 := by kernel_rfl
  i167 := by kernel_rfl
  i168 := by kernel_rfl
  i171 := by kernel_rfl
  i173 := by kernel_rfl
  i175 := by kernel_rfl
  i210 := by kernel_rfl
  i212 := by kernel_rfl
  i232 := by kernel_rfl
  i233 := by kernel_rfl
  m15 := by kernel_rfl
  m16 := by kernel_rfl
  m17 := by kernel_rfl
  m18 := by kernel_rfl
  m19 := by kernel_rfl
  c0 := by kernel_rfl
  c2 := by kernel_rfl
  c3 := by kernel_rfl
  c4 := by kernel_rfl
  c5 := by kernel_rfl
  c9 := by kernel_rfl
  c20 := by kernel_rfl
  c21 := by kernel_rfl
  c37 := by kernel_rfl
  c46 := by kernel_rfl
  c51 := by kernel_rfl
  c53 := by kernel_rfl
  c75 := by kernel_rfl
  c76 := by kernel_rfl
  c80 := by kernel_rfl
  c85 := by kernel_rfl
  c127 := by kernel_rfl
  c143 := by kernel_rfl
  c145 := by kernel_rfl
  c167 := by kernel_rfl
  c168 := by kernel_rfl
  c171 := by kernel_rfl
  c173 := by kernel_rfl
  c175 := by kernel_rfl
  c210 := by kernel_rfl
  c212 := by kernel_rfl
  c213 := by kernel_rfl
  c232 := by kernel_rfl
  c233 := by kernel_rfl }
open Go.RowKit in
theorem Tryz.strconv_Atoi_ok (s : ByteArray) (hmax : s.size ≤ 9223372036854775806) (v : Int) (h : Lib.atoiAll s.data.toList = .ok v) (w : World) :
    Calls Tryz.prog 159 #[.string s] w fun e w' => e = .returned (.tuple #[.int .i64 v, .nilIface]) ∧ (w' = w ∨ ∃ t, w' = Lib.bytesWorld w 5 t) := Any.strconv_Atoi_ok Tryz.laysC172 s hmax v h w
open Go.RowKit in
theorem Tryz.strconv_Atoi_range_var (s : ByteArray) (hlim : s.size ≤ 281474976710656) (h : Lib.atoiAll s.data.toList = .range) (tp : TypeId) (p : Value) (w : World) (hvar : w.var? Tryz.prog "strconv.ErrRange" = some #[.iface tp p]) :
    Calls Tryz.prog 159 #[.string s] w fun e w' => ∃ N, e = .returned (.tuple #[.int .i64 (Lib.atoiSat s.data.toList), .iface 311 (.pointer (some ⟨N, 0, none⟩))]) ∧ w.heap.size ≤ N ∧ w'.heap[N]? = some (.cells #[.string ⟨#[65, 116, 111, 105]⟩, .string s, .iface tp p] 331 (0, 0)) ∧ Below w.heap.size w w' := Any.strconv_Atoi_range_var Tryz.laysC172 s hlim h tp p w hvar
def Tryz.lays146_ren : Go.Shelf.Ren := ⟨fun | 146 => 81 | 221 => 141 | 268 => 198 | 138 => 199 | 143 => 200 | 195 => 240 | 197 => 241 | 218 => 242 | 219 => 243 | 260 => 279 | 217 => 280 | 225 => 281 | 224 => 282 | 267 => 283 | 266 => 299 | 314 => 300 | n => n, fun | 9 => 9 | 31 => 140 | 3 => 3 | 4 => 4 | 0 => 0 | 105 => 286 | 21 => 21 | 5 => 5 | 46 => 197 | 119 => 336 | 139 => 339 | 138 => 338 | 146 => 340 | 51 => 275 | n => n, fun | 1 => 0 | 3 => 4 | 4 => 5 | n => n⟩
theorem Tryz.lays146 : Go.Proofs.Lays.n146 Tryz.prog Tryz.lays146_ren := {
  mixed := by kernel_rfl
  f138 := Tryz.func199.trans (congrArg some (by kernel_rfl))
  f143 := Tryz.func200.trans (congrArg some (by kernel_rfl))
  f146 := Tryz.func81.trans (congrArg some (by kernel_rfl))
  f195 := Tryz.func240.trans (congrArg some (by kernel_rfl))
  f197 := Tryz.func241.trans (congrArg some (by kernel_rfl))
  f217 := Tryz.func280.trans (congrArg some (by kernel_rfl))
  f218 := Tryz.func242.trans (congrArg some (by kernel_rfl))
  f219 := Tryz.func243.trans (congrArg some (by kernel_rfl))
  f221 := Tryz.func141.trans (congrArg some (by kernel_rfl))
  f224 := Tryz.func282.trans (congrArg some (by kernel_rfl))
  f225 := Tryz.func281.trans (congrArg some (by kernel_rfl))
  f260 := Tryz.func279.trans (congrArg some (by kernel_rfl))
  f266 := Tryz.func299.trans (congrArg some (by kernel_rfl))
  f267 := Tryz.func283.trans (congrArg some (by kernel_rfl))
  f268 := Tryz.func198.trans (congrArg some (by kernel_rfl))
  f314 := Tryz.func300.trans (congrArg some (by kernel_rfl))
  t0 := Tryz.underlying0
  a0 := Tryz.isAgg0
  z0 := Tryz.sizeOf0
  v0 := Tryz.zeroValue0
  t3 := Tryz.underlying3
  a3 := Tryz.isAgg3
  z3 := Tryz.sizeOf3
  v3 := Tryz.zeroValue3
  t4 := Tryz.underlying4
  a4 := Tryz.isAgg4
  z4 := Tryz.sizeOf4
  v4 := Tryz.zeroValue4
  t5 := Tryz.underlying5
  a5 := Tryz.isAgg5
  z5 := Tryz.sizeOf5
  v5 := Tryz.zeroValue5
  t9 := Tryz.underlying9
  a9 := Tryz.isAgg9
  z9 := Tryz.sizeOf9
  v9 := Tryz.zeroValue9
  t21 := Tryz.underlying21
  a21 := Tryz.isAgg21
  z21 := Tryz.sizeOf21
  v21 := Tryz.zeroValue21
  t31 := Tryz.underlying140
  a31 := Tryz.isAgg140
  z31 := Tryz.sizeOf140
  v31 := Tryz.zeroValue140
  t46 := Tryz.underlying197
  a46 := Tryz.isAgg197
  z46 := Tryz.sizeOf197
  v46 := Tryz.zeroValue197
  t51 := Tryz.underlying275
  a51 := Tryz.isAgg275
  z51 := Tryz.sizeOf275
  v51 := Tryz.zeroValue275
  t105 := Tryz.underlying286
  a105 := Tryz.isAgg286
  z105 := Tryz.sizeOf286
  v105 := Tryz.zeroValue286
  t119 := Tryz.underlying336
  a119 := Tryz.isAgg336
  z119 := Tryz.sizeOf336
  t138 := Tryz.underlying338
  a138 := Tryz.isAgg338
  z138 := Tryz.sizeOf338
  v138 := Tryz.zeroValue338
  t139 := Tryz.underlying339
  a139 := Tryz.isAgg339
  z139 := Tryz.sizeOf339
  v139 := Tryz.zeroValue339
  t146 := Tryz.underlying340
  a146 := Tryz.isAgg340
  z146 := Tryz.sizeOf340
  v146 := Tryz.zeroValue340
  g1 := by kernel_rfl
  g3 := by kernel_rfl
  g4 := by kernel_rfl }
open Go.RowKit Go.Lib in
theorem Tryz.strings_Split (s sep : ByteArray) (m : Int) (w : World) (hs : s.size < 4294967281) (hm : w.cell? ⟨0, 0, none⟩ = some (.int .i64 m)) (h1 : 1 ≤ sep.size) :
    Calls Tryz.prog 81 #[.string s, .string sep] w fun e w' =>
      e = .returned (.slice (some ⟨w.heap.size, 0, none⟩) (Lib.countB s sep + 1) (Lib.countB s sep + 1)) ∧ w' = w.alloc (.cells ((Lib.splitB sep 0 (Lib.countB s sep) s).map Value.string).toArray 9) := Any.strings_Split Tryz.lays146 (by kernel_rfl) s sep m w hs hm h1
end Go.Proofs
namespace Go.Proofs.YtmalhidldgfeoaaGreatDoor
open Go.RowKit Go.Eng Go.Nw
abbrev ints (A : Option Addr) (cap : Nat) (l : List Int) : HP := sl 3 1 A l.length cap (l.flatMap numF)
theorem Ji {l : List Int} {k : Nat} {a : Int} (h : l[k]? = some a) : l.take (k + 1) = l.take k ++ [a] := by rw [List.take_add_one, h]; rfl
open Go.RowKit Go.Eng Go.Nw
theorem NetM.In.mono {B : Nat} {w0 : World} {H K : List HP} {n : NetM} (h : n.In B w0 H) (hH : ∀ w, St B w0 K w → St B w0 H w) : n.In B w0 K :=
  ⟨h.pw.mono hH, fun r hr => (h.rw_ r hr).mono hH, h.lk.mono hH, h.mg.mono hH, h.s1, h.s2, h.s3, h.s4⟩
open Go.RowKit Go.Eng Go.Nw Go.Rt
theorem Ycq {n : Net} (h : YA n = 0) (a b : Int) : Uj n (Z4 n a b) = YR n a b := by
  have hok := YZ h
  unfold Uj Z4
  rw [if_neg (by simp [h]), decide_eq_true h, Bool.true_and]
  by_cases h1 : 0 ≤ Yw n a b
  · have h2 := XE h1
    rw [decide_eq_true ⟨h1, by omega⟩, Bool.true_and, OP hok h2]
    obtain ⟨e1, e2⟩ := V1 h1
    rw [e1, e2]
  · rw [decide_eq_false (fun h => h1 h.1), Bool.false_and]
    unfold YR
    rw [decide_eq_false h1, Bool.false_and]
def offE (n : Net) (a : Int) : Bool := decide (a < 0 ∨ n.nodes ≤ a)
def JU (n : Net) (s t : Int) : Int := if YA n ≠ 0 then 1 else if offE n s = true ∨ offE n t = true ∨ s = t then 2 else 0
def UW (r : List Int) : Bool := (List.range r.length).any fun i => (r.take i).contains (r.getD i 0)
def Jw (n : Net) (r : List Int) : Bool := (List.range (r.length - 1)).any fun i => !YR n (r.getD i 0) (r.getD (i + 1) 0)
def UO (n : Net) (s t : Int) (r : List Int) : Int :=
  if r.length < 2 then 9 else if 9 < r.length then 8 else if r.any (offE n) = true then 2 else if r.getD 0 0 ≠ s ∨ r.getD (r.length - 1) 0 ≠ t then 11
  else if UW r = true then 6 else if Jw n r = true then 17 else 0
def Yhb (n : Net) (a b : Int) : Int := (lnk n (Yw n a b).toNat).2.2
def XC (n : Net) (s t : Int) (r : List Int) : Int := if JU n s t ≠ 0 then JU n s t else UO n s t r
theorem Qs {p : Nat → Bool} {k : Nat} : (List.range (k + 1)).any p = ((List.range k).any p || p k) := by
  rw [List.range_succ, List.any_append]; simp
theorem Xj {l : List Int} {i : Nat} (h : i < l.length) : l[i]? = some (l.getD i 0) := by
  rw [List.getD_eq_getElem?_getD, List.getElem?_eq_getElem h]; rfl
open Go.RowKit Go.Eng Go.Nw Go.Rt
def onP (id a b : Int) (c : Cel) : Bool := decide (UI c = id ∧ YP c = a ∧ toC c = b)
def V4 (s : Sch) (id : Int) (l : Lk) : List Cel := s.cells.filter (onP id l.1 l.2.1)
def Y7 (len a : Int) : List Cel → Nat → List (Cel × Int)
  | [], _ => []
  | c :: cs, k => if c.1 = a.tmod len ∧ k ≠ 0 then (c, a) :: Y7 len a cs (k - 1) else Y7 len a cs k
def hopP (len : Int) (cs : List Cel) : Nat → Nat → Int → List (Cel × Int)
  | 0, _, _ => []
  | f + 1, k, a => Y7 len a cs k ++ hopP len cs f (k - (Y7 len a cs k).length) (a + 1)
def Zi (x : List (Cel × Int)) (a : Int) : Int := match x.getLast? with | some z => z.2 + 1 | none => a
def YX (l : Lk) : Nat := (l.2.2 + 1).toNat
def runP (len : Int) (C : Lk → List Cel) (endd : Int) : List Lk → Int → List (Cel × Int)
  | [], _ => []
  | l :: ls, a => if (hopP len (C l) (endd - a).toNat (YX l) a).length < YX l then hopP len (C l) (endd - a).toNat (YX l) a
    else hopP len (C l) (endd - a).toNat (YX l) a ++ runP len C endd ls (Zi (hopP len (C l) (endd - a).toNat (YX l) a) a)
def XA (ls : List Lk) : Nat := (ls.map YX).sum
theorem WA (len a : Int) : ∀ (cs : List Cel) (k : Nat), (Y7 len a cs k).length ≤ k
  | [], k => Nat.zero_le _
  | c :: cs, k => by
    unfold Y7
    split
    · rename_i h
      have := WA len a cs (k - 1)
      rw [List.length_cons]; omega
    · exact WA len a cs k
theorem WB {len a : Int} : ∀ {cs : List Cel} {k : Nat} {z : Cel × Int}, z ∈ Y7 len a cs k → z.2 = a
  | [], k, z, h => by cases h
  | c :: cs, k, z, h => by
    unfold Y7 at h
    split at h
    · rcases List.mem_cons.1 h with rfl | h
      · rfl
      · exact WB h
    · exact WB h
theorem Ut (len : Int) (cs : List Cel) : ∀ (f k : Nat) (a : Int), (hopP len cs f k a).length ≤ k
  | 0, k, a => Nat.zero_le _
  | f + 1, k, a => by
    unfold hopP
    have h1 := WA len a cs k
    have h2 := Ut len cs f (k - (Y7 len a cs k).length) (a + 1)
    rw [List.length_append]; omega
theorem Yda (len : Int) (cs : List Cel) (f : Nat) (a : Int) : hopP len cs f 0 a = [] := List.eq_nil_of_length_eq_zero (Nat.le_zero.1 (Ut len cs f 0 a))
theorem Ycc {len : Int} {cs : List Cel} : ∀ {f k : Nat} {a : Int} {z : Cel × Int}, z ∈ hopP len cs f k a → a ≤ z.2 ∧ z.2 < a + f
  | 0, k, a, z, h => by cases h
  | f + 1, k, a, z, h => by
    unfold hopP at h
    rcases List.mem_append.1 h with h | h
    · have := WB h; omega
    · have := Ycc h; omega
theorem Qc (len : Int) (C : Lk → List Cel) (endd : Int) : ∀ (ls : List Lk) (a : Int), (runP len C endd ls a).length ≤ XA ls
  | [], a => Nat.zero_le _
  | l :: ls, a => by
    have h1 := Ut len (C l) (endd - a).toNat (YX l) a
    have h2 := Qc len C endd ls (Zi (hopP len (C l) (endd - a).toNat (YX l) a) a)
    have h3 : XA (l :: ls) = YX l + XA ls := by unfold XA; rw [List.map_cons, List.sum_cons]
    unfold runP
    split
    · omega
    · rw [List.length_append]; omega
theorem YcM {x : List (Cel × Int)} {a b : Int} (h : ∀ z ∈ x, a ≤ z.2 ∧ z.2 < b) (hab : a ≤ b) : a ≤ Zi x a ∧ Zi x a ≤ b := by
  unfold Zi
  cases hx : x.getLast? with
  | none => exact ⟨Int.le_refl _, hab⟩
  | some z =>
    have := h z (List.mem_of_getLast? hx)
    simp only
    omega
theorem Qd {len : Int} {C : Lk → List Cel} {endd : Int} : ∀ {ls : List Lk} {a : Int} {z : Cel × Int}, a ≤ endd → z ∈ runP len C endd ls a → a ≤ z.2 ∧ z.2 < endd
  | [], a, z, _, h => by cases h
  | l :: ls, a, z, hae, h => by
    have hb : ∀ z ∈ hopP len (C l) (endd - a).toNat (YX l) a, a ≤ z.2 ∧ z.2 < endd := fun z hz => by
      have := Ycc hz; omega
    unfold runP at h
    split at h
    · exact hb z h
    · rcases List.mem_append.1 h with h | h
      · exact hb z h
      · have h1 := YcM hb hae
        have := Qd h1.2 h
        omega
def VG (len : Int) (C : Lk → List Cel) (endd : Int) (cs : List Cel) (ls : List Lk) (f k : Nat) (a at_ : Int) : List (Cel × Int) :=
  if (hopP len cs f k a).length < k then hopP len cs f k a else hopP len cs f k a ++ runP len C endd ls (Zi (hopP len cs f k a) at_)
theorem Yhw (len : Int) (C : Lk → List Cel) (endd : Int) (l : Lk) (ls : List Lk) (a : Int) : runP len C endd (l :: ls) a = VG len C endd (C l) ls (endd - a).toNat (YX l) a a := rfl
theorem Yf9 (len : Int) (C : Lk → List Cel) (endd : Int) (cs : List Cel) (ls : List Lk) (f : Nat) (a at_ : Int) : VG len C endd cs ls f 0 a at_ = runP len C endd ls at_ := by
  unfold VG
  rw [Yda, if_neg (Nat.not_lt_zero _)]
  rfl
theorem YhA {len : Int} {C : Lk → List Cel} {endd : Int} {cs : List Cel} {ls : List Lk} {k : Nat} {a at_ : Int} (hk : k ≠ 0) : VG len C endd cs ls 0 k a at_ = [] := by
  unfold VG
  rw [if_pos (by simp [hopP]; omega)]
  rfl
theorem Yfp {x y : List (Cel × Int)} {a b : Int} (hy : ∀ z ∈ y, z.2 + 1 = b) : Zi (y ++ x) a = Zi x (if y = [] then a else b) := by
  unfold Zi
  cases hx : x.getLast? with
  | some z => rw [List.getLast?_append, hx]; rfl
  | none =>
    obtain rfl := List.getLast?_eq_none_iff.1 hx
    rw [List.append_nil]
    cases hy2 : y.getLast? with
    | none =>
      obtain rfl := List.getLast?_eq_none_iff.1 hy2
      rfl
    | some z =>
      have hne : y ≠ [] := fun e => by rw [e] at hy2; cases hy2
      rw [if_neg hne]
      exact hy z (List.mem_of_getLast? hy2)
theorem Yga (len : Int) (C : Lk → List Cel) (endd : Int) (cs : List Cel) (ls : List Lk) (f k : Nat) (a at_ : Int) :
    VG len C endd cs ls (f + 1) k a at_ = Y7 len a cs k ++ VG len C endd cs ls f (k - (Y7 len a cs k).length) (a + 1) (if Y7 len a cs k = [] then at_ else a + 1) := by
  have hl := WA len a cs k
  have h1 : hopP len cs (f + 1) k a = Y7 len a cs k ++ hopP len cs f (k - (Y7 len a cs k).length) (a + 1) := rfl
  unfold VG
  rw [h1, List.length_append]
  by_cases h2 : (hopP len cs f (k - (Y7 len a cs k).length) (a + 1)).length < k - (Y7 len a cs k).length
  · rw [if_pos h2, if_pos (by omega)]
  · rw [if_neg h2, if_neg (by omega), Yfp (b := a + 1) (fun z hz => by rw [WB hz]), List.append_assoc]
def UK (len : Int) (C : Lk → List Cel) (endd : Int) (cs cs' : List Cel) (ls : List Lk) (f k : Nat) (a at_ : Int) : List (Cel × Int) :=
  Y7 len a cs' k ++ VG len C endd cs ls f (k - (Y7 len a cs' k).length) (a + 1) (if Y7 len a cs' k = [] then at_ else a + 1)
theorem Yht (len : Int) (C : Lk → List Cel) (endd : Int) (cs : List Cel) (ls : List Lk) (f k : Nat) (a at_ : Int) : UK len C endd cs cs ls f k a at_ = VG len C endd cs ls (f + 1) k a at_ := (Yga ..).symm
theorem Yhu (len : Int) (C : Lk → List Cel) (endd : Int) (cs : List Cel) (ls : List Lk) (f k : Nat) (a at_ : Int) : UK len C endd cs [] ls f k a at_ = VG len C endd cs ls f k (a + 1) at_ := by
  simp [UK, Y7]
theorem Yhv {len : Int} {C : Lk → List Cel} {endd : Int} {cs cs' : List Cel} {c : Cel} {ls : List Lk} {f k : Nat} {a at_ : Int} (h : c.1 = a.tmod len) (hk : k ≠ 0) :
    UK len C endd cs (c :: cs') ls f k a at_ = (c, a) :: UK len C endd cs cs' ls f (k - 1) a (a + 1) := by
  have h1 : Y7 len a (c :: cs') k = (c, a) :: Y7 len a cs' (k - 1) := by rw [Y7, if_pos ⟨h, hk⟩]
  unfold UK
  rw [h1, List.length_cons, if_neg (List.cons_ne_nil _ _), show k - ((Y7 len a cs' (k - 1)).length + 1) = k - 1 - (Y7 len a cs' (k - 1)).length by omega]
  simp
theorem Yin {len : Int} {C : Lk → List Cel} {endd : Int} {cs cs' : List Cel} {c : Cel} {ls : List Lk} {f k : Nat} {a at_ : Int} (h : ¬ (c.1 = a.tmod len ∧ k ≠ 0)) :
    UK len C endd cs (c :: cs') ls f k a at_ = UK len C endd cs cs' ls f k a at_ := by
  unfold UK
  rw [Y7, if_neg h]
def runR (len : Int) (C : Lk → List Cel) (endd : Int) : List Lk → Int → Option (List Int)
  | [], _ => some []
  | l :: ls, a => if (hopP len (C l) (endd - a).toNat (YX l) a).length < YX l then none
    else (runR len C endd ls (Zi (hopP len (C l) (endd - a).toNat (YX l) a) a)).map fun y => (hopP len (C l) (endd - a).toNat (YX l) a).map Prod.snd ++ y
theorem Yfe (len : Int) (C : Lk → List Cel) (endd : Int) : ∀ (ls : List Lk) (a : Int), runR len C endd ls a = if (runP len C endd ls a).length < XA ls then none else some ((runP len C endd ls a).map Prod.snd)
  | [], a => rfl
  | l :: ls, a => by
    have h3 : XA (l :: ls) = YX l + XA ls := by unfold XA; rw [List.map_cons, List.sum_cons]
    have hl := Ut len (C l) (endd - a).toNat (YX l) a
    unfold runR runP
    by_cases h : (hopP len (C l) (endd - a).toNat (YX l) a).length < YX l
    · rw [if_pos h, if_pos h, if_pos (by omega)]
    · rw [if_neg h, if_neg h, Yfe len C endd ls]
      by_cases h4 : (runP len C endd ls (Zi (hopP len (C l) (endd - a).toNat (YX l) a) a)).length < XA ls
      · rw [if_pos h4, if_pos (by rw [List.length_append]; omega)]; rfl
      · rw [if_neg h4, if_neg (by rw [List.length_append]; omega)]; simp
def Z5 (n : Net) (r : List Int) (i : Nat) : Lk := lnk n (Yw n (r.getD i 0) (r.getD (i + 1) 0)).toNat
def YJ (n : Net) (r : List Int) : List Lk := (List.range (r.length - 1)).map (Z5 n r)
def ZM (n : Net) (s : Sch) (f : Flw) (r : List Int) (release : Int) : Option (List Int) := runR s.len (V4 s f.1) (release + f.2.2.2.1) (YJ n r) release
def XL (l : List Int) : Int := l.getD (l.length - 1) 0
def VX (S : Int → Option (List Int)) (len period : Int) : Nat → Int → Int × Int × List Int → Option (Int × Int × List Int)
  | 0, _, b => some b
  | k + 1, rel, b => if len ≤ rel then some b else match S rel with
    | none => none
    | some l => VX S len period k (rel + period) (if b.1 < XL l - rel + 1 then (XL l - rel + 1, rel, l.map fun z => z - rel) else b)
def Jo (n : Net) (s : Sch) (f : Flw) (r : List Int) : Option (Int × Int × List Int) := VX (ZM n s f r) s.len f.2.2.2.1 s.len.toNat f.2.2.2.2.1 (0, 0, [])
def wayE (n : Net) (s : Sch) (f : Flw) (r : List Int) : Int :=
  if YA n ≠ 0 ∨ XF s = false ∨ Xp n.nodes f ≠ 0 then 1 else if s.len.tmod f.2.2.2.1 ≠ 0 then 11 else XC n f.2.1 f.2.2.1 r
def Y5 (n : Net) (s : Sch) (f : Flw) (r : List Int) : (Int × Int × List Int) × Int :=
  if wayE n s f r ≠ 0 then ((0, 0, []), wayE n s f r) else match Jo n s f r with
    | none => ((0, 0, []), 15)
    | some b => (b, 0)
open Go.RowKit Go.Eng Go.Nw Go.Rt
abbrev Rqs := Flw × List (List Int)
structure Clm where
  flow : Int
  routes : List (List Int)
  bounds : List Int
  worst : List Int
  slots : List (List Int)
deriving DecidableEq
def Ykc : Clm := ⟨0, [], [], [], []⟩
def Z3 (q : List Rqs) : List Flw := q.map Prod.fst
def Ykd : Rqs := ((0, 0, 0, 0, 0, 0), [])
def rqAt (q : List Rqs) (i : Nat) : Rqs := q.getD i Ykd
def rtAt (l : List (List Int)) (k : Nat) : List Int := l.getD k []
def rtsE (n : Net) (x : Rqs) : Int :=
  if x.2.length = 0 then 14 else if 2 < x.2.length then 8
  else if (Yz (fun k => XC n x.1.2.1 x.1.2.2.1 (rtAt x.2 k)) x.2.length 0).2 ≠ 0 then (Yz (fun k => XC n x.1.2.1 x.1.2.2.1 (rtAt x.2 k)) x.2.length 0).2
  else if x.2.length = 2 ∧ rtAt x.2 0 = rtAt x.2 1 then 6 else 0
def rqsE (n : Net) (q : List Rqs) : Int × Int :=
  if YA n ≠ 0 then (-1, 1) else if (YN n.nodes (Z3 q)).2 ≠ 0 then YN n.nodes (Z3 q)
  else Yz (fun i => rtsE n (rqAt q i)) q.length 0
def badR (n : Net) (s : Sch) (f : Flw) (r : List Int) : Bool := decide ((Y5 n s f r).2 ≠ 0 ∨ f.2.2.2.2.2 < (Y5 n s f r).1.1)
def Wh (n : Net) (s : Sch) (x : Rqs) (l : List (List Int)) : Clm :=
  ⟨x.1.1, l, l.map fun r => (Y5 n s x.1 r).1.1, l.map fun r => (Y5 n s x.1 r).1.2.1, l.map fun r => (Y5 n s x.1 r).1.2.2⟩
def Zm (n : Net) (s : Sch) (x : Rqs) : Bool := x.2.any (badR n s x.1)
def clmE (n : Net) (s : Sch) (x : Rqs) : Clm := Wh n s x x.2
def XS (n : Net) (q : List Rqs) (s : Sch) : List Clm × (Int × Int) :=
  if (rqsE n q).2 ≠ 0 then ([], rqsE n q) else if (schE n (Z3 q) s).2 ≠ 0 then ([], (-1, 1))
  else if (Yz (fun i => if Zm n s (rqAt q i) = true then 15 else 0) q.length 0).2 ≠ 0 then ([], Yz (fun i => if Zm n s (rqAt q i) = true then 15 else 0) q.length 0)
  else (q.map (clmE n s), (-1, 0))
def ZU (c : List Clm) (i : Nat) : Clm := c.getD i Ykc
def chkE (n : Net) (q : List Rqs) (s : Sch) (c : List Clm) : Int × Int :=
  if (XS n q s).2.2 ≠ 0 then (XS n q s).2 else if c.length ≠ (XS n q s).1.length then (-1, 11)
  else Yz (fun i => if ZU c i = ZU (XS n q s).1 i then 0 else 20) c.length 0
def minI : List Int → Int
  | [] => 0
  | a :: l => l.foldl (fun x y => if y < x then y else x) a
def bndE (c : List Clm) (id : Int) : Int × Bool :=
  match c.find? (fun x => decide (x.flow = id) && decide (0 < x.bounds.length)) with
  | none => (0, false)
  | some x => (minI x.bounds, true)
def cutC (c : UInt8) : List UInt8 → List (List UInt8)
  | [] => [[]]
  | x :: l => if x = c then [] :: cutC c l else match cutC c l with
    | [] => [[x]]
    | h :: t => (x :: h) :: t
theorem WL (c : UInt8) : ∀ l, cutC c l ≠ []
  | [] => by simp [cutC]
  | x :: l => by
    unfold cutC
    split
    · simp
    · split <;> simp
theorem Yb5 {c : UInt8} : ∀ {a : List UInt8} (l : List UInt8), c ∉ a → cutC c (a ++ c :: l) = a :: cutC c l
  | [], l, _ => by rw [List.nil_append, cutC, if_pos rfl]
  | x :: a, l, h => by
    have hx : x ≠ c := fun e => h (e ▸ List.mem_cons_self)
    rw [List.cons_append, cutC, if_neg hx, Yb5 l fun hm => h (List.mem_cons_of_mem _ hm)]
theorem Yeb {c : UInt8} : ∀ {a : List UInt8}, c ∉ a → cutC c a = [a]
  | [], _ => rfl
  | x :: a, h => by
    have hx : x ≠ c := fun e => h (e ▸ List.mem_cons_self)
    rw [cutC, if_neg hx, Yeb fun hm => h (List.mem_cons_of_mem _ hm)]
def JZ (c : UInt8) : List (List UInt8) → List UInt8
  | [] => []
  | [p] => p
  | p :: q :: r => p ++ c :: JZ c (q :: r)
theorem Ydg {c : UInt8} : ∀ l : List UInt8, JZ c (cutC c l) = l
  | [] => rfl
  | x :: l => by
    have ih := Ydg (c := c) l
    unfold cutC
    split
    · rename_i e
      subst e
      cases h : cutC x l with
      | nil => exact absurd h (WL x l)
      | cons a t => rw [h] at ih; show [] ++ x :: JZ x (a :: t) = _; rw [ih]; rfl
    · split
      · rename_i h; exact absurd h (WL c l)
      · rename_i a t h
        rw [h] at ih
        cases t with
        | nil => show x :: a = _; rw [show a = l from ih]
        | cons b t => show (x :: a) ++ c :: JZ c (b :: t) = _; rw [List.cons_append, show a ++ c :: JZ c (b :: t) = l from ih]
theorem QD {c : UInt8} : ∀ {ps : List (List UInt8)}, ps ≠ [] → (∀ p ∈ ps, c ∉ p) → cutC c (JZ c ps) = ps
  | [], h, _ => absurd rfl h
  | [p], _, h => Yeb (h p List.mem_cons_self)
  | p :: q :: r, _, h => by
    show cutC c (p ++ c :: JZ c (q :: r)) = _
    rw [Yb5 _ (h p List.mem_cons_self), QD (by simp) fun x hx => h x (List.mem_cons_of_mem _ hx)]
theorem Ybt {c : UInt8} : ∀ {a : List UInt8} (b : List UInt8), c ∉ a → Lib.index (a ++ c :: b) [c] = a.length
  | [], b, _ => by simp [Lib.index, List.isPrefixOf]
  | x :: a, b, h => by
    have hx : ¬ c = x := fun e => h (e ▸ List.mem_cons_self)
    have ih := Ybt (c := c) (a := a) b fun hm => h (List.mem_cons_of_mem _ hm)
    rw [List.cons_append, Lib.index, if_neg (by simp [List.isPrefixOf, hx]), ih, if_neg (by intro h; have := eq_of_beq h; omega)]
    simp
theorem Yde {c : UInt8} : ∀ {a : List UInt8}, c ∉ a → Lib.index a [c] = -1
  | [], _ => rfl
  | x :: a, h => by
    have hx : ¬ c = x := fun e => h (e ▸ List.mem_cons_self)
    have ih := Yde (c := c) (a := a) fun hm => h (List.mem_cons_of_mem _ hm)
    rw [Lib.index, if_neg (by simp [List.isPrefixOf, hx]), ih, if_pos (by decide)]
theorem Yf6 {c : UInt8} (s : List UInt8) : Lib.split s [c] = cutC c s := by
  unfold Lib.split
  obtain ⟨k, hk⟩ : ∃ k, s.length = k := ⟨_, rfl⟩
  induction k using Nat.strongRecOn generalizing s with
  | _ k ih =>
    by_cases hm : c ∈ s
    · obtain ⟨a, b, rfl, ha⟩ := List.eq_append_cons_of_mem hm
      have hi := Ybt b ha
      rw [Lib.count_hit (by simp) hi, Nat.add_comm, Lib.splitK, if_neg (by rw [hi]; intro h; have := eq_of_beq h; omega), hi, Yb5 b ha]
      have e1 : ((a.length : Int).toNat) = a.length := rfl
      have e2 : (a ++ c :: b).take (a.length + 0) = a := by simp
      have e3 : (a ++ c :: b).drop (a.length + [c].length) = b := by
        rw [show a ++ c :: b = (a ++ [c]) ++ b by simp, show a.length + [c].length = (a ++ [c]).length by simp, List.drop_left]
      rw [e1, e2, e3, ih b.length (by rw [← hk]; simp; omega) b rfl]
    · rw [Lib.count_miss (Yde hm), Lib.splitK, Yeb hm]
def digB (b : UInt8) : Bool := decide (48 ≤ b.toNat ∧ b.toNat ≤ 57)
def valN (l : List UInt8) : Nat := l.foldl (fun a b => 10 * a + (b.toNat - 48)) 0
def numW (w : List UInt8) : Int := if w.length < 1 ∨ 4 < w.length ∨ (1 < w.length ∧ w.head? = some 48) ∨ w.all digB = false then -1 else (valN w : Int)
theorem WF (l : List UInt8) (d : UInt8) : valN (l ++ [d]) = 10 * valN l + (d.toNat - 48) := by
  unfold valN; rw [List.foldl_append]; rfl
theorem Yit : ∀ {l : List UInt8}, l ≠ [] → l.all digB = true → l.head? ≠ some 48 → 1 ≤ valN l := by
  intro l
  obtain ⟨k, hk⟩ : ∃ k, l.length = k := ⟨_, rfl⟩
  induction k generalizing l with
  | zero => intro h; exact absurd (List.length_eq_zero_iff.1 hk) h
  | succ k ih =>
    intro hne ha hh
    rcases List.eq_nil_or_concat l with rfl | ⟨m, d, rfl⟩
    · exact absurd rfl hne
    rw [List.concat_eq_append] at *
    rw [WF]
    cases m with
    | nil =>
      have h1 : digB d = true := by simpa using ha
      unfold digB at h1
      have h2 := of_decide_eq_true h1
      have h3 : d ≠ 48 := fun e => hh (by rw [e]; rfl)
      have h4 : d.toNat ≠ 48 := fun e => h3 (UInt8.toNat_inj.1 e)
      omega
    | cons x m =>
      have := ih (l := x :: m) (by simpa using hk) (by simp) (by rw [List.all_append] at ha; simp only [Bool.and_eq_true] at ha; exact ha.1) (by simpa using hh)
      omega
theorem Yh7 : ∀ {l : List UInt8}, l ≠ [] → l.all digB = true → (l.length = 1 ∨ l.head? ≠ some 48) → Lib.decDigits (valN l) = l := by
  intro l
  obtain ⟨k, hk⟩ : ∃ k, l.length = k := ⟨_, rfl⟩
  induction k generalizing l with
  | zero => intro h; exact absurd (List.length_eq_zero_iff.1 hk) h
  | succ k ih =>
    intro hne ha hh
    rcases List.eq_nil_or_concat l with rfl | ⟨m, d, rfl⟩
    · exact absurd rfl hne
    rw [List.concat_eq_append] at *
    rw [List.all_append] at ha
    simp only [Bool.and_eq_true] at ha
    have h1 : digB d = true := by simpa using ha.2
    unfold digB at h1
    have h2 := of_decide_eq_true h1
    have hd : UInt8.ofNat (48 + (d.toNat - 48)) = d := by
      rw [show 48 + (d.toNat - 48) = d.toNat by omega]; exact UInt8.ofNat_toNat
    rw [WF]
    cases m with
    | nil => rw [show 10 * valN [] + (d.toNat - 48) = d.toNat - 48 by simp [valN], Lib.decDigits_one (by omega), hd]; rfl
    | cons x m =>
      have hx : (x :: m).head? ≠ some 48 := by
        rcases hh with h | h
        · simp at h
        · simpa using h
      have hp := Yit (by simp) ha.1 hx
      rw [Lib.decDigits, dif_neg (by omega), show (10 * valN (x :: m) + (d.toNat - 48)) / 10 = valN (x :: m) by omega, show (10 * valN (x :: m) + (d.toNat - 48)) % 10 = d.toNat - 48 by omega, hd, ih (by simpa using hk) (by simp) ha.1 (.inr hx)]
theorem Yjv {l : List UInt8} (h : l.all digB = true) : valN l < 10 ^ l.length := by
  obtain ⟨k, hk⟩ : ∃ k, l.length = k := ⟨_, rfl⟩
  induction k generalizing l with
  | zero => rw [List.length_eq_zero_iff.1 hk]; decide
  | succ k ih =>
    rcases List.eq_nil_or_concat l with rfl | ⟨m, d, rfl⟩
    · simp at hk
    rw [List.concat_eq_append] at *
    rw [List.all_append] at h
    simp only [Bool.and_eq_true] at h
    have h1 : digB d = true := by simpa using h.2
    unfold digB at h1
    have h2 := of_decide_eq_true h1
    have hm : m.length = k := by simpa using hk
    have := ih h.1 hm
    rw [WF, List.length_append, hm, List.length_singleton, Nat.pow_succ]
    rw [hm] at this
    omega
structure Dec (u : Nat) (l : List UInt8) : Prop where
  ne : l ≠ []
  dig : l.all digB = true
  head : 1 ≤ u → l.head? ≠ some 48
  one : u = 0 → l.length = 1
  val : valN l = u
theorem Yb7 (u : Nat) : Dec u (Lib.decDigits u) := by
  induction u using Nat.strongRecOn with
  | _ u ih =>
    have hdg : ∀ d : Nat, d < 10 → (UInt8.ofNat (48 + d)).toNat = 48 + d := fun d hd => by rw [UInt8.toNat_ofNat']; omega
    by_cases h : u < 10
    · rw [Lib.decDigits_one h]
      have e := hdg u h
      refine ⟨by simp, ?_, fun h1 => ?_, fun _ => rfl, ?_⟩
      · simp [digB]; omega
      · simp only [List.head?_cons, ne_eq, Option.some.injEq]
        intro e2
        rw [e2] at e
        have : (48 : UInt8).toNat = 48 := rfl
        omega
      · show 10 * 0 + ((UInt8.ofNat (48 + u)).toNat - 48) = u
        rw [e]; omega
    · have h2 := ih (u / 10) (by omega)
      have e := hdg (u % 10) (by omega)
      rw [Lib.decDigits, dif_neg h]
      refine ⟨by simp, ?_, fun _ => ?_, fun h0 => by omega, ?_⟩
      · rw [List.all_append, h2.dig]
        simp [digB]; omega
      · have := h2.head (by omega)
        cases hl : Lib.decDigits (u / 10) with
        | nil => exact absurd hl h2.ne
        | cons x m => rw [hl] at this; simpa using this
      · rw [WF, h2.val, e]; omega
theorem Yce {w : List UInt8} (h : 0 ≤ numW w) : (numW w).toNat < 10000 ∧ w = Lib.decDigits (numW w).toNat := by
  unfold numW at h ⊢
  split at h
  · omega
  · rename_i hc
    rw [if_neg hc]
    have hne : w ≠ [] := fun e => hc (.inl (by rw [e]; decide))
    have hd : w.all digB = true := by
      cases hd : w.all digB with
      | true => rfl
      | false => exact absurd (.inr (.inr (.inr hd))) hc
    have hb := Yjv hd
    have h4 : w.length ≤ 4 := by omega
    refine ⟨?_, ?_⟩
    · have : 10 ^ w.length ≤ 10 ^ 4 := Nat.pow_le_pow_right (by decide) h4
      simp only [Int.toNat_natCast]
      omega
    · rw [Int.toNat_natCast, Yh7 hne hd]
      by_cases h1 : w.length = 1
      · exact .inl h1
      · refine .inr fun e => hc (.inr (.inr (.inl ⟨?_, e⟩)))
        have := List.length_pos_iff.2 hne
        omega
theorem O8 {u : Nat} (h : u < 10000) : (Lib.decDigits u).length ≤ 4 := by
  rw [Lib.decDigits_length]
  by_cases h1 : u < 10
  · rw [Lib.nDigits_small h1]; omega
  · rw [Lib.nDigits_big h1]
    by_cases h2 : u / 10 < 10
    · rw [Lib.nDigits_small h2]; omega
    · rw [Lib.nDigits_big h2]
      by_cases h3 : u / 10 / 10 < 10
      · rw [Lib.nDigits_small h3]; omega
      · rw [Lib.nDigits_big h3, Lib.nDigits_small (by omega)]; omega
theorem Q8 {u : Nat} (h : u < 10000) : numW (Lib.decDigits u) = u := by
  have hd := Yb7 u
  have hl := O8 h
  unfold numW
  rw [if_neg, hd.val]
  rintro (h1 | h1 | ⟨h1, h2⟩ | h1)
  · have := List.length_pos_iff.2 hd.ne; omega
  · omega
  · rcases Nat.eq_zero_or_pos u with h0 | h0
    · have := hd.one h0; omega
    · exact hd.head h0 h2
  · rw [hd.dig] at h1; cases h1
theorem Og : ∀ (l : List UInt8) (a : Nat), l.all digB = true → Lib.decFrom a l = some (l.foldl (fun a b => 10 * a + (b.toNat - 48)) a)
  | [], _, _ => rfl
  | b :: l, a, h => by
    simp only [List.all_cons, Bool.and_eq_true] at h
    have h1 := h.1
    unfold digB at h1
    have h2 := of_decide_eq_true h1
    rw [Lib.decFrom, show Lib.digitVal b = some (b.toNat - 48) by unfold Lib.digitVal; rw [if_pos h2]]
    show Lib.decFrom (a * 10 + (b.toNat - 48)) l = _
    rw [Og l _ h.2, List.foldl_cons, Nat.mul_comm]
theorem YcO {u : Nat} (h : u < 10000) : Lib.atoiAll (Lib.decDigits u) = .ok (u : Int) := by
  have hd := Yb7 u
  have hl := O8 h
  rw [Lib.atoiAll_short _ (by omega)]
  have h1 : Lib.atoi (Lib.decDigits u) = some (u : Int) := by
    have hv := Og _ 0 hd.dig
    have e := hd.val
    unfold valN at e
    rw [e] at hv
    have hdig := hd.dig
    cases hl : Lib.decDigits u with
    | nil => exact absurd hl hd.ne
    | cons b r =>
      rw [hl] at hv hdig
      simp only [List.all_cons, Bool.and_eq_true] at hdig
      have h1 := hdig.1
      unfold digB at h1
      have h2 := of_decide_eq_true h1
      have n1 : ¬ (b == 45) = true := fun e => by
        have := eq_of_beq e
        rw [this] at h2
        exact absurd h2.1 (by decide)
      have n2 : ¬ (b == 43) = true := fun e => by
        have := eq_of_beq e
        rw [this] at h2
        exact absurd h2.1 (by decide)
      show (if (b == 45) = true then (Lib.decNat r).map (fun (m : Nat) => -(m : Int)) else if (b == 43) = true then (Lib.decNat r).map (fun (m : Nat) => (m : Int)) else (Lib.decNat (b :: r)).map fun (m : Nat) => (m : Int)) = _
      rw [if_neg n1, if_neg n2]
      unfold Lib.decNat
      rw [if_neg (by simp), hv]
      rfl
  rw [h1]
  rfl
theorem Yhm {w : List UInt8} {n : Int} (h : Lib.atoiAll w = .ok n) : (w.length ≤ 4 ∧ Lib.itoa n = w ∧ 0 ≤ n → numW w = n) ∧ (¬ (w.length ≤ 4 ∧ Lib.itoa n = w ∧ 0 ≤ n) → numW w < 0) := by
  constructor
  · rintro ⟨h1, h2, h3⟩
    obtain ⟨u, rfl⟩ : ∃ u : Nat, n = u := ⟨n.toNat, by omega⟩
    have h4 : Lib.itoa (u : Int) = Lib.decDigits u := by unfold Lib.itoa; rw [if_neg (by omega)]; rfl
    rw [h4] at h2
    subst h2
    refine Q8 ?_
    have := Lib.lt_pow_nDigits u
    rw [Lib.decDigits_length] at h1
    have h5 : 10 ^ Lib.nDigits u ≤ 10 ^ 4 := Nat.pow_le_pow_right (by decide) h1
    omega
  · intro hc
    refine Int.not_le.1 fun h0 => hc ?_
    obtain ⟨h1, h2⟩ := Yce h0
    have h3 := YcO h1
    rw [← h2, h] at h3
    injection h3 with h3
    have h4 : Lib.itoa ((numW w).toNat : Int) = Lib.decDigits (numW w).toNat := by unfold Lib.itoa; rw [if_neg (by omega)]; rfl
    refine ⟨?_, ?_, by omega⟩
    · have := O8 h1
      rw [← h2] at this; exact this
    · rw [h3, h4]; exact h2.symm
theorem Yhl {w : List UInt8} (h : ∀ n, Lib.atoiAll w ≠ .ok n) : numW w < 0 := by
  refine Int.not_le.1 fun h0 => ?_
  obtain ⟨h1, h2⟩ := Yce h0
  have h3 := YcO h1
  rw [← h2] at h3
  exact h _ h3
open Go.RowKit Go.Eng Go.Nw
def wordS : List UInt8 := [115, 99, 104, 101, 100, 117, 108, 101]
def wordC : List UInt8 := [99, 101, 108, 108]
def YO (w : List UInt8) (l : List Int) : List UInt8 := w ++ l.flatMap fun n => 32 :: Lib.itoa n
def XW (w : List UInt8) (l : List Int) : List UInt8 := YO w l ++ [10]
def YhD (s : Sch) : List UInt8 := XW wordS [s.len, s.off] ++ s.cells.flatMap fun c => XW wordC (nums c)
def Vs (s : Sch) : List UInt8 × Int := if XF s = false then ([], 1) else (YhD s, 0)
def J1 (ws : List (List UInt8)) : Option (List Int) := if (ws.any fun w => decide (numW w < 0)) = true then none else some (ws.map numW)
def Yaa (line word : List UInt8) (many : Nat) : Option (List Int) :=
  if (cutC 32 line).length ≠ many + 1 ∨ (cutC 32 line).headD [] ≠ word then none else J1 (cutC 32 line).tail
def XM (ls : List (List UInt8)) (i : Nat) : List UInt8 := ls.getD i []
theorem Vh {c : UInt8} (p : List UInt8) : ∀ l : List (List UInt8), JZ c (p :: l) = p ++ l.flatMap fun q => c :: q
  | [] => by simp [JZ]
  | q :: r => by
    show p ++ c :: JZ c (q :: r) = _
    rw [Vh q r]; rfl
theorem QW : ∀ l : List (List UInt8), JZ 10 (l ++ [[]]) = l.flatMap fun p => p ++ [10]
  | [] => rfl
  | p :: l => by
    rw [List.cons_append, Vh, List.flatMap_cons, ← QW l]
    cases l with
    | nil => simp [JZ]
    | cons q r => rw [List.cons_append, Vh, List.flatMap_cons]; simp
theorem Ya3 (w : List UInt8) (l : List Int) : YO w l = JZ 32 (w :: l.map Lib.itoa) := by
  rw [Vh, List.flatMap_map]; rfl
theorem Yc0 (u : Nat) {b : UInt8} (hb : b ∈ Lib.decDigits u) : b ≠ 32 ∧ b ≠ 10 := by
  have := List.all_eq_true.1 (Yb7 u).dig b hb
  unfold digB at this
  have h := of_decide_eq_true this
  constructor <;> (intro e; subst e; exact absurd h (by decide))
theorem JX {n : Int} (h : 0 ≤ n) : Lib.itoa n = Lib.decDigits n.toNat := by unfold Lib.itoa; rw [if_neg (by omega)]
theorem Uo {w : List UInt8} {l : List Int} (hw : (10 : UInt8) ∉ w) (hl : ∀ n ∈ l, 0 ≤ n) : (10 : UInt8) ∉ YO w l := by
  unfold YO
  intro h
  rcases List.mem_append.1 h with h | h
  · exact hw h
  · obtain ⟨n, hn, h⟩ := List.mem_flatMap.1 h
    rcases List.mem_cons.1 h with h | h
    · exact absurd h (by decide)
    · rw [JX (hl n hn)] at h
      exact (Yc0 _ h).2 rfl
theorem YfQ {w : List UInt8} {l : List Int} (hw : (32 : UInt8) ∉ w) (hl : ∀ n ∈ l, 0 ≤ n ∧ n < 10000) : Yaa (YO w l) w l.length = some l := by
  have hc : cutC 32 (YO w l) = w :: l.map Lib.itoa := by
    rw [Ya3]
    refine QD (by simp) fun p hp => ?_
    rcases List.mem_cons.1 hp with rfl | hp
    · exact hw
    · obtain ⟨n, hn, rfl⟩ := List.mem_map.1 hp
      rw [JX (hl n hn).1]
      exact fun h => (Yc0 _ h).1 rfl
  have hn : ∀ n ∈ l, numW (Lib.itoa n) = n := fun n hm => by
    have := hl n hm
    rw [JX this.1, Q8 (by omega)]
    omega
  unfold Yaa
  rw [hc, if_neg (by simp), List.tail_cons]
  unfold J1
  rw [if_neg, List.map_map]
  · congr 1
    have : l.map (numW ∘ Lib.itoa) = l.map id := List.map_congr_left fun n hm => hn n hm
    rw [this, List.map_id]
  · rw [List.any_map, Bool.not_eq_true, List.any_eq_false]
    intro n hm
    show ¬ decide (numW (Lib.itoa n) < 0) = true
    rw [hn n hm, decide_eq_true_eq]
    have := hl n hm
    omega
theorem YfR {line w : List UInt8} {k : Nat} {x : List Int} (h : Yaa line w k = some x) : line = YO w x ∧ x.length = k ∧ ∀ n ∈ x, 0 ≤ n := by
  unfold Yaa at h
  split at h
  · cases h
  rename_i hc
  unfold J1 at h
  split at h
  · cases h
  rename_i ha
  have h1 : (cutC 32 line).length = k + 1 := Decidable.byContradiction fun e => hc (.inl e)
  have h2 : (cutC 32 line).headD [] = w := Decidable.byContradiction fun e => hc (.inr e)
  have hj := Ydg (c := 32) line
  cases hcl : cutC 32 line with
  | nil => exact absurd hcl (WL _ _)
  | cons p r =>
    rw [hcl] at h1 h2 hj h ha
    obtain rfl : p = w := h2
    have hx := Option.some.inj h
    rw [List.tail_cons] at hx ha
    have hpos : ∀ q ∈ r, 0 ≤ numW q := fun q hq => by
      refine Int.not_lt.1 fun hlt => ha ?_
      rw [List.any_eq_true]
      exact ⟨q, hq, decide_eq_true hlt⟩
    refine ⟨?_, ?_, ?_⟩
    · rw [Ya3, ← hj, ← hx, List.map_map]
      congr 2
      have : r.map (Lib.itoa ∘ numW) = r.map id := List.map_congr_left fun q hq => by
        show Lib.itoa (numW q) = q
        rw [JX (hpos q hq)]
        exact (Yce (hpos q hq)).2.symm
      rw [this, List.map_id]
    · rw [← hx, List.length_map]
      simpa using h1
    · intro n hn
      rw [← hx] at hn
      obtain ⟨q, hq, rfl⟩ := List.mem_map.1 hn
      exact hpos q hq
theorem WR {s : Sch} (h : Frm s) : (∀ n ∈ [s.len, s.off], 0 ≤ n ∧ n < 10000) ∧ ∀ c ∈ s.cells, ∀ n ∈ nums c, 0 ≤ n ∧ n < 10000 := by
  have h1 := h.sized
  unfold X5 at h1
  have h2 := of_decide_eq_true h1
  constructor
  · intro n hn
    simp only [List.mem_cons, List.not_mem_nil, or_false] at hn
    omega
  · intro c hc n hn
    have h3 := h.formed c hc
    unfold XR Xm insE at h3
    simp only [Bool.and_eq_true, decide_eq_true_eq] at h3
    unfold nums at hn
    simp only [List.mem_cons, List.not_mem_nil, or_false] at hn
    omega
theorem Ydk {ls : List (List UInt8)} {k : Nat} (h : k < ls.length) : ls.take (k + 1) = ls.take k ++ [XM ls k] := by
  unfold XM
  rw [List.take_add_one, List.getD_eq_getElem?_getD, List.getElem?_eq_getElem h]
  rfl
open Go.RowKit Go.Eng Go.Nw
structure Tabs (w : World) : Prop where
  pow : Lib.TabIs Tryz.prog w "internal/strconv.uint64pow10" .u64 Lib.pow10Tab
  syn : ∃ tp p, w.var? Tryz.prog "strconv.ErrSyntax" = some #[.iface tp p]
  rng : ∃ tp p, w.var? Tryz.prog "strconv.ErrRange" = some #[.iface tp p]
  mx : ∃ m, w.cell? ⟨0, 0, none⟩ = some (.int .i64 m)
def TabsB (B : Nat) (w0 : World) : Prop := ∀ w, Below B w0 w → Tabs w
theorem TabsB.here {B : Nat} {w0 w : World} {H : List HP} (h : TabsB B w0) (hw : St B w0 H w) : TabsB w.heap.size w := fun w1 h1 => h w1 (hw.below.trans (h1.mono hw.le))
abbrev strV (l : List UInt8) : Value := .string ⟨l.toArray⟩
def strL (l : List UInt8) : List Value := [strV l]
theorem WT (n : Int) (h0 : -9223372036854775808 ≤ n) (h1 : n ≤ 9223372036854775807) {B : Nat} {w0 : World} {H : List HP} {w : World} (ht : TabsB B w0) (hw : St B w0 H w) :
    Calls Tryz.prog 137 [.int .i64 n].toArray w (Post B w0 fun v K => v = strV (Lib.itoa n) ∧ K = H) :=
  Qv hw ((Tryz.strconv_Itoa n h0 h1 w (ht w hw.below).pow).mono fun e w' ⟨h1, k, os, h2⟩ => ⟨h1, by rw [h2]; exact Lib.below_grow _ w (Nat.le_refl _) k os⟩)
theorem Yh4 (l : List UInt8) (hl : l.length ≤ 1000000) (v : Int) (h : Lib.atoiAll l = .ok v) {B : Nat} {w0 : World} {H : List HP} {w : World} (hw : St B w0 H w) :
    Calls Tryz.prog 159 [strV l].toArray w (Post B w0 fun u K => u = .tuple #[.int .i64 v, .nilIface] ∧ K = H) := by
  have hs : (⟨l.toArray⟩ : ByteArray).size = l.length := by simp [ByteArray.size]
  refine Qv hw ((Tryz.strconv_Atoi_ok ⟨l.toArray⟩ (by omega) v h w).mono ?_)
  rintro e w' ⟨rfl, h2 | ⟨t, rfl⟩⟩
  · rw [h2]; exact ⟨rfl, Below.refl _ _⟩
  · exact ⟨rfl, Go.Joins.below_bytesWorld _ _ _ _ (Nat.le_refl _)⟩
theorem YgO (l : List UInt8) (hl : l.length ≤ 1000000) (h : ∀ v, Lib.atoiAll l ≠ .ok v) {B : Nat} {w0 : World} {H : List HP} {w : World} (ht : TabsB B w0) (hw : St B w0 H w) :
    Calls Tryz.prog 159 [strV l].toArray w (Post B w0 fun u K => (∃ n t p, u = .tuple #[.int .i64 n, .iface t p]) ∧ K = H) := by
  have hs : (⟨l.toArray⟩ : ByteArray).size = l.length := by simp [ByteArray.size]
  have hT := ht w hw.below
  obtain ⟨tp1, p1, hv1⟩ := hT.syn
  obtain ⟨tp2, p2, hv2⟩ := hT.rng
  cases ha : Lib.atoiAll l
  · exact absurd ha (h _)
  · refine (Any.strconv_Atoi_syntax_var Tryz.laysC172 ⟨l.toArray⟩ (by omega) ha tp1 p1 w hv1).mono ?_
    rintro e w' ⟨N, rfl, _, _, hb⟩
    exact ⟨_, H, rfl, hw.grow hb, ⟨_, _, _, rfl⟩, rfl⟩
  · refine (Any.strconv_Atoi_range_var Tryz.laysC172 ⟨l.toArray⟩ (by omega) ha tp2 p2 w hv2).mono ?_
    rintro e w' ⟨N, rfl, _, _, hb⟩
    exact ⟨_, H, rfl, hw.grow hb, ⟨_, _, _, rfl⟩, rfl⟩
theorem Yao (l : List UInt8) (c : UInt8) (hl : l.length ≤ 1000000) {B : Nat} {w0 : World} {H : List HP} {w : World} (ht : TabsB B w0) (hw : St B w0 H w) :
    Calls Tryz.prog 81 [strV l, .string ⟨#[c]⟩].toArray w (Post B w0 fun v K => ∃ g, v = .slice (some ⟨g, 0, none⟩) (cutC c l).length (cutC c l).length ∧ K = blk g (.cells ((cutC c l).map strV).toArray 9 (0, 0)) :: H) := by
  have hs : (⟨l.toArray⟩ : ByteArray).size = l.length := by simp [ByteArray.size]
  have hc : (⟨#[c]⟩ : ByteArray).size = 1 := rfl
  obtain ⟨m, hm⟩ := (ht w hw.below).mx
  have hlen := Lib.splitB_all ⟨#[c]⟩ (by rw [hc]; exact Nat.le_refl _) 0 _ (⟨l.toArray⟩ : ByteArray) rfl
  have hd := Lib.splitB_data ⟨#[c]⟩ 0 (Lib.countB ⟨l.toArray⟩ ⟨#[c]⟩) ⟨l.toArray⟩
  have e1 : (Lib.splitB ⟨#[c]⟩ 0 (Lib.countB ⟨l.toArray⟩ ⟨#[c]⟩) ⟨l.toArray⟩).map (·.data.toList) = cutC c l := by
    rw [hd]
    exact Yf6 l
  have e2 : (cutC c l).length = Lib.countB ⟨l.toArray⟩ ⟨#[c]⟩ + 1 := by
    rw [← e1, List.length_map, hlen]
  have e3 : (Lib.splitB ⟨#[c]⟩ 0 (Lib.countB ⟨l.toArray⟩ ⟨#[c]⟩) ⟨l.toArray⟩).map Value.string = (cutC c l).map strV := by
    rw [← e1, List.map_map]
    refine List.map_congr_left fun x _ => ?_
    rfl
  refine (Tryz.strings_Split ⟨l.toArray⟩ ⟨#[c]⟩ m w (by omega) hm (by rw [hc]; exact Nat.le_refl _)).mono ?_
  rintro e w' ⟨rfl, hw'⟩
  rw [e3] at hw'
  refine ⟨_, _, rfl, by rw [hw']; exact hw.alloc _, w.heap.size, ?_, rfl⟩
  rw [e2]
open Go.RowKit Go.Eng Go.Nw
theorem YgP {s : Sch} {i : Nat} (hi : i < s.cells.length) (h : Xz s i = false) : XF s = false := by
  unfold XF
  rw [U8 hi h, Bool.and_false]
set_option maxRecDepth 10000 in
set_option maxHeartbeats 1000000 in
theorem Ybq (s : SchM) {B : Nat} {w0 : World} {H : List HP} {w : World} (hr : Rd B w0 H s.A (s.cells.flatMap celF)) (hl : s.cells.length ≤ 1000000000000) (hw : St B w0 H w) :
    Calls Tryz.prog 58 [s.val].toArray w (Post B w0 fun v K => v = .bool (XF s.sch) ∧ K = H) := by
  refine Yc Tryz.func58 Tryz.ntmps58 rfl rfl hw ?_
  have e1 : s.sch.cells = s.cells := rfl
  repeat' (first | ((first | apply Yv en52 | apply Yu en52); exact za; exact rfl; exact fun _ hw => (Yal s hw); all_goals (intro hB; (try simp only [decide_eq_true_eq, decide_eq_false_iff_not] at hB); try (exfalso; omega))) | apply (zs1 ?_) | apply (zs2 ?_) | (apply zg1; first | refine zs3 ?_ | refine zs4 ?_) | (apply zg2; refine zs6 ?_) | (apply zg3; first | refine zs7 ?_ | refine zs8 ?_) | (apply zg4; refine zs9 ?_) | (apply zg6; first | refine zs11 ?_ | refine zs12 ?_) | (apply (zs19 ?_ ?_) <;> intro _ <;> try (exfalso; omega)) | (apply zg20; first | refine zs47 ?_ | refine zs48 ?_) | (apply zg23; (refine zs52 ?_; intro _)) | apply (zs65 ?_) | apply (zs68 ?_) | apply (zs69 ?_) | apply (zs70 ?_) | (apply zg27; first | refine zs71 ?_ | refine zs72 ?_) | apply (zs73 ?_) | apply (zs74 ?_) | apply (zs76 ?_) | apply (zs77 ?_) | fail)
  · apply Yi H
    · exact zk
    apply Yd; exact rfl; exact rfl
    exact ⟨by rw [show XF s.sch = false by unfold XF; rw [e1, decide_eq_false (by omega), Bool.and_false, Bool.false_and]], rfl⟩
  rotate_left
  · apply Yi H
    · exact zk
    apply Yd; exact rfl; exact rfl
    exact ⟨by simp [XF, *], rfl⟩
  rename_i g _
  refine Yj (fun (i : Nat) => [(17, .int .i64 i), (16, .int .i64 s.cells.length), (15, .slice s.A s.cells.length s.cap), (1, .pointer (some ⟨g, 0, none⟩))]) (fun _ => blk g (.cells #[.int .i64 s.len, .int .i64 s.off, .slice s.A s.cells.length s.cap] 30 (0, 0)) :: H) (fun i => i ≤ s.cells.length ∧ (List.range i).all (Xz s.sch) = true) (fun i => s.cells.length - i) 0 ⟨Nat.zero_le _, rfl⟩ ?_ (fun w hw => hw) ?_
  · exact zu
  rintro i ⟨hi, hall⟩ K hK
  have hr := hr.cons (X := blk g (.cells #[.int .i64 s.len, .int .i64 s.off, .slice s.A s.cells.length s.cap] 30 (0, 0)))
  by_cases hlt : i < s.cells.length
  · have hget : s.cells[i]? = some (Yn s.sch i) := Yx (s := s.sch) hlt
    have hgo : Xz s.sch i = false → XF s.sch = false := YgP (s := s.sch) hlt
    have hst : Xz s.sch i = true → (List.range (i + 1)).all (Xz s.sch) = true := fun h => by rw [VP, hall, h]; rfl
    rcases Nat.eq_zero_or_pos i with h0 | h0
    · subst h0
      repeat' (first | ((first | apply Yv YeS | apply Yu YeS); exact za; exact rfl; exact fun _ hw => (Ox s _ hw); all_goals (intro hB; (try simp only [decide_eq_true_eq, decide_eq_false_iff_not] at hB); try (exfalso; omega))) | apply (zs1 ?_) | apply (zs2 ?_) | (apply zg1; first | refine zs3 ?_ | refine zs4 ?_) | (apply zg3; first | refine zs8 ?_ | refine zs61 ?_) | (apply zg5; refine zs57 ?_) | (apply zg6; first | refine zs11 ?_ | refine zs12 ?_) | (apply (zs17 ?_ ?_) <;> intro _ <;> try (exfalso; omega)) | (apply (zs19 ?_ ?_) <;> intro _ <;> try (exfalso; omega)) | (apply zg13; refine zs30 ?_) | (apply zg20; first | refine zs47 ?_ | refine zs48 ?_) | (apply zg22; refine zs51 ?_) | (apply zg24; (refine zs54 ?_; intro _)) | apply (zs65 ?_) | apply (zs66 ?_) | apply (zs68 ?_) | apply (zs69 ?_) | apply (zs70 ?_) | (apply zg27; first | refine zs71 ?_ | refine zs72 ?_) | apply (zs73 ?_) | apply (zs74 ?_) | apply (zs76 ?_) | apply (zs77 ?_) | apply (zs78 ?_) | apply (zs79 ?_) | (apply zg28; refine zs84 ?_) | fail)
      · apply hK (0 + 1)
        · exact ⟨by omega, hst (by simp [Xz, *])⟩
        · omega
        · exact zu
        · exact zk
      · apply Yi H
        · exact zk
        apply Yd; exact rfl; exact rfl
        exact ⟨by rw [hgo (by simp [Xz, *])], rfl⟩
    · have hget2 : s.cells[((i : Int) - 1).toNat]? = some (Yn s.sch (i - 1)) := by
        rw [show ((i : Int) - 1).toNat = i - 1 by omega]
        exact Yx (s := s.sch) (show i - 1 < s.cells.length by omega)
      repeat' (first | ((first | apply Yv YeS | apply Yu YeS); exact za; exact rfl; exact fun _ hw => (Ox s _ hw); all_goals (intro hB; (try simp only [decide_eq_true_eq, decide_eq_false_iff_not] at hB); try (exfalso; omega))) | ((first | apply Ya en62 | apply Yb en62); exact za; exact rfl; exact fun _ hw => (UC _ _ hw)) | apply (zs1 ?_) | apply (zs2 ?_) | (apply zg1; first | refine zs3 ?_ | refine zs4 ?_) | (apply zg2; refine zs6 ?_) | (apply zg3; first | refine zs7 ?_ | refine zs8 ?_ | refine zs61 ?_) | (apply zg5; refine zs57 ?_) | (apply zg6; first | refine zs11 ?_ | refine zs12 ?_) | (apply (zs17 ?_ ?_) <;> intro _ <;> try (exfalso; omega)) | (apply (zs19 ?_ ?_) <;> intro _ <;> try (exfalso; omega)) | (apply (zs20 ?_ ?_) <;> intro _ <;> try (exfalso; omega)) | (apply zg13; refine zs30 ?_) | (apply zg14; refine zs31 ?_) | (apply zg20; first | refine zs47 ?_ | refine zs48 ?_) | (apply zg22; refine zs51 ?_) | (apply zg24; (refine zs54 ?_; intro _)) | apply (zs65 ?_) | apply (zs66 ?_) | apply (zs68 ?_) | apply (zs69 ?_) | apply (zs70 ?_) | (apply zg27; first | refine zs71 ?_ | refine zs72 ?_) | apply (zs73 ?_) | apply (zs74 ?_) | apply (zs76 ?_) | apply (zs77 ?_) | apply (zs78 ?_) | apply (zs79 ?_) | (apply zg28; refine zs84 ?_) | fail)
      all_goals first
        | (apply hK (i + 1)
           · refine ⟨by omega, hst ?_⟩
             have hc : cmpV (nums (Yn s.sch (i - 1))) (nums (Yn s.sch i)) < 0 := by omega
             simp [Xz, (Yea _ _).1 hc, *]
           · omega
           · exact zu
           · exact zk
           done)
        | (apply Yi H
           · exact zk
           apply Yd; exact rfl; exact rfl
           refine ⟨?_, rfl⟩
           rw [hgo]
           first
             | (simp [Xz, *]; done)
             | (have hc : ¬ cmpV (nums (Yn s.sch (i - 1))) (nums (Yn s.sch i)) < 0 := by omega
                have hd : Za (Yn s.sch (i - 1)) (Yn s.sch i) = false := by
                  rw [Yea] at hc
                  simpa using hc
                simp [Xz, hd]
                omega))
  · repeat' (first | apply (zs2 ?_) | (apply (zs17 ?_ ?_) <;> intro _ <;> try (exfalso; omega)) | apply (zs65 ?_) | apply (zs68 ?_) | apply (zs69 ?_) | apply (zs70 ?_) | (apply zg27; refine zs72 ?_) | apply (zs74 ?_) | apply (zs75 ?_) | apply (zs80 ?_) | apply (zs81 ?_) | fail)
    apply Yi H
    · exact zk
    apply Yd; exact rfl; exact rfl
    refine ⟨?_, rfl⟩
    rw [show i = s.cells.length by omega] at hall
    rw [show XF s.sch = true by unfold XF; rw [e1, hall, decide_eq_true (by omega)]; simp [*]]
open Go.RowKit Go.Eng Go.Nw
def inI (s : Sch) (slot : Int) (k : Nat) : List Nat := (List.range k).filter fun i => decide ((Yn s i).1 = slot)
def inXs (s : Sch) (slot : Int) : List (List Value) := (inI s slot s.cells.length).map fun (i : Nat) => [Value.int .i64 (i : Int)]
theorem Ye9 {s : Sch} {slot : Int} {k : Nat} (h : (Yn s k).1 = slot) : inI s slot (k + 1) = inI s slot k ++ [k] := by
  unfold inI; rw [List.range_succ, List.filter_append]; simp [h]
theorem Yg8 {s : Sch} {slot : Int} {k : Nat} (h : (Yn s k).1 ≠ slot) : inI s slot (k + 1) = inI s slot k := by
  unfold inI; rw [List.range_succ, List.filter_append]; simp [h]
theorem Yia {s : Sch} {slot : Int} {k n : Nat} (h : (Yn s k).1 = slot) (hk : k < n) : (inI s slot n)[(inI s slot k).length]? = some k := by
  obtain ⟨m, rfl⟩ : ∃ m, n = k + (m + 1) := ⟨n - k - 1, by omega⟩
  have e : inI s slot (k + (m + 1)) = inI s slot k ++ ((List.range (m + 1)).map (k + ·)).filter fun i => decide ((Yn s i).1 = slot) := by
    unfold inI; rw [List.range_add, List.filter_append]
  rw [e, List.getElem?_append_right (Nat.le_refl _), Nat.sub_self, List.range_succ_eq_map]
  simp [h]
theorem Uu {s : Sch} {slot : Int} {k i : Nat} : i ∈ inI s slot k ↔ i < k ∧ (Yn s i).1 = slot := by
  unfold inI; simp
def schB (g : Nat) (s : SchM) : HP := blk g (.cells #[.int .i64 s.len, .int .i64 s.off, .slice s.A s.cells.length s.cap] 30 (0, 0))
def intB (g : Nat) (x : Int) : HP := blk g (.cells #[.int .i64 x] 3 (0, 0))
set_option maxRecDepth 10000 in
set_option maxHeartbeats 1000000 in
theorem Ydc (s : SchM) (slot : Int) (gs gt : Nat) {B : Nat} {w0 : World} {HI : List HP} (hr : Rd B w0 HI s.A (s.cells.flatMap celF)) (hl : s.cells.length ≤ 1000000000000)
    (hms : blk gs (.cells #[.int .i64 s.len, .int .i64 s.off, .slice s.A s.cells.length s.cap] 30 (0, 0)) ∈ HI) (hmt : blk gt (.cells #[.int .i64 slot] 3 (0, 0)) ∈ HI) :
    YaZ Tryz.prog 118 [.pointer (some ⟨gs, 0, none⟩), .pointer (some ⟨gt, 0, none⟩)] (inXs s.sch slot) B w0 HI := by
  refine Ycs Tryz.func118 Tryz.ntmps118 rfl rfl ?_
  intro l SS X hy L0 h0
  repeat' (first | apply (zs1 ?_) | (apply zg2; refine zs6 ?_) | (apply zg3; refine zs7 ?_) | (apply zg4; refine zs9 ?_) | apply (zs65 ?_) | apply (zs68 ?_) | apply (zs69 ?_) | apply (zs70 ?_) | apply (zs73 ?_) | fail)
  refine Yj (fun (x : Nat × List HP) => [(9, .int .i64 x.1), (8, .int .i64 s.cells.length), (7, .slice s.A s.cells.length s.cap), (0, .func (.yield l) #[] #[]), (1, .pointer (some ⟨gs, 0, none⟩)), (2, .pointer (some ⟨gt, 0, none⟩))]) (fun x => many x.2 :: HI) (fun x => x.1 ≤ s.cells.length ∧ SS (inI s.sch slot x.1).length x.2) (fun x => s.cells.length - x.1) (0, L0) ⟨Nat.zero_le _, h0⟩ ?_ (fun w hw => hw) ?_
  · exact zu
  rintro ⟨i, L⟩ ⟨hi, hS⟩ K hK
  dsimp only at hi hS ⊢
  have hr := hr.cons (X := many L)
  by_cases hlt : i < s.cells.length
  · have hget : s.cells[i]? = some (Yn s.sch i) := Yx (s := s.sch) hlt
    have hlt2 : i < s.sch.cells.length := hlt
    iterate 22 (first | apply (zs1 ?_) | apply (zs2 ?_) | (apply zg3; refine zs61 ?_) | (apply zg5; refine zs57 ?_) | (apply (zs17 ?_ ?_) <;> intro _ <;> try (exfalso; omega)) | (apply zg22; refine zs51 ?_) | (apply zg24; (refine zs54 ?_; intro _)) | apply (zs65 ?_) | apply (zs68 ?_) | apply (zs69 ?_) | apply (zs70 ?_) | (apply zg27; refine zs71 ?_) | apply (zs73 ?_) | apply (zs76 ?_) | fail)
    refine Qk 7 rfl rfl (by rintro ⟨_, _, _, _, h, _⟩; cases h) ?_
    repeat' (first | apply (zs1 ?_) | (apply zg1; first | refine zs3 ?_ | refine zs4 ?_) | (apply zg2; refine zs6 ?_) | (apply zg3; refine zs7 ?_) | (apply zg7; (refine zs15 ?_ ?_ <;> intro _ <;> try (exfalso; omega))) | apply (zs65 ?_) | fail)
    · rename_i g5 hs
      have hx : (inXs s.sch slot)[(inI s.sch slot i).length]? = some [.int .i64 (i : Int)] := by
        rw [inXs, List.getElem?_map, Yia hs hlt2]; rfl
      have hY := hy _ _ hx [blk g5 (.cells (celF (Yn s.sch i)).toArray 40 (0, 0))] L hS
      apply YcJ _ _ (hy := hY)
      · exact YdU (j := 4) (s := 18) rfl rfl rfl
      · exact rfl
      · exact za
      · exact rfl
      · rintro ⟨_, _, _, _, h, _⟩; cases h
      · rintro _ ⟨L', hS', rfl⟩
        repeat' (first | apply (zs1 ?_) | (apply zg1; refine zs4 ?_) | (apply zg6; refine zs11 ?_) | (apply zg13; refine zs30 ?_) | (apply zg20; refine zs47 ?_) | apply (zs65 ?_) | apply (zs68 ?_) | apply (zs70 ?_) | (apply zg27; refine zs72 ?_) | apply (zs76 ?_) | apply (zs79 ?_) | fail)
        apply hK (i + 1, L')
        · exact ⟨by omega, by rw [Ye9 hs, List.length_append]; exact hS'⟩
        · dsimp only; omega
        · exact zu
        · exact fun w hw => hw.tail
      · rintro _ ⟨L', hX', rfl⟩
        repeat' (first | (apply zg1; refine zs4 ?_) | (apply zg6; refine zs11 ?_) | (apply zg20; refine zs48 ?_) | apply (zs65 ?_) | apply (zs68 ?_) | (apply zg27; refine zs71 ?_) | apply (zs74 ?_) | apply (zs77 ?_) | apply (zs78 ?_) | fail)
        apply Yi (many L' :: HI)
        · exact fun w hw => hw.tail
        apply U4; exact rfl
        exact .inr ⟨L', hX', rfl⟩
    · rename_i hs
      apply YgK (by rintro ⟨_, _, _, _, h, _⟩; cases h)
      repeat' (first | apply (zs1 ?_) | (apply zg1; refine zs3 ?_) | (apply zg6; refine zs12 ?_) | (apply zg13; refine zs30 ?_) | apply (zs65 ?_) | apply (zs68 ?_) | apply (zs70 ?_) | (apply zg27; refine zs72 ?_) | apply (zs76 ?_) | apply (zs79 ?_) | fail)
      apply hK (i + 1, L)
      · exact ⟨by omega, by rw [Yg8 hs]; exact hS⟩
      · dsimp only; omega
      · exact zu
      · exact fun w hw => hw.tail
  · repeat' (first | (apply (zs17 ?_ ?_) <;> intro _ <;> try (exfalso; omega)) | apply (zs65 ?_) | apply (zs68 ?_) | apply (zs69 ?_) | apply (zs70 ?_) | (apply zg27; refine zs72 ?_) | apply (zs75 ?_) | apply (zs80 ?_) | apply (zs81 ?_) | fail)
    apply ZO; exact rfl
    rw [show i = s.cells.length by omega] at hS
    exact .inl ⟨L, by rw [inXs, List.length_map]; exact hS, rfl⟩
theorem Ydd (s : SchM) (slot : Int) {B : Nat} {w0 : World} {H : List HP} {w : World} (hw : St B w0 H w) :
    Calls Tryz.prog 59 [s.val, .int .i64 slot].toArray w (Post B w0 fun v K => ∃ gs gt, v = .func (.func 118) #[] #[.pointer (some ⟨gs, 0, none⟩), .pointer (some ⟨gt, 0, none⟩)] ∧ K = intB gt slot :: schB gs s :: H) := by
  refine Yc Tryz.func59 Tryz.ntmps59 rfl rfl hw ?_
  repeat' (first | apply (zs2 ?_) | (apply zg23; first | (refine zs52 ?_; intro _) | (refine zs53 ?_; intro _)) | apply (zs65 ?_) | apply (zs68 ?_) | apply (zs69 ?_) | apply (zs70 ?_) | apply (zs74 ?_) | (apply zg29; (apply Ys; exact za ; exact rfl)) | fail)
  apply Yd; exact rfl; exact rfl
  exact ⟨_, _, rfl, rfl⟩
end Go.Proofs.YtmalhidldgfeoaaGreatDoor
namespace Go.Eng
open Go.RowKit
theorem YhJ {P : Program} {n : Shp} {B : Nat} {w0 : World} {Q : Exit → Act → World → Prop} {env : Env} {H : List HP} {c : Code} {e size k cap : Nat} {A : Option Addr} {xs : List Value} (hm : sl e size A k cap xs ∈ H) (h : k ≤ cap → VC P n B w0 c Q env H) : VC P n B w0 c Q env H := by
  refine ⟨fun a w ha hw => ?_⟩
  have hown := hw.sl hm
  have hkc : k ≤ cap := by
    rcases hown.2 with ⟨e1, e2⟩ | ⟨g, c, cur, e1, _, _, e4, _⟩
    · omega
    · injection e1 with _ _ e3; omega
  exact (h hkc).run a w ha hw
end Go.Eng
namespace Go.Proofs.YtmalhidldgfeoaaGreatDoor
open Go.RowKit Go.Eng Go.Nw
theorem Yaq (A : Option Addr) (cap size : Nat) : subA A 0 cap size = A := by
  unfold subA
  split
  · rfl
  · cases A with
    | none => rfl
    | some a => simp [Addr.add]
def cels (A : Option Addr) (cap : Nat) (l : List Cel) : HP := sl 40 5 A l.length cap (l.flatMap celF)
theorem Yfr (A : Option Addr) (cap : Nat) (l : List Cel) (c : Cel) : sl 40 5 A (l.length + 1) cap (l.flatMap celF ++ celF c) = cels A cap (l ++ [c]) := by
  unfold cels; simp
theorem Vc (A : Option Addr) (cap : Nat) (l : List Cel) (c : Cel) : sl 40 5 A (l.length + 1) cap (l.flatMap celF ++ #[Value.int .i64 c.1, .int .i64 c.2.1, .int .i64 c.2.2.1, .int .i64 c.2.2.2.1, .int .i64 c.2.2.2.2].toList) = cels A cap (l ++ [c]) := Yfr A cap l c
theorem Ydj (l : List Cel) (c : Cel) : l.length + 1 = (l ++ [c]).length := by simp
theorem Rd.cels {B : Nat} {w0 : World} {H : List HP} {A : Option Addr} {cap : Nat} {l : List Cel} (h : cels A cap l ∈ H) : Rd B w0 H A (l.flatMap celF) := .sl h
section
variable {m : Eng.Mode} {n : Shp} {B d : Nat} {w0 : World} {ops : Array Oper} {Q : Exit → Act → World → Prop} {rest : List Oper} {env : Env} {H : List HP} {ty : TypeId} {pos : String} {after : Array Edge}
end
open Go.RowKit Go.Eng Go.Nw
theorem Wo {s : Sch} {slot : Int} {k : Nat} {args : List Value} (h : (inXs s slot)[k]? = some args) : ∃ i, (inI s slot s.cells.length)[k]? = some i ∧ i < s.cells.length ∧ args = [.int .i64 (i : Int)] := by
  unfold inXs at h
  rw [List.getElem?_map] at h
  cases hi : (inI s slot s.cells.length)[k]? with
  | none => rw [hi] at h; cases h
  | some i =>
    rw [hi] at h
    cases h
    exact ⟨i, rfl, (Uu.1 (List.mem_of_getElem? hi)).1, rfl⟩
open Go.RowKit Go.Eng Go.Nw
section
variable {m : Eng.Mode} {n : Shp} {B d : Nat} {w0 : World} {ops : Array Oper} {Q : Exit → Act → World → Prop} {rest : List Oper} {env : Env} {H : List HP} {ty : TypeId} {pos : String} {after : Array Edge} {x y : Operand}
theorem VK (a b : List UInt8) (hx : evo env x = some (strV a)) (hy : evo env y = some (strV b)) (hn : Nat.ble (d + 1) n.k = true) (hb : a.length + b.length ≤ 1000000) (h : VL Tryz.prog m n B w0 ops Q rest ((d, strV (a ++ b)) :: env) H) :
    VL Tryz.prog m n B w0 ops Q (⟨some d, .binOp .add 9 x y 9, ty, pos, after, none⟩ :: rest) env H := by
  have hs : ∀ l : List UInt8, (⟨l.toArray⟩ : ByteArray).size = l.length := fun l => by simp [ByteArray.size]
  refine YhV hx hy hn (by rw [hs, hs]; omega) ?_
  have e : (⟨a.toArray⟩ : ByteArray) ++ ⟨b.toArray⟩ = ⟨(a ++ b).toArray⟩ := by
    apply ByteArray.ext
    simp
  rw [e]
  exact h
theorem YgD {g : Nat} {cs : Array Value} {fr : Nat × Nat} (hx : evo env x = some (.pointer (some ⟨g, 0, none⟩))) (hm : blk g (.cells cs 132 fr) ∈ H) (hc : cs.size = 2) (hn : Nat.ble (d + 1) n.k = true)
    (h : VL Tryz.prog none n B w0 ops Q rest ((d, .pointer (some ⟨g, 0, none⟩)) :: env) H) : VL Tryz.prog none n B w0 ops Q (⟨some d, .convert 129 245 x, ty, pos, after, none⟩ :: rest) env H := by
  refine Jm (fun v K' => v = .pointer (some ⟨g, 0, none⟩) ∧ K' = H) rfl rfl hn (fun a w ha hw => ?_) (by rintro _ _ ⟨rfl, rfl⟩; exact h)
  have hb := (hw.blk hm).1
  obtain ⟨j, hj, hjs⟩ := Option.map_eq_some_iff.1 (show (Tryz.prog.info? 132).map (·.size) = some 2 by kernel_rfl)
  have hr := Lib.run_to_unsafe (P := Tryz.prog) w ⟨g, 0, none⟩ Tryz.underlying129 Tryz.underlying245 hj (by rw [hjs]; decide) (show w.shape? g = some (132, 2) by simp [World.shape?, hb, hc]) (Nat.zero_lt_succ 1)
  exact ⟨_, H, w, by simp [execOp, ha.eval hx, hr], hw, rfl, rfl⟩
theorem Ygy {g : Nat} {cs : Array Value} {fr : Nat × Nat} (hx : evo env x = some (.pointer (some ⟨g, 0, none⟩))) (hm : blk g (.cells cs 132 fr) ∈ H) (hc : cs.size = 2) (hn : Nat.ble (d + 1) n.k = true)
    (h : VL Tryz.prog none n B w0 ops Q rest ((d, .pointer (some ⟨g, 0, none⟩)) :: env) H) : VL Tryz.prog none n B w0 ops Q (⟨some d, .convert 245 129 x, ty, pos, after, none⟩ :: rest) env H := by
  refine Jm (fun v K' => v = .pointer (some ⟨g, 0, none⟩) ∧ K' = H) rfl rfl hn (fun a w ha hw => ?_) (by rintro _ _ ⟨rfl, rfl⟩; exact h)
  have hb := (hw.blk hm).1
  obtain ⟨j, hj, hjs⟩ := Option.map_eq_some_iff.1 (show (Tryz.prog.info? 132).map (·.size) = some 2 by kernel_rfl)
  have hr := Lib.run_from_unsafe (P := Tryz.prog) w ⟨g, 0, none⟩ Tryz.underlying245 Tryz.underlying129 hj (show w.shape? g = some (132, 2) by simp [World.shape?, hb, hc]) (by kernel_rfl)
  exact ⟨_, H, w, by simp [execOp, ha.eval hx, hr], hw, rfl, rfl⟩
theorem Ygw {v : Value} {tys : Array TypeId} (hx : evo env x = some v) (hn : Nat.ble (d + 1) n.k = true) (h : VL Tryz.prog none n B w0 ops Q rest ((d, v) :: env) H) :
    VL Tryz.prog none n B w0 ops Q (⟨some d, .call ⟨.value (.func 196), #[x], tys⟩, ty, pos, after, none⟩ :: rest) env H := by
  refine Jm (fun u K' => u = v ∧ K' = H) rfl rfl hn (fun a w ha hw => ⟨v, H, w, ?_, hw, rfl, rfl⟩) (by rintro _ _ ⟨rfl, rfl⟩; exact h)
  have hr := run_callFunc_extern (P := Tryz.prog) Tryz.func196 (by kernel_rfl) (by kernel_rfl) (by kernel_rfl) (e := Extern.AbiNoEscape.same) (by kernel_rfl) #[v] w
  have he : a.eval (.func 196) = .func (.func 196) #[] #[] := rfl
  simp [execOp, resolve, invoke, ha.eval hx, he, Deferred.ofValue, hr, Lib.run_noEscape, Result.andThen]
theorem YcE {g : Addr} (hx : evo env x = some (.pointer (some g))) (hy : evo env y = some (.pointer (some g))) (hn : Nat.ble (d + 1) n.k = true) (h : VL Tryz.prog m n B w0 ops Q rest ((d, .bool false) :: env) H) :
    VL Tryz.prog m n B w0 ops Q (⟨some d, .binOp .neq 129 x y 129, ty, pos, after, none⟩ :: rest) env H := by
  obtain ⟨j, hj, hjs⟩ := Option.map_eq_some_iff.1 (show (Tryz.prog.info? 132).map (·.size) = some 2 by kernel_rfl)
  exact Y0 hx hy hn (fun _ => rfl) (fun w => Lib.run_neq_ptr_same w g Tryz.underlying129 hj) h
end
set_option maxRecDepth 10000 in
theorem QC (b : Nat) (p v : Value) (hp : p = .pointer none ∨ p = .pointer (some ⟨b, 0, none⟩)) {B : Nat} {w0 : World} {H : List HP} {w : World} (hw : St B w0 (blk b (.cells #[p, v] 132 (0, 0)) :: H) w) :
    Calls Tryz.prog 136 [.pointer (some ⟨b, 0, none⟩)].toArray w (Post B w0 fun u K => u = .tuple #[] ∧ K = blk b (.cells #[.pointer (some ⟨b, 0, none⟩), v] 132 (0, 0)) :: H) := by
  refine Yc Tryz.func136 Tryz.ntmps136 rfl rfl hw ?_
  rcases hp with rfl | rfl
  · skip
    repeat' (first | (apply YcD; exact rfl; exact rfl; kernel_rfl) | (apply YgD; exact rfl; exact zm; exact rfl; exact rfl) | (apply Ygy; exact rfl; exact zm; exact rfl; exact rfl) | (apply Ygw; exact rfl; exact rfl) | (apply YcE; exact rfl; exact rfl; exact rfl) | apply (zs1 ?_) | apply (zs5 ?_) | (apply zg2; refine zs6 ?_) | (apply zg3; refine zs7 ?_) | (apply zg22; refine zs50 ?_) | apply (zs65 ?_) | apply (zs68 ?_) | apply (zs69 ?_) | apply (zs70 ?_) | (apply zg27; refine zs71 ?_) | fail)
    apply ZO; exact rfl; exact ⟨rfl, rfl⟩
  · skip
    repeat' (first | (apply YcD; exact rfl; exact rfl; kernel_rfl) | (apply YcE; exact rfl; exact rfl; exact rfl) | apply (zs1 ?_) | apply (zs5 ?_) | (apply zg2; refine zs6 ?_) | (apply zg3; refine zs7 ?_) | apply (zs65 ?_) | apply (zs68 ?_) | apply (zs69 ?_) | apply (zs70 ?_) | (apply zg27; refine zs72 ?_) | apply (zs76 ?_) | fail)
    apply ZO; exact rfl; exact ⟨rfl, rfl⟩
def bdP (b : Nat) (p : Value) (A : Option Addr) (cap : Nat) (l : List UInt8) (H : List HP) : List HP := blk b (.cells #[p, .slice A l.length cap] 132 (0, 0)) :: sl 5 1 A l.length cap (Lib.byteCells l) :: H
set_option maxRecDepth 10000 in
theorem Vx (b : Nat) (p : Value) (hp : p = .pointer none ∨ p = .pointer (some ⟨b, 0, none⟩)) (A : Option Addr) (cap : Nat) (l s : List UInt8) (hl : l.length + s.length ≤ 1000000) {B : Nat} {w0 : World} {H : List HP} {w : World} (hw : St B w0 (bdP b p A cap l H) w) :
    Calls Tryz.prog 76 [.pointer (some ⟨b, 0, none⟩), strV s].toArray w (Post B w0 fun u K => u = .tuple #[.int .i64 s.length, .nilIface] ∧ ∃ A' cap', K = bdP b (.pointer (some ⟨b, 0, none⟩)) A' cap' (l ++ s) H) := by
  have hs : (⟨s.toArray⟩ : ByteArray).size = s.length := by simp [ByteArray.size]
  refine Yc Tryz.func76 Tryz.ntmps76 rfl rfl hw ?_
  unfold bdP
  repeat' (first | apply (zs1 ?_) | apply (zs2 ?_) | apply (zs65 ?_) | apply (zs68 ?_) | apply (zs69 ?_) | apply (zs70 ?_) | fail)
  apply Yq _ YjJ
  exact za
  exact rfl
  exact fun _ hw => (QC b p _ hp (hw))
  rintro _ _ ⟨rfl, rfl⟩
  repeat' (first | (apply YbQ T (e := 5); exact rfl; exact rfl; exact rfl; kernel_rfl; exact rfl; exact rfl; (intro _ _; exact zd); (rw [hs]; omega); intro A' cap') | apply (zs1 ?_) | apply (zs2 ?_) | apply (zs5 ?_) | (apply zg2; refine zs6 ?_) | (apply zg3; refine zs7 ?_) | (apply zg4; refine zs14 ?_) | (apply zg22; refine zs50 ?_) | apply (zs65 ?_) | apply (zs68 ?_) | apply (zs69 ?_) | apply (zs70 ?_) | apply (zs74 ?_) | fail)
  have e1 : Lib.byteCells l ++ Lib.strCells ⟨s.toArray⟩ = Lib.byteCells (l ++ s) := by
    unfold Lib.byteCells Lib.strCells
    rw [List.map_append]
  have e2 : l.length + (⟨s.toArray⟩ : ByteArray).size = (l ++ s).length := by rw [hs, List.length_append]
  apply Yp; exact rfl; exact rfl; exact rfl
  refine ⟨by rw [hs], A', cap', ?_⟩
  rw [e1, e2]
theorem Yje {b : Nat} {p : Value} {A : Option Addr} {cap : Nat} {l : List UInt8} {B : Nat} {w0 w : World} {H : List HP} (hp : p = .pointer none ∨ p = .pointer (some ⟨b, 0, none⟩)) (hw : St B w0 (bdP b p A cap l H) w) : Lib.IsBuilder 132 5 B b (Lib.byteCells l) w := by
  obtain ⟨_, _, S1, S2, k1, k2, k3, ⟨k4, k5⟩, S3, S4, j1, j2, j3, ⟨⟨j4, j5⟩, j6⟩, j7⟩ := hw
  have hl : (Lib.byteCells l).length = l.length := by unfold Lib.byteCells; rw [List.length_map]
  have hat : Lib.BuilderAt 132 5 B b p (Lib.byteCells l) w := by
    refine ⟨(k1 b k4).1, .slice A l.length cap, k5, ⟨by rw [hl]; omega, ?_⟩, ?_⟩
    · rw [hl]
      rcases j5 with j5 | ⟨g, c, cur, e1, e2, e3⟩
      · exact .inl j5
      · refine .inr ⟨g, c, cur, e1, ?_, e3⟩
        injection e1 with e1
        exact (k2 g (j1 g (j6 _ e1))).1
    · intro e
      cases A with
      | none => cases e
      | some a =>
        simp only [Value.ownBlock, Option.some.injEq] at e
        have := j6 a rfl
        rw [e] at this
        exact k3 b k4 (j1 b this)
  rcases hp with rfl | rfl
  · exact .inl hat
  · exact .inr hat
theorem OM {b : Nat} {p : Value} {A : Option Addr} {cap : Nat} {l : List UInt8} {B : Nat} {w0 w : World} {H : List HP} (hp : p = .pointer none ∨ p = .pointer (some ⟨b, 0, none⟩)) (hw : St B w0 (bdP b p A cap l H) w) :
    Calls Tryz.prog 78 [.pointer (some ⟨b, 0, none⟩)].toArray w (Post B w0 fun v K => v = strV l ∧ K = []) := by
  refine (Tryz.Builder_String_any B b l w (Yje hp hw) hw.le).mono ?_
  rintro e w' ⟨rfl, hb⟩
  exact ⟨_, [], rfl, ⟨hw.below.trans hb, Nat.le_trans hw.le hb.size, trivial⟩, rfl, rfl⟩
theorem QV {n : Int} (h : 0 ≤ n ∧ n < 10000) : (Lib.itoa n).length ≤ 4 := by
  rw [JX h.1]; exact O8 (by omega)
theorem Wd {w : List UInt8} : ∀ {l : List Int}, (∀ n ∈ l, 0 ≤ n ∧ n < 10000) → (YO w l).length ≤ w.length + 5 * l.length
  | [], _ => by simp [YO]
  | n :: l, h => by
    have ih := Wd (w := w) (l := l) fun m hm => h m (List.mem_cons_of_mem _ hm)
    have h1 := QV (h n List.mem_cons_self)
    unfold YO at ih ⊢
    simp only [List.flatMap_cons, List.length_append, List.length_cons] at ih ⊢
    omega
theorem Ya4 (w : List UInt8) (l : List Int) (n : Int) : YO w (l ++ [n]) = YO w l ++ ([32] ++ Lib.itoa n) := by
  unfold YO; simp
set_option maxRecDepth 10000 in
theorem Ybz (word : List UInt8) (l : List Int) (h : ∀ n ∈ l, 0 ≤ n ∧ n < 10000) (h5 : l.length ≤ 100) (hwd : word.length ≤ 100) {A : Option Addr} {cap B : Nat} {w0 : World} {H : List HP} {w : World} (ht : TabsB B w0) (hr : Rd B w0 H A (l.flatMap numF)) (hw : St B w0 H w) :
    Calls Tryz.prog 104 [strV word, .slice A l.length cap].toArray w (Post B w0 fun v K => v = strV (XW word l) ∧ K = H) := by
  refine Yc Tryz.func104 Tryz.ntmps104 rfl rfl hw ?_
  repeat' (first | apply (zs1 ?_) | apply (zs2 ?_) | (apply zg4; refine zs9 ?_) | apply (zs65 ?_) | apply (zs68 ?_) | apply (zs69 ?_) | apply (zs70 ?_) | apply (zs73 ?_) | fail)
  refine Yj (fun (i : Nat) => [(9, .int .i64 i), (8, .int .i64 l.length), (7, .slice A l.length cap), (0, strV (YO word (l.take i)))]) (fun _ => H) (fun i => i ≤ l.length) (fun i => l.length - i) 0 (Nat.zero_le _) ?_ (fun w hw => hw) ?_
  · have e0 : YO word (l.take 0) = word := by simp [YO]
    rw [e0]
    exact zu
  intro i hi K hK
  have hbl := Wd (w := word) (l := l.take i) fun n hn => h n (List.mem_of_mem_take hn)
  have hlt0 : (l.take i).length ≤ 100 := by rw [List.length_take]; omega
  by_cases hlt : i < l.length
  · obtain ⟨n, hn⟩ : ∃ n, l[i]? = some n := ⟨_, List.getElem?_eq_getElem hlt⟩
    have hnb := h n (List.mem_of_getElem? hn)
    have hil := QV hnb
    repeat' (first | ((first | apply Ya Ybb | apply Yb Ybb); exact za; exact rfl; exact fun _ hw => (WT n (by omega) (by omega) ht hw)) | (apply VK [32] (Lib.itoa n); exact rfl; exact rfl; exact rfl; (show 1 + _ ≤ _; omega)) | (apply VK (YO word (l.take i)) ([32] ++ Lib.itoa n); exact rfl; exact rfl; exact rfl; (rw [List.length_append]; show _ + (1 + _) ≤ _; omega)) | apply (zs1 ?_) | apply (zs2 ?_) | (apply zg3; refine zs60 ?_) | (apply zg5; refine zs57 ?_) | (apply (zs17 ?_ ?_) <;> intro _ <;> try (exfalso; omega)) | (apply zg13; refine zs30 ?_) | apply (zs65 ?_) | apply (zs68 ?_) | apply (zs69 ?_) | apply (zs70 ?_) | (apply zg27; refine zs71 ?_) | apply (zs73 ?_) | apply (zs76 ?_) | apply (zs79 ?_) | fail)
    apply hK (i + 1)
    · show i + 1 ≤ l.length
      omega
    · omega
    · rw [List.take_add_one, hn, Option.toList_some, Ya4]
      exact zu
    · exact fun w hw => hw
  · skip
    repeat' (first | (apply VK (YO word (l.take i)) [10]; exact rfl; exact rfl; exact rfl; (show _ + 1 ≤ _; omega)) | apply (zs1 ?_) | apply (zs2 ?_) | (apply (zs17 ?_ ?_) <;> intro _ <;> try (exfalso; omega)) | apply (zs65 ?_) | apply (zs68 ?_) | apply (zs69 ?_) | apply (zs70 ?_) | (apply zg27; refine zs72 ?_) | apply (zs74 ?_) | apply (zs75 ?_) | apply (zs80 ?_) | apply (zs81 ?_) | fail)
    apply Yd; exact rfl; exact rfl
    rw [show i = l.length by omega, List.take_length]
    exact ⟨rfl, rfl⟩
def Zs (s : Sch) (i : Nat) : List UInt8 := XW wordS [s.len, s.off] ++ (s.cells.take i).flatMap fun c => XW wordC (nums c)
theorem OO {s : Sch} {i : Nat} (h : i < s.cells.length) : Zs s (i + 1) = Zs s i ++ XW wordC (nums (Yn s i)) := by
  unfold Zs
  rw [List.take_add_one, Yx h, Option.toList_some, List.flatMap_append, List.append_assoc]
  simp
theorem Zo {w : List UInt8} {l : List Int} (h : ∀ n ∈ l, 0 ≤ n ∧ n < 10000) : (XW w l).length ≤ w.length + 5 * l.length + 1 := by
  unfold XW
  have := Wd (w := w) h
  rw [List.length_append]
  show _ + 1 ≤ _
  omega
theorem Yas {s : Sch} (h : Frm s) : ∀ i, i ≤ s.cells.length → (Zs s i).length ≤ 100 + 40 * i
  | 0, _ => by
    have h1 := Zo (w := wordS) (WR h).1
    unfold Zs
    simp only [List.take_zero, List.flatMap_nil, List.append_nil]
    have : wordS.length = 8 := rfl
    simp only [List.length_cons, List.length_nil] at h1
    omega
  | i + 1, hi => by
    have ih := Yas h i (by omega)
    have h1 := Zo (w := wordC) ((WR h).2 _ (JO (s := s) (i := i) (by omega)))
    rw [OO (by omega), List.length_append]
    have : wordC.length = 4 := rfl
    have h2 : (nums (Yn s i)).length = 5 := rfl
    omega
set_option maxRecDepth 10000 in
set_option maxHeartbeats 1000000 in
theorem Yhk (s : SchM) {B : Nat} {w0 : World} {w : World} (ht : TabsB B w0) (hr : Rd B w0 [] s.A (s.cells.flatMap celF)) (hl : s.cells.length ≤ 1000000000000) (hw : St B w0 [] w) :
    Calls Tryz.prog 47 [s.val].toArray w (Post B w0 fun v _ => v = .tuple #[strV (Vs s.sch).1, .int .i64 (Vs s.sch).2]) := by
  refine Yc Tryz.func47 Tryz.ntmps47 rfl rfl hw ?_
  have e1 : s.sch.cells = s.cells := rfl
  cases hf : XF s.sch with
  | false =>
    repeat' (first | ((first | apply Ya en58 | apply Yb en58); exact za; exact rfl; exact fun _ hw => (Ya6 (congrArg Value.bool hf) (fun _ hw => Ybq s hr.cons hl hw) hw)) | apply (zs2 ?_) | (apply zg3; refine zs8 ?_) | (apply zg20; refine zs48 ?_) | (apply zg23; (refine zs52 ?_; intro _)) | apply (zs65 ?_) | apply (zs68 ?_) | apply (zs69 ?_) | apply (zs70 ?_) | (apply zg27; refine zs71 ?_) | apply (zs74 ?_) | apply (zs77 ?_) | fail)
    apply Yp; exact rfl; exact rfl; exact rfl
    rw [Vs, if_pos hf]
  | true =>
    have hfr := V3.1 hf
    have hle : s.cells.length ≤ 512 := hfr.few
    have hnm := WR hfr
    have hln1 := Zo (w := wordS) hnm.1
    repeat' (first | ((first | apply Ya en58 | apply Yb en58); exact za; exact rfl; exact fun _ hw => (Ya6 (congrArg Value.bool hf) (fun _ hw => Ybq s hr.cons hl hw) hw)) | apply (zs2 ?_) | (apply zg2; refine zs6 ?_) | (apply zg3; first | refine zs7 ?_ | refine zs8 ?_) | (apply zg20; refine zs47 ?_) | (apply zg23; (refine zs52 ?_; intro _)) | (apply zg24; (refine zs54 ?_; intro _)) | (apply zg26; (refine zs56 ?_; intro _)) | apply (zs65 ?_) | apply (zs68 ?_) | apply (zs69 ?_) | apply (zs70 ?_) | (apply zg27; refine zs72 ?_) | apply (zs76 ?_) | fail)
    rename_i gs gb gl
    have hrl : Rd B w0 [blk gl (.cells #[.int .i64 s.len, .int .i64 s.off] 3 (0, 0)), blk gb (.cells (Value.agg #[.pointer none, .slice none 0 0]).cells 132 (0, 0)), blk gs (.cells #[.int .i64 s.len, .int .i64 s.off, .slice s.A s.cells.length s.cap] 30 (0, 0))] (some ⟨gl, 0, none⟩) ([s.sch.len, s.sch.off].flatMap numF) := Rd.blk (cs := #[.int .i64 s.len, .int .i64 s.off]) (.head _)
    first | apply Ya YeQ | apply Yb YeQ
    exact za
    exact rfl
    exact fun _ hw => (Ybz wordS [s.sch.len, s.sch.off] hnm.1 (by show 2 ≤ 100; decide) (by decide) ht hrl hw)
    apply Ya1 (bdP gb (.pointer none) none 0 [] [blk gs (.cells #[.int .i64 s.len, .int .i64 s.off, .slice s.A s.cells.length s.cap] 30 (0, 0))])
    · unfold bdP
      intro w hw
      have h5 : St B w0 [blk gb (.cells (Value.agg #[.pointer none, .slice none 0 0]).cells 132 (0, 0)), blk gs (.cells #[.int .i64 s.len, .int .i64 s.off, .slice s.A s.cells.length s.cap] 30 (0, 0))] w := by
        revert w
        exact zk
      exact (h5.nilSlice _ _).perm (.swap _ _ _)
    apply Yq _ en76
    exact za
    exact rfl
    exact fun _ hw => (Vx gb _ (.inl rfl) none 0 [] (XW wordS [s.sch.len, s.sch.off]) (by simp only [List.length_nil]; have : wordS.length = 8 := rfl; simp only [List.length_cons, List.length_nil] at hln1; omega) (hw))
    rintro _ _ ⟨rfl, A1, cap1, rfl⟩
    unfold bdP
    repeat' (first | apply (zs1 ?_) | (apply zg2; refine zs6 ?_) | (apply zg3; refine zs7 ?_) | (apply zg4; refine zs9 ?_) | apply (zs65 ?_) | apply (zs68 ?_) | apply (zs69 ?_) | apply (zs70 ?_) | apply (zs73 ?_) | fail)
    refine Yj (fun (z : Nat × Option Addr × Nat) => [(21, .int .i64 z.1), (20, .int .i64 s.cells.length), (19, .slice s.A s.cells.length s.cap), (4, .pointer (some ⟨gb, 0, none⟩))]) (fun z => bdP gb (.pointer (some ⟨gb, 0, none⟩)) z.2.1 z.2.2 (Zs s.sch z.1) [blk gs (.cells #[.int .i64 s.len, .int .i64 s.off, .slice s.A s.cells.length s.cap] 30 (0, 0))]) (fun z => z.1 ≤ s.cells.length) (fun z => s.cells.length - z.1) (0, A1, cap1) (Nat.zero_le _) ?_ ?_ ?_
    · exact zu
    · have e0 : Zs s.sch 0 = [] ++ XW wordS [s.sch.len, s.sch.off] := by unfold Zs; simp
      rw [e0]
      unfold bdP
      exact fun w hw => hw
    rintro ⟨i, A2, cap2⟩ hi K hK
    dsimp only at hi ⊢
    have htl := Yas hfr i hi
    by_cases hlt : i < s.cells.length
    · have hget : s.cells[i]? = some (Yn s.sch i) := Yx (s := s.sch) hlt
      have hnc := hnm.2 _ (JO (s := s.sch) hlt)
      have hln := Zo (w := wordC) hnc
      have hr' : Rd B w0 (bdP gb (.pointer (some ⟨gb, 0, none⟩)) A2 cap2 (Zs s.sch i) [blk gs (.cells #[.int .i64 s.len, .int .i64 s.off, .slice s.A s.cells.length s.cap] 30 (0, 0))]) s.A (s.cells.flatMap celF) := hr.cons.cons.cons
      repeat' (first | ((first | apply Ya YgW | apply Yb YgW); exact za; exact rfl; exact fun _ hw => (Wr _ hw)) | (apply U3 T (e := 3); exact rfl; exact rfl; exact rfl) | (apply zg3; first | refine zs8 ?_ | refine zs61 ?_) | (apply zg5; refine zs57 ?_) | (apply (zs17 ?_ ?_) <;> intro _ <;> try (exfalso; omega)) | (apply zg22; refine zs51 ?_) | (apply zg24; (refine zs54 ?_; intro _)) | apply (zs65 ?_) | apply (zs68 ?_) | apply (zs69 ?_) | apply (zs70 ?_) | (apply zg27; refine zs71 ?_) | apply (zs73 ?_) | apply (zs76 ?_) | fail)
      rename_i gc ga
      have hra : ∀ X, Rd B w0 (blk ga (.cells (celF (Yn s.sch i)).toArray 183 (0, 0)) :: X) (some ⟨ga, 0, none⟩) ((nums (Yn s.sch i)).flatMap numF) := fun X => Rd.blk (cs := (celF (Yn s.sch i)).toArray) (.head _)
      first | apply Ya YeQ | apply Yb YeQ
      exact za
      exact rfl
      exact fun _ hw => (Ybz wordC (nums (Yn s.sch i)) hnc (by show 5 ≤ 100; decide) (by decide) ht (hra _) hw)
      apply Ya1 (bdP gb (.pointer (some ⟨gb, 0, none⟩)) A2 cap2 (Zs s.sch i) [blk gs (.cells #[.int .i64 s.len, .int .i64 s.off, .slice s.A s.cells.length s.cap] 30 (0, 0))])
      · exact fun w hw => hw.tail.tail
      have h5n : (nums (Yn s.sch i)).length = 5 := rfl
      have h4w : wordC.length = 4 := rfl
      apply Yq _ en76
      exact za
      exact rfl
      exact fun _ hw => (Vx gb _ (.inr rfl) A2 cap2 (Zs s.sch i) (XW wordC (nums (Yn s.sch i))) (by omega) (hw))
      rintro _ _ ⟨rfl, A3, cap3, rfl⟩
      rw [← OO hlt]
      repeat' (first | apply (zs1 ?_) | (apply zg13; refine zs30 ?_) | apply (zs65 ?_) | apply (zs68 ?_) | apply (zs70 ?_) | apply (zs79 ?_) | fail)
      apply hK (i + 1, A3, cap3)
      · show i + 1 ≤ s.cells.length
        omega
      · dsimp only; omega
      · exact zu
      · exact fun w hw => hw
    · repeat' (first | (apply (zs17 ?_ ?_) <;> intro _ <;> try (exfalso; omega)) | apply (zs65 ?_) | apply (zs68 ?_) | apply (zs69 ?_) | apply (zs70 ?_) | (apply zg27; refine zs72 ?_) | apply (zs75 ?_) | apply (zs80 ?_) | apply (zs81 ?_) | fail)
      apply Yq _ en78
      exact za
      exact rfl
      exact fun _ hw => (OM (l := Zs s.sch i) (.inr rfl) (hw))
      rintro _ _ ⟨rfl, rfl⟩
      repeat' (first | apply (zs2 ?_) | apply (zs65 ?_) | apply (zs68 ?_) | apply (zs74 ?_) | fail)
      apply Yp; exact rfl; exact rfl; exact rfl
      rw [Vs, if_neg (by simp [hf])]
      rw [show i = s.sch.cells.length from (by have : s.sch.cells.length = s.cells.length := rfl; omega), show Zs s.sch s.sch.cells.length = YhD s.sch from (by unfold Zs YhD; rw [List.take_length])]
theorem Yes (s : SchM) {B : Nat} {w0 : World} {H : List HP} {w : World} (ht : TabsB B w0) (hr : Rd B w0 H s.A (s.cells.flatMap celF)) (hl : s.cells.length ≤ 1000000000000) (hw : St B w0 H w) :
    Calls Tryz.prog 47 [s.val].toArray w (Post B w0 fun v K => v = .tuple #[strV (Vs s.sch).1, .int .i64 (Vs s.sch).2] ∧ K = H) :=
  Od hw (Yhk s (ht.here hw) (hr.here hw) hl (St.start w))
open Go.RowKit Go.Eng Go.Nw
set_option maxRecDepth 10000 in
theorem YcV (l : List Cel) (hlen : l.length ≤ 1000000) {A : Option Addr} {cap B : Nat} {w0 : World} {H : List HP} {w : World} (hr : Rd B w0 H A (l.flatMap celF)) (hw : St B w0 H w) :
    Calls Tryz.prog 64 [.slice A l.length cap].toArray w (Post B w0 fun v K => ∃ A' cap', v = .slice A' l.length cap' ∧ K = cels A' cap' l :: H) := by
  cases A with
  | none =>
    have hl : l = [] := by
      cases l with
      | nil => rfl
      | cons x l =>
        obtain ⟨g, o, e, _⟩ := hr w hw 0 _ rfl
        cases e
    subst hl
    refine Yc Tryz.func64 Tryz.ntmps64 rfl rfl hw ?_
    repeat' (first | (apply Ul; exact rfl; exact rfl; exact rfl) | apply (zs1 ?_) | apply (zs2 ?_) | apply (zs65 ?_) | apply (zs68 ?_) | apply (zs69 ?_) | apply (zs70 ?_) | (apply zg27; refine zs71 ?_) | apply (zs74 ?_) | apply (zs77 ?_) | fail)
    apply Ob 40 5; apply Yd; exact rfl; exact rfl; exact ⟨none, 0, rfl, rfl⟩
  | some a =>
    refine Yc Tryz.func64 Tryz.ntmps64 rfl rfl hw ?_
    repeat' (first | (apply Ul; exact rfl; exact rfl; exact rfl) | (apply YW T; exact rfl; exact rfl; intro g2) | apply (zs1 ?_) | apply (zs2 ?_) | apply (zs65 ?_) | apply (zs68 ?_) | apply (zs69 ?_) | apply (zs70 ?_) | (apply zg27; refine zs72 ?_) | apply (zs76 ?_) | fail)
    apply Jc T (f := celF) (l2 := l) (e := 40) (size := 5) (xs := []); exact rfl; exact rfl; exact rfl; exact hr.cons; exact (fun _ => rfl); exact (fun _ => rfl); exact rfl; (intro _ _; exact zd); omega; intro A' cap'
    repeat' (first | apply (zs2 ?_) | apply (zs65 ?_) | apply (zs68 ?_) | apply (zs74 ?_) | fail)
    rw [Nat.zero_add, List.nil_append]
    apply Yd; exact rfl; exact rfl; exact ⟨A', cap', rfl, rfl⟩
open Go.RowKit Go.Eng Go.Nw
theorem QQ {α : Type} (p : α → Bool) : ∀ (l : List α) (k : Int), (l.filter (fun a => !p a) = l ∧ Yr p l k = -1) ∨ ∃ j, j < l.length ∧ Yr p l k = k + j ∧ (l.take j).filter (fun a => !p a) = l.take j ∧ ∃ a, l[j]? = some a ∧ p a = true
  | [], _ => .inl ⟨rfl, rfl⟩
  | a :: l, k => by
    unfold Yr
    cases h : p a with
    | true => exact .inr ⟨0, by simp, by simp, rfl, a, rfl, h⟩
    | false =>
      rw [if_neg (by decide)]
      have hn : (!p a) = true := by rw [h]; rfl
      rcases QQ p l (k + 1) with ⟨h1, h2⟩ | ⟨j, h1, h2, h3, b, h4, h5⟩
      · exact .inl ⟨by rw [List.filter_cons, if_pos hn, h1], h2⟩
      · refine .inr ⟨j + 1, by simp only [List.length_cons]; omega, by rw [h2]; omega, ?_, b, h4, h5⟩
        rw [List.take_succ_cons, List.filter_cons, if_pos hn, h3]
theorem QS (p : Cel → Bool) (l : List Cel) (f : Nat) (cs : List Value) (hen : ∀ xs w, (callFunc f xs).run Tryz.prog w = .ok (.enter f xs) w) (hlen : l.length ≤ 1000) {A : Option Addr} {cap B : Nat} {w0 : World} {H : List HP} {w : World} (hr : Rd B w0 H A (l.flatMap celF))
    (hp : ∀ a ∈ l, ∀ w, St B w0 H w → Calls Tryz.prog f ([celV a] ++ cs).toArray w (Post B w0 fun v K => v = .bool (p a) ∧ K = H)) (hw : St B w0 H w) :
    Calls Tryz.prog 229 [.slice A l.length cap, .func (.func f) #[] cs.toArray].toArray w (Post B w0 fun v K => v = .int .i64 (Yr p l 0) ∧ K = H) := by
  refine Yc Tryz.func229 Tryz.ntmps229 rfl rfl hw ?_
  repeat' (first | apply (zs1 ?_) | apply (zs2 ?_) | (apply zg4; refine zs9 ?_) | apply (zs65 ?_) | apply (zs68 ?_) | apply (zs69 ?_) | apply (zs70 ?_) | apply (zs73 ?_) | fail)
  refine Yj (fun (k : Nat) => [(8, .int .i64 k), (7, .int .i64 l.length), (0, .slice A l.length cap), (1, .func (.func f) #[] cs.toArray)]) (fun _ => H) (fun k => k ≤ l.length ∧ Yr p l 0 = Yr p (l.drop k) k) (fun k => l.length - k) 0 ⟨Nat.zero_le _, by simp⟩ ?_ (fun w hw => hw) ?_
  · exact zu
  rintro k ⟨hk, hi⟩ K hK
  by_cases hlt : k < l.length
  · obtain ⟨a, ha⟩ : ∃ a, l[k]? = some a := ⟨_, List.getElem?_eq_getElem hlt⟩
    have hpa := hp a (List.mem_of_getElem? ha)
    rw [ZW p l ha] at hi
    repeat' (first | ((first | apply YU (cs := cs)); exact rfl; exact hen; exact za; exact rfl; exact fun _ hw => hpa _ hw) | apply (zs1 ?_) | apply (zs2 ?_) | (apply zg3; refine zs61 ?_) | (apply zg5; refine zs57 ?_) | (apply (zs17 ?_ ?_) <;> intro _ <;> try (exfalso; omega)) | apply (zs65 ?_) | apply (zs68 ?_) | apply (zs69 ?_) | apply (zs70 ?_) | (apply zg27; refine zs71 ?_) | apply (zs73 ?_) | apply (zs76 ?_) | fail)
    cases hpv : p a
    · rw [hpv] at hi
      repeat' (first | apply (zs1 ?_) | (apply zg13; refine zs30 ?_) | apply (zs65 ?_) | apply (zs68 ?_) | apply (zs70 ?_) | (apply zg27; refine zs72 ?_) | apply (zs76 ?_) | apply (zs79 ?_) | fail)
      apply hK (k + 1)
      · exact ⟨by omega, hi⟩
      · omega
      · exact zu
      · exact fun w hw => hw
    · rw [hpv] at hi
      repeat' (first | apply (zs1 ?_) | apply (zs2 ?_) | apply (zs65 ?_) | apply (zs68 ?_) | apply (zs69 ?_) | apply (zs70 ?_) | (apply zg27; refine zs71 ?_) | apply (zs74 ?_) | apply (zs77 ?_) | apply (zs78 ?_) | fail)
      apply Yd; exact rfl; exact rfl
      exact ⟨by rw [hi]; rfl, rfl⟩
  · repeat' (first | apply (zs2 ?_) | (apply (zs17 ?_ ?_) <;> intro _ <;> try (exfalso; omega)) | apply (zs65 ?_) | apply (zs68 ?_) | apply (zs69 ?_) | apply (zs70 ?_) | (apply zg27; refine zs72 ?_) | apply (zs74 ?_) | apply (zs75 ?_) | apply (zs80 ?_) | apply (zs81 ?_) | fail)
    apply Yd; exact rfl; exact rfl
    rw [hi, List.drop_eq_nil_of_le (by omega)]
    exact ⟨rfl, rfl⟩
structure Kc where
  i : Nat
  j : Nat
  M : List Cel
set_option maxRecDepth 10000 in
set_option maxHeartbeats 1000000 in
theorem Yc1 (p : Cel → Bool) (l : List Cel) (f : Nat) (cs : List Value) (hen : ∀ xs w, (callFunc f xs).run Tryz.prog w = .ok (.enter f xs) w) (hlen : l.length ≤ 1000) {A : Option Addr} {cap B : Nat} {w0 : World} {H : List HP} {w : World}
    (hp : ∀ a ∈ l, ∀ (X : List HP) w, St B w0 (X ++ H) w → Calls Tryz.prog f ([celV a] ++ cs).toArray w (Post B w0 fun v K => v = .bool (p a) ∧ K = X ++ H)) (hw : St B w0 (cels A cap l :: H) w) :
    Calls Tryz.prog 286 [.slice A l.length cap, .func (.func f) #[] cs.toArray].toArray w (Post B w0 fun v K => v = .slice A (l.filter fun a => !p a).length cap ∧ K = cels A cap (l.filter fun a => !p a) :: H) := by
  refine Yc Tryz.func286 Tryz.ntmps286 rfl rfl hw ?_
  refine YhJ (e := 40) (size := 5) (A := A) (xs := l.flatMap celF) (k := l.length) (cap := cap) List.mem_cons_self fun hcap => ?_
  have hif := fun {w : World} (hw : St B w0 (cels A cap l :: H) w) => QS p l f cs hen hlen (cap := cap) (.sl List.mem_cons_self) (fun a ha w hw => hp a ha [cels A cap l] w hw) hw
  rcases QQ p l 0 with ⟨h1, h2⟩ | ⟨i0, h1, h2, h3, a0, h4, h5⟩
  · rw [h2] at hif
    rw [h1]
    repeat' (first | ((first | apply Ya Ybh | apply Yb Ybh); exact za; exact rfl; exact fun _ hw => (hif hw)) | apply (zs1 ?_) | apply (zs2 ?_) | (apply zg7; (refine zs15 ?_ ?_ <;> intro _ <;> try (exfalso; omega))) | apply (zs65 ?_) | apply (zs68 ?_) | apply (zs69 ?_) | apply (zs70 ?_) | (apply zg27; refine zs71 ?_) | apply (zs74 ?_) | apply (zs77 ?_) | fail)
    apply Yd; exact rfl; exact rfl; exact ⟨rfl, rfl⟩
  rw [h2, Int.zero_add] at hif
  repeat' (first | ((first | apply Ya Ybh | apply Yb Ybh); exact za; exact rfl; exact fun _ hw => (hif hw)) | apply (zs1 ?_) | apply (zs2 ?_) | (apply zg7; (refine zs15 ?_ ?_ <;> intro _ <;> try (exfalso; omega))) | (apply zg13; refine zs30 ?_) | apply (zs65 ?_) | apply (zs68 ?_) | apply (zs69 ?_) | apply (zs70 ?_) | (apply zg27; refine zs72 ?_) | apply (zs73 ?_) | apply (zs76 ?_) | fail)
  refine Yj (fun (z : Kc) => [(6, .int .i64 z.j), (5, .int .i64 z.i), (0, .slice A z.M.length cap), (1, .func (.func f) #[] cs.toArray)]) (fun z => cels A cap z.M :: H) (fun z => z.M.length = l.length ∧ z.i < z.j ∧ z.j ≤ l.length ∧ z.M.take z.i = (l.take z.j).filter (fun a => !p a) ∧ z.M.drop z.j = l.drop z.j) (fun z => l.length - z.j) ⟨i0, i0 + 1, l⟩ ⟨rfl, by simp only; omega, by simp only; omega, ?_, rfl⟩ ?_ (fun w hw => hw) ?_
  · simp only
    rw [List.take_add_one, h4, List.filter_append, h3]
    simp [h5]
  · exact zu
  rintro ⟨i, j, M⟩ ⟨hM, hij, hj, ht, hd⟩ K hK
  simp only at hM hij hj ht hd ⊢
  unfold cels
  by_cases hlt : j < l.length
  · obtain ⟨a, ha⟩ : ∃ a, l[j]? = some a := ⟨_, List.getElem?_eq_getElem hlt⟩
    have hMa : M[j]? = some a := by
      have e1 : (M.drop j)[0]? = (l.drop j)[0]? := by rw [hd]
      rw [List.getElem?_drop, List.getElem?_drop, Nat.add_zero, ha] at e1
      exact e1
    have hpa := fun {X1 X2 : HP} {w : World} (hw : St B w0 (X1 :: X2 :: H) w) => hp a (List.mem_of_getElem? ha) [X1, X2] w hw
    have hft : (l.take (j + 1)).filter (fun a => !p a) = M.take i ++ (if p a = true then [] else [a]) := by
      rw [List.take_add_one, ha, List.filter_append, ht]
      cases hpv : p a <;> simp [hpv]
    obtain ⟨b, hb⟩ : ∃ b, p a = b := ⟨_, rfl⟩
    rw [hb] at hft hpa
    have hd1 : ∀ x : Cel, (M.set i x).drop (j + 1) = l.drop (j + 1) := fun x => by
      rw [List.drop_set_of_lt (by omega), ← List.drop_drop, ← List.drop_drop, hd]
    cases b with
    | true =>
      rw [if_pos rfl, List.append_nil] at hft
      repeat' (first | ((first | apply YU (cs := cs)); exact rfl; exact hen; exact za; exact rfl; exact fun _ hw => hpa hw) | apply (zs1 ?_) | apply (zs2 ?_) | (apply zg3; first | refine zs8 ?_ | refine zs61 ?_) | (apply zg4; refine zs9 ?_) | (apply zg5; refine zs10 ?_) | (apply (zs17 ?_ ?_) <;> intro _ <;> try (exfalso; omega)) | (apply zg13; refine zs30 ?_) | (apply zg20; refine zs47 ?_) | (apply zg22; refine zs51 ?_) | (apply zg24; (refine zs54 ?_; intro _)) | apply (zs65 ?_) | apply (zs68 ?_) | apply (zs69 ?_) | apply (zs70 ?_) | (apply zg27; first | refine zs71 ?_ | refine zs72 ?_) | apply (zs73 ?_) | apply (zs76 ?_) | apply (zs79 ?_) | fail)
      apply hK ⟨i, j + 1, M⟩
      · exact ⟨hM, by simp only; omega, by simp only; omega, hft.symm, by simp only; rw [← List.drop_drop, ← List.drop_drop, hd]⟩
      · simp only; omega
      · exact zu
      · exact fun w hw => hw.tail
    | false =>
      rw [if_neg (by decide)] at hft
      have hMl : (M.set i a).length = M.length := List.length_set
      repeat' (first | ((first | apply YU (cs := cs)); exact rfl; exact hen; exact za; exact rfl; exact fun _ hw => hpa hw) | (apply YaB T (f := celF) (l := M) (i := i) (a := a); exact rfl; exact rfl; exact rfl; exact zd; exact fun _ => rfl; exact rfl; exact rfl; exact rfl; omega) | apply (zs1 ?_) | apply (zs2 ?_) | (apply zg3; first | refine zs8 ?_ | refine zs61 ?_) | (apply zg4; refine zs9 ?_) | (apply zg5; refine zs10 ?_) | (apply (zs17 ?_ ?_) <;> intro _ <;> try (exfalso; omega)) | (apply zg13; refine zs30 ?_) | (apply zg20; refine zs48 ?_) | (apply zg22; refine zs51 ?_) | (apply zg24; (refine zs54 ?_; intro _)) | apply (zs65 ?_) | apply (zs68 ?_) | apply (zs69 ?_) | apply (zs70 ?_) | (apply zg27; refine zs71 ?_) | apply (zs73 ?_) | apply (zs76 ?_) | apply (zs79 ?_) | fail)
      apply hK ⟨i + 1, j + 1, M.set i a⟩
      · refine ⟨by simp only; omega, by simp only; omega, by simp only; omega, ?_, hd1 a⟩
        simp only
        rw [hft, List.take_add_one, List.getElem?_set_self (by omega), List.take_set_of_le (Nat.le_refl _)]
        rfl
      · simp only; omega
      · dsimp only
        rw [hMl]
        exact zu
      · unfold cels
        dsimp only
        rw [hMl]
        exact fun w hw => hw.tail
  · obtain rfl : j = l.length := by omega
    clear hK
    rw [List.take_length] at ht
    have hil : (l.filter fun a => !p a).length = i := by rw [← ht, List.length_take]; omega
    have hfl : (M.flatMap celF).take (i * 5) = (l.filter fun a => !p a).flatMap celF := by rw [← Uq (q := 5) (fun _ => rfl), ht]
    repeat' (first | (apply VN T (n' := M.length - i); exact rfl; exact rfl; exact rfl; exact rfl; omega; omega) | apply (zs1 ?_) | (apply zg4; refine zs9 ?_) | (apply (zs17 ?_ ?_) <;> intro _ <;> try (exfalso; omega)) | apply (zs65 ?_) | apply (zs68 ?_) | apply (zs69 ?_) | apply (zs70 ?_) | (apply zg27; refine zs72 ?_) | apply (zs75 ?_) | apply (zs80 ?_) | apply (zs81 ?_) | fail)
    rw [Int.toNat_natCast]
    apply Ya1 (sl 40 5 A i cap ((l.filter fun a => !p a).flatMap celF) :: H)
    · intro w hw
      refine hw.shrink (e := 40) (size := 5) (cap := cap) (A := A) (xs := M.flatMap celF) (k := M.length) (k' := i) (by omega) ?_
      rw [hfl]
      exact Upd.here _
    apply Ygs T T2 (e := 40) (size := 5) (k := i) (xs := (l.filter fun a => !p a).flatMap celF); exact rfl; exact List.mem_cons_self; exact rfl; exact rfl; exact rfl; omega
    repeat' (first | (apply Zg T (l := M) (n' := i); exact rfl; exact rfl; exact rfl; exact rfl; omega; omega; omega) | apply (zs1 ?_) | apply (zs2 ?_) | apply (zs65 ?_) | apply (zs68 ?_) | apply (zs69 ?_) | apply (zs70 ?_) | apply (zs74 ?_) | fail)
    rw [Yaq]
    repeat' (first | fail)
    apply Yd; exact rfl; exact rfl
    exact ⟨by rw [hil], by rw [hil]⟩
open Go.RowKit Go.Eng Go.Nw
section
variable {m : Eng.Mode} {n : Shp} {B d : Nat} {w0 : World} {ops : Array Oper} {Q : Exit → Act → World → Prop} {rest : List Oper} {env : Env} {H : List HP} {ty : TypeId} {pos : String} {after : Array Edge} {x y : Operand}
theorem YdO {a b : List UInt8} : (⟨a.toArray⟩ : ByteArray) = ⟨b.toArray⟩ ↔ a = b := by
  constructor
  · intro h
    have h1 := congrArg (fun s : ByteArray => s.data.toList) h
    simpa using h1
  · rintro rfl; rfl
theorem YbX (a b : List UInt8) (hx : evo env x = some (strV a)) (hy : evo env y = some (strV b)) (hn : Nat.ble (d + 1) n.k = true) (h1 : a ≠ b → VL Tryz.prog m n B w0 ops Q rest ((d, .bool true) :: env) H) (h2 : a = b → VL Tryz.prog m n B w0 ops Q rest ((d, .bool false) :: env) H) :
    VL Tryz.prog m n B w0 ops Q (⟨some d, .binOp .neq 9 x y 9, ty, pos, after, none⟩ :: rest) env H :=
  YhY hx hy hn (fun h => h1 fun e => h (YdO.2 e)) (fun h => h2 (YdO.1 h))
theorem YhN (hx : evo env x = some .nilIface) (hn : Nat.ble (d + 1) n.k = true) (h : VL Tryz.prog m n B w0 ops Q rest ((d, .bool false) :: env) H) :
    VL Tryz.prog m n B w0 ops Q (⟨some d, .binOp .neq 134 x (.const .nilIface) 134, ty, pos, after, none⟩ :: rest) env H :=
  Y0 (y := .const .nilIface) hx rfl hn (fun w => by simp [eqGuard]) (fun w => run_neq_nil_nil (P := Tryz.prog) (w := w) 134 (by kernel_rfl)) h
theorem YhO {t : TypeId} {p : Value} (hx : evo env x = some (.iface t p)) (hn : Nat.ble (d + 1) n.k = true) (h : VL Tryz.prog m n B w0 ops Q rest ((d, .bool true) :: env) H) :
    VL Tryz.prog m n B w0 ops Q (⟨some d, .binOp .neq 134 x (.const .nilIface) 134, ty, pos, after, none⟩ :: rest) env H :=
  Y0 (y := .const .nilIface) hx rfl hn (fun w => by simp [eqGuard]) (fun w => run_neq_held_nil (P := Tryz.prog) (w := w) 134 t p (by kernel_rfl)) h
end
abbrev nrs (A : Option Addr) (cap : Nat) (l : List Int) : HP := sl 3 1 A l.length cap (l.flatMap numF)
theorem X3 (A : Option Addr) (cap : Nat) (l : List Int) (z : Int) : sl 3 1 A (l.length + 1) cap (l.flatMap numF ++ #[Value.int .i64 z].toList) = nrs A cap (l ++ [z]) := by simp [nrs, List.flatMap_append, numF]
theorem YbK (ps : List (List UInt8)) : (ps.map strV) = ps.flatMap strL := by induction ps with | nil => rfl | cons a l ih => simp [strL, List.flatMap_cons, ih]
theorem YfK {ws : List (List UInt8)} (h : ∀ w ∈ ws, 0 ≤ numW w) : J1 ws = some (ws.map numW) := by
  unfold J1
  rw [if_neg]
  rw [Bool.not_eq_true, List.any_eq_false]
  intro w hw
  have := h w hw
  simp; omega
theorem YfJ {ws : List (List UInt8)} {w : List UInt8} (hw : w ∈ ws) (h : numW w < 0) : J1 ws = none := by
  unfold J1
  rw [if_pos]
  rw [List.any_eq_true]
  exact ⟨w, hw, by simpa using h⟩
theorem Yb6 {c : UInt8} : ∀ {l : List UInt8}, ∀ p ∈ cutC c l, p.length ≤ l.length
  | [], p, hp => by
    simp only [cutC, List.mem_singleton] at hp
    subst hp; simp
  | x :: l, p, hp => by
    have ih := Yb6 (c := c) (l := l)
    unfold cutC at hp
    split at hp
    · rcases List.mem_cons.1 hp with rfl | hp
      · simp
      · have := ih p hp; simp only [List.length_cons]; omega
    · cases hc : cutC c l with
      | nil => rw [hc] at hp; simp at hp; subst hp; simp
      | cons q qs =>
        rw [hc] at hp ih
        simp only [List.mem_cons] at hp ih
        rcases hp with rfl | hp
        · have := ih q (.inl rfl); simp only [List.length_cons]; omega
        · have := ih p (.inr hp); simp only [List.length_cons]; omega
def OutR (H : List HP) (r : Option (List Int)) (v : Value) (K : List HP) : Prop :=
  match r with
  | none => v = .tuple #[.slice none 0 0, .bool false] ∧ K = H
  | some x => ∃ A cap, v = .tuple #[.slice A x.length cap, .bool true] ∧ K = nrs A cap x :: H
end Go.Proofs.YtmalhidldgfeoaaGreatDoor
namespace Go.Eng
open Go.RowKit
end Go.Eng
namespace Go.Proofs.YtmalhidldgfeoaaGreatDoor
open Go.RowKit Go.Eng Go.Nw
theorem YV {f : Nat → Int} : ∀ {r i0 i : Nat}, (∀ k, i0 ≤ k → k < i → f k = 0) → i0 ≤ i → i < i0 + r → f i ≠ 0 → Yz f r i0 = ((i : Int), f i)
  | 0, i0, i, _, h1, h2, _ => by omega
  | r + 1, i0, i, h0, h1, h2, h3 => by
    unfold Yz
    by_cases e : i0 = i
    · subst e; rw [if_neg h3]
    · rw [if_pos (h0 i0 (Nat.le_refl _) (by omega))]
      exact YV (fun k hk1 hk2 => h0 k (by omega) hk2) (by omega) (by omega) h3
theorem Y9 {f : Nat → Int} {r i0 : Nat} (h : ∀ k, i0 ≤ k → k < i0 + r → f k = 0) : Yz f r i0 = (-1, 0) := by
  have h2 := Y2.2 h
  exact Prod.ext (UP h2) h2
theorem WK {c : UInt8} : ∀ l : List UInt8, (cutC c l).length ≤ l.length + 1
  | [] => by simp [cutC]
  | x :: l => by
    have ih := WK (c := c) l
    unfold cutC
    split
    · simp only [List.length_cons]; omega
    · split
      · simp
      · rename_i h t he
        rw [he] at ih
        simp only [List.length_cons] at ih ⊢
        omega
open Go.RowKit Go.Eng Go.Nw
def flwV (f : Flw) : Value := .agg #[.int .i64 f.1, .int .i64 f.2.1, .int .i64 f.2.2.1, .int .i64 f.2.2.2.1, .int .i64 f.2.2.2.2.1, .int .i64 f.2.2.2.2.2]
theorem ZA {l : List Flw} {i : Nat} (h : i < l.length) : l[i]? = some (Xf l i) := by
  unfold Xf; rw [List.getD_eq_getElem?_getD, List.getElem?_eq_getElem h]; rfl
theorem Yel (v nodes : Int) (gn : Nat) {B : Nat} {w0 : World} {H : List HP} {w : World} (hm : blk gn (.cells #[.int .i64 nodes] 3 (0, 0)) ∈ H) (hw : St B w0 H w) :
    Calls Tryz.prog 167 [.int .i64 v, .pointer (some ⟨gn, 0, none⟩)].toArray w (Post B w0 fun u K => u = .bool (insE v nodes) ∧ K = H) := by
  refine Yc Tryz.func167 Tryz.ntmps167 rfl rfl hw ?_
  repeat' (first | apply (zs1 ?_) | apply (zs2 ?_) | (apply zg1; first | refine zs3 ?_ | refine zs4 ?_) | (apply zg3; refine zs7 ?_) | (apply zg6; first | refine zs11 ?_ | refine zs12 ?_) | (apply (zs17 ?_ ?_) <;> intro _ <;> try (exfalso; omega)) | (apply (zs20 ?_ ?_) <;> intro _ <;> try (exfalso; omega)) | apply (zs65 ?_) | apply (zs68 ?_) | apply (zs69 ?_) | apply (zs70 ?_) | apply (zs74 ?_) | fail)
  all_goals (
    apply Yd; exact rfl; exact rfl
    first
      | exact ⟨by rw [show insE v nodes = true from decide_eq_true (by omega)], rfl⟩
      | exact ⟨by rw [show insE v nodes = false from decide_eq_false (by omega)], rfl⟩)
set_option maxRecDepth 10000 in
set_option maxHeartbeats 1000000 in
theorem Ow (nodes : Int) (f : Flw) {B : Nat} {w0 : World} {H : List HP} {w : World} (hw : St B w0 H w) :
    Calls Tryz.prog 110 [.int .i64 nodes, flwV f].toArray w (Post B w0 fun v K => v = .int .i64 (Xp nodes f) ∧ K = H) := by
  refine Yc Tryz.func110 Tryz.ntmps110 rfl rfl hw ?_
  obtain ⟨e, he⟩ : ∃ e, Xp nodes f = e := ⟨_, rfl⟩
  rw [he]
  by_cases hA : f.1 < 0 ∨ 255 < f.1
  · repeat' (first | apply (zs1 ?_) | apply (zs2 ?_) | (apply zg1; first | refine zs3 ?_ | refine zs4 ?_) | (apply zg2; refine zs6 ?_) | (apply zg3; refine zs7 ?_) | (apply zg6; first | refine zs11 ?_ | refine zs12 ?_) | (apply (zs17 ?_ ?_) <;> intro _ <;> try (exfalso; omega)) | (apply (zs19 ?_ ?_) <;> intro _ <;> try (exfalso; omega)) | (apply zg23; first | (refine zs52 ?_; intro _) | (refine zs53 ?_; intro _)) | apply (zs65 ?_) | apply (zs68 ?_) | apply (zs69 ?_) | apply (zs70 ?_) | (apply zg27; refine zs71 ?_) | apply (zs73 ?_) | apply (zs74 ?_) | apply (zs77 ?_) | apply (zs78 ?_) | (apply zg29; (apply Ys; exact za ; exact rfl)) | fail)
    all_goals (
      apply Yi H
      · exact zk
      apply Yd; exact rfl; exact rfl
      refine ⟨?_, rfl⟩
      rw [← he]
      unfold Xp
      first
        | (rw [if_pos (by first | exact .inl (by omega) | exact .inr (.inl (by omega)) | exact .inr (.inr (.inl (by assumption))) | exact .inr (.inr (.inr (by assumption))))]; done)
        | (rw [if_neg (by rintro (h | h | h | h) <;> first | omega | simp_all)]
           first
             | (rw [if_pos (by omega)]; done)
             | (rw [if_neg (by omega), if_pos (by omega)]; done)
             | (rw [if_neg (by omega), if_neg (by omega)]; done)))
  · repeat' (first | apply (zs1 ?_) | apply (zs2 ?_) | (apply zg1; refine zs4 ?_) | (apply zg2; refine zs6 ?_) | (apply zg3; refine zs7 ?_) | (apply zg6; refine zs12 ?_) | (apply (zs17 ?_ ?_) <;> intro _ <;> try (exfalso; omega)) | (apply (zs19 ?_ ?_) <;> intro _ <;> try (exfalso; omega)) | (apply zg23; first | (refine zs52 ?_; intro _) | (refine zs53 ?_; intro _)) | apply (zs65 ?_) | apply (zs68 ?_) | apply (zs69 ?_) | apply (zs70 ?_) | apply (zs73 ?_) | (apply zg29; (apply Ys; exact za ; exact rfl)) | fail)
    rename_i gn gf _ _
    repeat' (first | ((first | apply Jl (cs := [.pointer (some ⟨gn, 0, none⟩)]) | apply Jk (cs := [.pointer (some ⟨gn, 0, none⟩)])); exact rfl; exact YjP; exact za; exact rfl; exact fun _ hw => (Yel _ nodes gn zm hw); all_goals (intro hB; (try simp only [decide_eq_true_eq, decide_eq_false_iff_not] at hB); try (exfalso; omega))) | apply (zs1 ?_) | apply (zs2 ?_) | (apply zg1; first | refine zs3 ?_ | refine zs4 ?_) | (apply zg2; refine zs6 ?_) | (apply zg3; refine zs7 ?_) | (apply zg6; first | refine zs11 ?_ | refine zs12 ?_) | (apply zg7; (refine zs15 ?_ ?_ <;> intro _ <;> try (exfalso; omega))) | (apply (zs17 ?_ ?_) <;> intro _ <;> try (exfalso; omega)) | (apply (zs19 ?_ ?_) <;> intro _ <;> try (exfalso; omega)) | (apply (zs20 ?_ ?_) <;> intro _ <;> try (exfalso; omega)) | (apply zg20; first | refine zs47 ?_ | refine zs48 ?_) | apply (zs65 ?_) | apply (zs68 ?_) | apply (zs69 ?_) | apply (zs70 ?_) | (apply zg27; first | refine zs71 ?_ | refine zs72 ?_) | apply (zs74 ?_) | apply (zs76 ?_) | apply (zs77 ?_) | apply (zs78 ?_) | apply (zs79 ?_) | fail)
    all_goals (
      apply Yi H
      · exact zk
      apply Yd; exact rfl; exact rfl
      refine ⟨?_, rfl⟩
      rw [← he]
      unfold Xp
      first
        | (rw [if_pos (by first | exact .inl (by omega) | exact .inr (.inl (by omega)) | exact .inr (.inr (.inl (by assumption))) | exact .inr (.inr (.inr (by assumption))))]; done)
        | (rw [if_neg (by rintro (h | h | h | h) <;> first | omega | simp_all)]
           first
             | (rw [if_pos (by omega)]; done)
             | (rw [if_neg (by omega), if_pos (by omega)]; done)
             | (rw [if_neg (by omega), if_neg (by omega)]; done)))
set_option maxRecDepth 10000 in
set_option maxHeartbeats 1000000 in
theorem Y4 (nodes : Int) (l : List Flw) (hl : l.length ≤ 9223372036854775807) {A : Option Addr} {cap B : Nat} {w0 : World} {H : List HP} {w : World} (hr : Rd B w0 H A (l.flatMap flwF)) (hw : St B w0 H w) :
    Calls Tryz.prog 51 [.int .i64 nodes, .slice A l.length cap].toArray w (Post B w0 fun v K => v = .tuple #[.int .i64 (YN nodes l).1, .int .i64 (YN nodes l).2] ∧ K = H) := by
  refine Yc Tryz.func51 Tryz.ntmps51 rfl rfl hw ?_
  by_cases hn : nodes < 2 ∨ 32 < nodes
  · have hE : YN nodes l = (-1, 2) := by unfold YN; exact if_pos hn
    rw [hE]
    repeat' (first | apply (zs1 ?_) | apply (zs2 ?_) | (apply zg1; first | refine zs3 ?_ | refine zs4 ?_) | (apply zg6; first | refine zs11 ?_ | refine zs12 ?_) | (apply (zs17 ?_ ?_) <;> intro _ <;> try (exfalso; omega)) | (apply (zs19 ?_ ?_) <;> intro _ <;> try (exfalso; omega)) | apply (zs65 ?_) | apply (zs68 ?_) | apply (zs69 ?_) | apply (zs70 ?_) | (apply zg27; refine zs71 ?_) | apply (zs74 ?_) | apply (zs77 ?_) | fail)
    all_goals (apply Yp; exact rfl; exact rfl; exact rfl; exact ⟨rfl, rfl⟩)
  by_cases h16 : 16 < l.length
  · have hE : YN nodes l = (-1, 8) := by unfold YN; exact (if_neg hn).trans (if_pos h16)
    rw [hE]
    repeat' (first | apply (zs1 ?_) | apply (zs2 ?_) | (apply zg1; refine zs4 ?_) | (apply zg4; refine zs9 ?_) | (apply zg6; refine zs12 ?_) | (apply (zs17 ?_ ?_) <;> intro _ <;> try (exfalso; omega)) | (apply (zs19 ?_ ?_) <;> intro _ <;> try (exfalso; omega)) | apply (zs65 ?_) | apply (zs68 ?_) | apply (zs69 ?_) | apply (zs70 ?_) | (apply zg27; first | refine zs71 ?_ | refine zs72 ?_) | apply (zs74 ?_) | apply (zs76 ?_) | apply (zs77 ?_) | fail)
    apply Yp; exact rfl; exact rfl; exact rfl; exact ⟨rfl, rfl⟩
  have hE : YN nodes l = Yz (YE nodes l) l.length 0 := by unfold YN; exact (if_neg hn).trans (if_neg h16)
  rw [hE]
  repeat' (first | apply (zs1 ?_) | apply (zs2 ?_) | (apply zg1; refine zs4 ?_) | (apply zg4; refine zs9 ?_) | (apply zg6; refine zs12 ?_) | (apply (zs17 ?_ ?_) <;> intro _ <;> try (exfalso; omega)) | (apply (zs19 ?_ ?_) <;> intro _ <;> try (exfalso; omega)) | apply (zs65 ?_) | apply (zs68 ?_) | apply (zs69 ?_) | apply (zs70 ?_) | (apply zg27; refine zs72 ?_) | apply (zs73 ?_) | apply (zs76 ?_) | fail)
  refine Yj (fun (i : Nat) => [(20, .int .i64 i), (19, .int .i64 l.length), (18, .slice A l.length cap), (0, .int .i64 nodes), (1, .slice A l.length cap)]) (fun _ => H) (fun i => i ≤ l.length ∧ ∀ k, k < i → YE nodes l k = 0) (fun i => l.length - i) 0 ⟨Nat.zero_le _, fun k hk => absurd hk (Nat.not_lt_zero _)⟩ ?_ (fun w hw => hw) ?_
  · exact zu
  rintro i ⟨hi, hall⟩ K hK
  by_cases hlt : i < l.length
  · have hget : l[i]? = some (Xf l i) := ZA hlt
    have hbad : YE nodes l i ≠ 0 → Yz (YE nodes l) l.length 0 = ((i : Int), YE nodes l i) := fun h => YV (fun k _ hk => hall k hk) (Nat.zero_le _) (by omega) h
    have hstep : YE nodes l i = 0 → ∀ k, k < i + 1 → YE nodes l k = 0 := fun h k hk => by
      by_cases e : k = i
      · rw [e]; exact h
      · exact hall k (by omega)
    by_cases he : Xp nodes (Xf l i) ≠ 0
    · have hf : YE nodes l i = Xp nodes (Xf l i) := by unfold YE; exact if_pos he
      rw [hbad (by rw [hf]; exact he), hf]
      repeat' (first | ((first | apply Ya Oh | apply Yb Oh); exact za; exact rfl; exact fun _ hw => (Ow nodes (Xf l i) hw)) | apply (zs1 ?_) | apply (zs2 ?_) | (apply zg3; first | refine zs8 ?_ | refine zs61 ?_) | (apply zg5; refine zs57 ?_) | (apply zg8; (refine zs16 ?_ ?_ <;> intro _ <;> try (exfalso; omega))) | (apply (zs17 ?_ ?_) <;> intro _ <;> try (exfalso; omega)) | (apply zg22; refine zs51 ?_) | (apply zg24; (refine zs54 ?_; intro _)) | apply (zs65 ?_) | apply (zs68 ?_) | apply (zs69 ?_) | apply (zs70 ?_) | (apply zg27; refine zs71 ?_) | apply (zs73 ?_) | apply (zs74 ?_) | apply (zs76 ?_) | apply (zs77 ?_) | apply (zs78 ?_) | fail)
      apply Yi H
      · exact zk
      apply Yp; exact rfl; exact rfl; exact rfl; exact ⟨rfl, rfl⟩
    have he0 := Decidable.not_not.1 he
    have hck := fun {H' : List HP} {w : World} (hw : St B w0 H' w) => Ow nodes (Xf l i) hw
    rw [he0] at hck
    rcases Nat.eq_zero_or_pos i with h0 | h0
    · subst h0
      have hf : YE nodes l 0 = 0 := by unfold YE; rw [if_neg he, if_neg (by omega)]
      repeat' (first | ((first | apply Ya Oh | apply Yb Oh); exact za; exact rfl; exact fun _ hw => (hck hw)) | apply (zs1 ?_) | apply (zs2 ?_) | (apply zg1; refine zs3 ?_) | (apply zg3; first | refine zs8 ?_ | refine zs61 ?_) | (apply zg5; refine zs57 ?_) | (apply zg6; refine zs12 ?_) | (apply zg8; (refine zs16 ?_ ?_ <;> intro _ <;> try (exfalso; omega))) | (apply (zs17 ?_ ?_) <;> intro _ <;> try (exfalso; omega)) | (apply (zs19 ?_ ?_) <;> intro _ <;> try (exfalso; omega)) | (apply zg13; refine zs30 ?_) | (apply zg22; refine zs51 ?_) | (apply zg24; (refine zs54 ?_; intro _)) | apply (zs65 ?_) | apply (zs66 ?_) | apply (zs68 ?_) | apply (zs69 ?_) | apply (zs70 ?_) | (apply zg27; first | refine zs71 ?_ | refine zs72 ?_) | apply (zs73 ?_) | apply (zs76 ?_) | apply (zs79 ?_) | (apply zg28; refine zs83 ?_) | fail)
      apply hK (0 + 1)
      · exact ⟨by omega, hstep hf⟩
      · omega
      · exact zu
      · exact zk
    have hget2 : l[((i : Int) - 1).toNat]? = some (Xf l (i - 1)) := by
      rw [show ((i : Int) - 1).toNat = i - 1 by omega]
      exact ZA (by omega)
    by_cases hle : (Xf l i).1 ≤ (Xf l (i - 1)).1
    · have hf : YE nodes l i = 5 := by unfold YE; rw [if_neg he, if_pos ⟨h0, hle⟩]
      rw [hbad (by rw [hf]; decide), hf]
      repeat' (first | ((first | apply Ya Oh | apply Yb Oh); exact za; exact rfl; exact fun _ hw => (hck hw)) | apply (zs1 ?_) | apply (zs2 ?_) | (apply zg1; refine zs4 ?_) | (apply zg2; first | refine zs6 ?_ | refine zs58 ?_) | (apply zg3; first | refine zs7 ?_ | refine zs8 ?_ | refine zs59 ?_ | refine zs61 ?_) | (apply zg5; refine zs57 ?_) | (apply zg6; refine zs11 ?_) | (apply zg8; (refine zs16 ?_ ?_ <;> intro _ <;> try (exfalso; omega))) | (apply (zs17 ?_ ?_) <;> intro _ <;> try (exfalso; omega)) | (apply (zs18 ?_ ?_) <;> intro _ <;> try (exfalso; omega)) | (apply (zs19 ?_ ?_) <;> intro _ <;> try (exfalso; omega)) | (apply zg14; refine zs31 ?_) | (apply zg22; refine zs51 ?_) | (apply zg24; (refine zs54 ?_; intro _)) | apply (zs65 ?_) | apply (zs66 ?_) | apply (zs68 ?_) | apply (zs69 ?_) | apply (zs70 ?_) | (apply zg27; first | refine zs71 ?_ | refine zs72 ?_) | apply (zs73 ?_) | apply (zs74 ?_) | apply (zs76 ?_) | apply (zs77 ?_) | apply (zs78 ?_) | (apply zg28; refine zs83 ?_) | fail)
      apply Yi H
      · exact zk
      apply Yp; exact rfl; exact rfl; exact rfl; exact ⟨rfl, rfl⟩
    · have hf : YE nodes l i = 0 := by unfold YE; rw [if_neg he, if_neg (fun h => hle h.2)]
      repeat' (first | ((first | apply Ya Oh | apply Yb Oh); exact za; exact rfl; exact fun _ hw => (hck hw)) | apply (zs1 ?_) | apply (zs2 ?_) | (apply zg1; refine zs4 ?_) | (apply zg2; first | refine zs6 ?_ | refine zs58 ?_) | (apply zg3; first | refine zs7 ?_ | refine zs8 ?_ | refine zs59 ?_ | refine zs61 ?_) | (apply zg5; refine zs57 ?_) | (apply zg6; refine zs11 ?_) | (apply zg8; (refine zs16 ?_ ?_ <;> intro _ <;> try (exfalso; omega))) | (apply (zs17 ?_ ?_) <;> intro _ <;> try (exfalso; omega)) | (apply (zs18 ?_ ?_) <;> intro _ <;> try (exfalso; omega)) | (apply (zs19 ?_ ?_) <;> intro _ <;> try (exfalso; omega)) | (apply zg13; refine zs30 ?_) | (apply zg14; refine zs31 ?_) | (apply zg22; refine zs51 ?_) | (apply zg24; (refine zs54 ?_; intro _)) | apply (zs65 ?_) | apply (zs66 ?_) | apply (zs68 ?_) | apply (zs69 ?_) | apply (zs70 ?_) | (apply zg27; first | refine zs71 ?_ | refine zs72 ?_) | apply (zs73 ?_) | apply (zs76 ?_) | apply (zs79 ?_) | (apply zg28; refine zs83 ?_) | fail)
      apply hK (i + 1)
      · exact ⟨by omega, hstep hf⟩
      · omega
      · exact zu
      · exact zk
  · repeat' (first | apply (zs2 ?_) | (apply (zs17 ?_ ?_) <;> intro _ <;> try (exfalso; omega)) | apply (zs65 ?_) | apply (zs68 ?_) | apply (zs69 ?_) | apply (zs70 ?_) | (apply zg27; refine zs72 ?_) | apply (zs74 ?_) | apply (zs75 ?_) | apply (zs80 ?_) | apply (zs81 ?_) | fail)
    rw [show i = l.length by omega] at hall
    rw [Y9 fun k _ hk => hall k (by omega)]
    apply Yp; exact rfl; exact rfl; exact rfl; exact ⟨rfl, rfl⟩
theorem QT (p : Flw → Bool) (l : List Flw) (f : Nat) (cs : List Value) (hen : ∀ xs w, (callFunc f xs).run Tryz.prog w = .ok (.enter f xs) w) (hlen : l.length ≤ 1000) {A : Option Addr} {cap B : Nat} {w0 : World} {H : List HP} {w : World} (hr : Rd B w0 H A (l.flatMap flwF))
    (hp : ∀ a ∈ l, ∀ w, St B w0 H w → Calls Tryz.prog f ([flwV a] ++ cs).toArray w (Post B w0 fun v K => v = .bool (p a) ∧ K = H)) (hw : St B w0 H w) :
    Calls Tryz.prog 111 [.slice A l.length cap, .func (.func f) #[] cs.toArray].toArray w (Post B w0 fun v K => v = .int .i64 (Yr p l 0) ∧ K = H) := by
  refine Yc Tryz.func111 Tryz.ntmps111 rfl rfl hw ?_
  repeat' (first | apply (zs1 ?_) | apply (zs2 ?_) | (apply zg4; refine zs9 ?_) | apply (zs65 ?_) | apply (zs68 ?_) | apply (zs69 ?_) | apply (zs70 ?_) | apply (zs73 ?_) | fail)
  refine Yj (fun (k : Nat) => [(8, .int .i64 k), (7, .int .i64 l.length), (0, .slice A l.length cap), (1, .func (.func f) #[] cs.toArray)]) (fun _ => H) (fun k => k ≤ l.length ∧ Yr p l 0 = Yr p (l.drop k) k) (fun k => l.length - k) 0 ⟨Nat.zero_le _, by simp⟩ ?_ (fun w hw => hw) ?_
  · exact zu
  rintro k ⟨hk, hi⟩ K hK
  by_cases hlt : k < l.length
  · obtain ⟨a, ha⟩ : ∃ a, l[k]? = some a := ⟨_, List.getElem?_eq_getElem hlt⟩
    have hpa := hp a (List.mem_of_getElem? ha)
    rw [ZW p l ha] at hi
    repeat' (first | ((first | apply YU (cs := cs)); exact rfl; exact hen; exact za; exact rfl; exact fun _ hw => hpa _ hw) | apply (zs1 ?_) | apply (zs2 ?_) | (apply zg3; refine zs61 ?_) | (apply zg5; refine zs57 ?_) | (apply (zs17 ?_ ?_) <;> intro _ <;> try (exfalso; omega)) | apply (zs65 ?_) | apply (zs68 ?_) | apply (zs69 ?_) | apply (zs70 ?_) | (apply zg27; refine zs71 ?_) | apply (zs73 ?_) | apply (zs76 ?_) | fail)
    cases hpv : p a
    · rw [hpv] at hi
      repeat' (first | apply (zs1 ?_) | (apply zg13; refine zs30 ?_) | apply (zs65 ?_) | apply (zs68 ?_) | apply (zs70 ?_) | (apply zg27; refine zs72 ?_) | apply (zs76 ?_) | apply (zs79 ?_) | fail)
      apply hK (k + 1)
      · exact ⟨by omega, hi⟩
      · omega
      · exact zu
      · exact fun w hw => hw
    · rw [hpv] at hi
      repeat' (first | apply (zs1 ?_) | apply (zs2 ?_) | apply (zs65 ?_) | apply (zs68 ?_) | apply (zs69 ?_) | apply (zs70 ?_) | (apply zg27; refine zs71 ?_) | apply (zs74 ?_) | apply (zs77 ?_) | apply (zs78 ?_) | fail)
      apply Yd; exact rfl; exact rfl
      exact ⟨by rw [hi]; rfl, rfl⟩
  · repeat' (first | apply (zs2 ?_) | (apply (zs17 ?_ ?_) <;> intro _ <;> try (exfalso; omega)) | apply (zs65 ?_) | apply (zs68 ?_) | apply (zs69 ?_) | apply (zs70 ?_) | (apply zg27; refine zs72 ?_) | apply (zs74 ?_) | apply (zs75 ?_) | apply (zs80 ?_) | apply (zs81 ?_) | fail)
    apply Yd; exact rfl; exact rfl
    rw [hi, List.drop_eq_nil_of_le (by omega)]
    exact ⟨rfl, rfl⟩
theorem Yei (f : Flw) (id : Int) (gi : Nat) {B : Nat} {w0 : World} {H : List HP} {w : World} (hm : blk gi (.cells #[.int .i64 id] 3 (0, 0)) ∈ H) (hw : St B w0 H w) :
    Calls Tryz.prog 170 [flwV f, .pointer (some ⟨gi, 0, none⟩)].toArray w (Post B w0 fun v K => v = .bool (decide (f.1 = id)) ∧ K = H) := by
  refine Yc Tryz.func170 Tryz.ntmps170 rfl rfl hw ?_
  by_cases h : f.1 = id
  · rw [decide_eq_true h]
    repeat' (first | apply (zs2 ?_) | (apply zg2; refine zs6 ?_) | (apply zg3; refine zs7 ?_) | (apply zg7; (refine zs15 ?_ ?_ <;> intro _ <;> try (exfalso; omega))) | (apply zg23; (refine zs52 ?_; intro _)) | apply (zs65 ?_) | apply (zs68 ?_) | apply (zs69 ?_) | apply (zs70 ?_) | apply (zs74 ?_) | fail)
    all_goals (apply Ym; apply Yd; exact rfl; exact rfl; exact ⟨rfl, rfl⟩)
  · rw [decide_eq_false h]
    repeat' (first | apply (zs2 ?_) | (apply zg2; refine zs6 ?_) | (apply zg3; refine zs7 ?_) | (apply zg7; (refine zs15 ?_ ?_ <;> intro _ <;> try (exfalso; omega))) | (apply zg23; (refine zs52 ?_; intro _)) | apply (zs65 ?_) | apply (zs68 ?_) | apply (zs69 ?_) | apply (zs70 ?_) | apply (zs74 ?_) | fail)
    all_goals (apply Ym; apply Yd; exact rfl; exact rfl; exact ⟨rfl, rfl⟩)
theorem Yeh (l : List Flw) (id : Int) (hlen : l.length ≤ 1000) {A : Option Addr} {cap B : Nat} {w0 : World} {H : List HP} {w : World} (hr : Rd B w0 H A (l.flatMap flwF)) (hw : St B w0 H w) :
    Calls Tryz.prog 114 [.slice A l.length cap, .int .i64 id].toArray w (Post B w0 fun v K => v = .int .i64 (Zx l id) ∧ K = H) := by
  refine Yc Tryz.func114 Tryz.ntmps114 rfl rfl hw ?_
  repeat' (first | apply (zs1 ?_) | apply (zs2 ?_) | (apply zg23; (refine zs53 ?_; intro _)) | apply (zs65 ?_) | apply (zs68 ?_) | apply (zs69 ?_) | apply (zs70 ?_) | (apply zg29; (apply Ys; exact za ; exact rfl)) | fail)
  rename_i gi
  first | apply Ya YeR | apply Yb YeR
  exact za
  exact rfl
  exact fun _ hw => (QT (fun f => decide (f.1 = id)) l 170 [.pointer (some ⟨gi, 0, none⟩)] YjQ hlen hr.cons (fun f _ w hw => Yei f id gi zm hw) hw)
  repeat' (first | apply (zs2 ?_) | apply (zs65 ?_) | apply (zs68 ?_) | apply (zs74 ?_) | fail)
  apply Yi H
  · exact zk
  apply Yd; exact rfl; exact rfl
  exact ⟨rfl, rfl⟩
theorem Ycj (s : SchM) (f : Flw) (gs : Nat) (hs : 1 ≤ s.len ∧ s.len ≤ 512) (hf : 1 ≤ f.2.2.2.1 ∧ f.2.2.2.1 ≤ 512) {B : Nat} {w0 : World} {H : List HP} {w : World} (hm : blk gs (.cells #[.int .i64 s.len, .int .i64 s.off, .slice s.A s.cells.length s.cap] 30 (0, 0)) ∈ H) (hw : St B w0 H w) :
    Calls Tryz.prog 54 [flwV f, .pointer (some ⟨gs, 0, none⟩)].toArray w (Post B w0 fun v K => v = .bool (decide (s.len.tmod f.2.2.2.1 ≠ 0)) ∧ K = H) := by
  refine Yc Tryz.func54 Tryz.ntmps54 rfl rfl hw ?_
  by_cases h : s.len.tmod f.2.2.2.1 ≠ 0
  · rw [decide_eq_true h]
    rw [Int.tmod_eq_emod_of_nonneg (by omega)] at h
    repeat' (first | apply (zs2 ?_) | (apply zg2; refine zs6 ?_) | (apply zg3; refine zs7 ?_) | (apply zg8; (refine zs16 ?_ ?_ <;> intro _ <;> try (exfalso; omega))) | (apply zg17; refine zs37 ?_) | (apply zg23; (refine zs52 ?_; intro _)) | apply (zs65 ?_) | apply (zs68 ?_) | apply (zs69 ?_) | apply (zs70 ?_) | apply (zs74 ?_) | fail)
    all_goals (apply Ym; apply Yd; exact rfl; exact rfl; exact ⟨rfl, rfl⟩)
  · rw [decide_eq_false h]
    rw [Int.tmod_eq_emod_of_nonneg (by omega)] at h
    repeat' (first | apply (zs2 ?_) | (apply zg2; refine zs6 ?_) | (apply zg3; refine zs7 ?_) | (apply zg8; (refine zs16 ?_ ?_ <;> intro _ <;> try (exfalso; omega))) | (apply zg17; refine zs37 ?_) | (apply zg23; (refine zs52 ?_; intro _)) | apply (zs65 ?_) | apply (zs68 ?_) | apply (zs69 ?_) | apply (zs70 ?_) | apply (zs74 ?_) | fail)
    all_goals (apply Ym; apply Yd; exact rfl; exact rfl; exact ⟨rfl, rfl⟩)
theorem Ydb {α : Type} (p : α → Bool) (l : List α) : decide (0 ≤ Yr p l 0) = l.any p := by
  have h := Vg p l 0 (by omega)
  by_cases h0 : 0 ≤ Yr p l 0
  · rw [decide_eq_true h0, h.1 h0]
  · rw [decide_eq_false h0]
    cases h1 : l.any p with
    | false => rfl
    | true => exact absurd (h.2 h1) h0
theorem QA (p : Flw → Bool) (l : List Flw) (f : Nat) (cs : List Value) (hen : ∀ xs w, (callFunc f xs).run Tryz.prog w = .ok (.enter f xs) w) (hlen : l.length ≤ 1000) {A : Option Addr} {cap B : Nat} {w0 : World} {H : List HP} {w : World} (hr : Rd B w0 H A (l.flatMap flwF))
    (hp : ∀ a ∈ l, ∀ w, St B w0 H w → Calls Tryz.prog f ([flwV a] ++ cs).toArray w (Post B w0 fun v K => v = .bool (p a) ∧ K = H)) (hw : St B w0 H w) :
    Calls Tryz.prog 53 [.slice A l.length cap, .func (.func f) #[] cs.toArray].toArray w (Post B w0 fun v K => v = .bool (l.any p) ∧ K = H) := by
  refine Yc Tryz.func53 Tryz.ntmps53 rfl rfl hw ?_
  rw [← Ydb]
  repeat' (first | apply (zs1 ?_) | apply (zs2 ?_) | apply (zs65 ?_) | apply (zs68 ?_) | apply (zs69 ?_) | apply (zs70 ?_) | fail)
  first | apply Ya YeR | apply Yb YeR
  exact za
  exact rfl
  exact fun _ hw => (QT p l f cs hen hlen hr hp hw)
  by_cases h0 : 0 ≤ Yr p l 0
  · rw [decide_eq_true h0]
    repeat' (first | apply (zs2 ?_) | (apply (zs20 ?_ ?_) <;> intro _ <;> try (exfalso; omega)) | apply (zs65 ?_) | apply (zs68 ?_) | apply (zs74 ?_) | fail)
    apply Yd; exact rfl; exact rfl
    exact ⟨rfl, rfl⟩
  · rw [decide_eq_false h0]
    repeat' (first | apply (zs2 ?_) | (apply (zs20 ?_ ?_) <;> intro _ <;> try (exfalso; omega)) | apply (zs65 ?_) | apply (zs68 ?_) | apply (zs74 ?_) | fail)
    apply Yd; exact rfl; exact rfl
    exact ⟨rfl, rfl⟩
open Go.RowKit Go.Eng Go.Nw Go.Rt
theorem Ybj (n : NetM) (s t : Int) {B : Nat} {w0 : World} {H : List HP} {w : World} (hin : n.In B w0 H) (hw : St B w0 H w) :
    Calls Tryz.prog 205 [n.val, .int .i64 s, .int .i64 t].toArray w (Post B w0 fun v K => v = .int .i64 (JU n.net s t) ∧ K = H) := by
  refine Yc Tryz.func205 Tryz.ntmps205 rfl rfl hw ?_
  have e7 : n.net.nodes = n.nodes := rfl
  unfold JU offE
  rw [e7]
  by_cases h0 : YA n.net = 0
  rotate_left
  · rw [if_pos h0]
    repeat' (first | ((first | apply Ya en50 | apply Yb en50); exact za; exact rfl; exact fun _ hw => (Y1 n hin.cons hw)) | apply (zs2 ?_) | (apply zg3; refine zs8 ?_) | (apply zg8; (refine zs16 ?_ ?_ <;> intro _ <;> try (exfalso; omega))) | (apply zg23; (refine zs52 ?_; intro _)) | apply (zs65 ?_) | apply (zs68 ?_) | apply (zs69 ?_) | apply (zs70 ?_) | (apply zg27; refine zs71 ?_) | apply (zs74 ?_) | apply (zs77 ?_) | fail)
    all_goals ((repeat apply Ym); apply Yd; exact rfl; exact rfl; exact ⟨rfl, rfl⟩)
  rw [if_neg (fun h => h h0)]
  have hck := fun {H : List HP} {w : World} (hin : n.In B w0 H) (hw : St B w0 H w) => Y1 n hin hw
  rw [h0] at hck
  simp only [decide_eq_true_eq]
  by_cases h1 : (s < 0 ∨ n.nodes ≤ s) ∨ (t < 0 ∨ n.nodes ≤ t) ∨ s = t
  · rw [if_pos h1]
    repeat' (first | ((first | apply Ya en50 | apply Yb en50); exact za; exact rfl; exact fun _ hw => (hck hin.cons hw)) | apply (zs1 ?_) | apply (zs2 ?_) | (apply zg1; first | refine zs3 ?_ | refine zs4 ?_) | (apply zg2; refine zs6 ?_) | (apply zg3; first | refine zs7 ?_ | refine zs8 ?_) | (apply zg6; first | refine zs11 ?_ | refine zs12 ?_) | (apply zg7; (refine zs15 ?_ ?_ <;> intro _ <;> try (exfalso; omega))) | (apply zg8; (refine zs16 ?_ ?_ <;> intro _ <;> try (exfalso; omega))) | (apply (zs17 ?_ ?_) <;> intro _ <;> try (exfalso; omega)) | (apply (zs20 ?_ ?_) <;> intro _ <;> try (exfalso; omega)) | (apply (zs25 ?_ ?_) <;> intro _ <;> try (exfalso; omega)) | (apply zg23; (refine zs52 ?_; intro _)) | (apply (zs62 ?_ ?_) <;> intro _ <;> try (exfalso; omega)) | apply (zs65 ?_) | apply (zs68 ?_) | apply (zs69 ?_) | apply (zs70 ?_) | (apply zg27; first | refine zs71 ?_ | refine zs72 ?_) | apply (zs74 ?_) | apply (zs76 ?_) | apply (zs77 ?_) | fail)
    all_goals ((repeat apply Ym); apply Yd; exact rfl; exact rfl; exact ⟨rfl, rfl⟩)
  · rw [if_neg h1]
    repeat' (first | ((first | apply Ya en50 | apply Yb en50); exact za; exact rfl; exact fun _ hw => (hck hin.cons hw)) | apply (zs1 ?_) | apply (zs2 ?_) | (apply zg1; refine zs4 ?_) | (apply zg2; refine zs6 ?_) | (apply zg3; first | refine zs7 ?_ | refine zs8 ?_) | (apply zg6; refine zs12 ?_) | (apply zg7; (refine zs15 ?_ ?_ <;> intro _ <;> try (exfalso; omega))) | (apply zg8; (refine zs16 ?_ ?_ <;> intro _ <;> try (exfalso; omega))) | (apply (zs17 ?_ ?_) <;> intro _ <;> try (exfalso; omega)) | (apply (zs20 ?_ ?_) <;> intro _ <;> try (exfalso; omega)) | (apply (zs25 ?_ ?_) <;> intro _ <;> try (exfalso; omega)) | (apply zg23; (refine zs52 ?_; intro _)) | (apply (zs62 ?_ ?_) <;> intro _ <;> try (exfalso; omega)) | apply (zs65 ?_) | apply (zs68 ?_) | apply (zs69 ?_) | apply (zs70 ?_) | (apply zg27; refine zs72 ?_) | apply (zs74 ?_) | apply (zs76 ?_) | fail)
    all_goals ((repeat apply Ym); apply Yd; exact rfl; exact rfl; exact ⟨rfl, rfl⟩)
theorem Yc3 (n : NetM) (a : Int) (g : Nat) {B : Nat} {w0 : World} {H : List HP} {w : World} (hm : netB g n ∈ H) (hw : St B w0 H w) :
    Calls Tryz.prog 245 [.int .i64 a, .pointer (some ⟨g, 0, none⟩)].toArray w (Post B w0 fun v K => v = .bool (offE n.net a) ∧ K = H) := by
  refine Yc Tryz.func245 Tryz.ntmps245 rfl rfl hw ?_
  have e7 : n.net.nodes = n.nodes := rfl
  unfold offE
  rw [e7]
  by_cases h : a < 0 ∨ n.nodes ≤ a
  · rw [decide_eq_true h]
    repeat' (first | apply (zs1 ?_) | apply (zs2 ?_) | (apply zg1; first | refine zs3 ?_ | refine zs4 ?_) | (apply zg2; refine zs6 ?_) | (apply zg3; refine zs7 ?_) | (apply zg6; first | refine zs11 ?_ | refine zs12 ?_) | (apply (zs17 ?_ ?_) <;> intro _ <;> try (exfalso; omega)) | (apply (zs20 ?_ ?_) <;> intro _ <;> try (exfalso; omega)) | apply (zs65 ?_) | apply (zs68 ?_) | apply (zs69 ?_) | apply (zs70 ?_) | apply (zs74 ?_) | fail)
    all_goals (apply Yd; exact rfl; exact rfl; exact ⟨rfl, rfl⟩)
  · rw [decide_eq_false h]
    repeat' (first | apply (zs1 ?_) | apply (zs2 ?_) | (apply zg1; refine zs4 ?_) | (apply zg2; refine zs6 ?_) | (apply zg3; refine zs7 ?_) | (apply zg6; refine zs12 ?_) | (apply (zs17 ?_ ?_) <;> intro _ <;> try (exfalso; omega)) | (apply (zs20 ?_ ?_) <;> intro _ <;> try (exfalso; omega)) | apply (zs65 ?_) | apply (zs68 ?_) | apply (zs69 ?_) | apply (zs70 ?_) | apply (zs74 ?_) | fail)
    all_goals (apply Yd; exact rfl; exact rfl; exact ⟨rfl, rfl⟩)
open Go.RowKit Go.Eng Go.Nw
theorem Ydf (l : List Int) (v : Int) (hlen : l.length ≤ 9223372036854775807) {A : Option Addr} {cap B : Nat} {w0 : World} {H : List HP} {w : World} (hr : Rd B w0 H A (l.flatMap numF)) (hw : St B w0 H w) :
    Calls Tryz.prog 45 [.slice A l.length cap, .int .i64 v].toArray w (Post B w0 fun u K => u = .int .i64 (Yr (fun x => decide (v = x)) l 0) ∧ K = H) := by
  refine Yc Tryz.func45 Tryz.ntmps45 rfl rfl hw ?_
  repeat' (first | apply (zs1 ?_) | apply (zs2 ?_) | (apply zg4; refine zs9 ?_) | apply (zs65 ?_) | apply (zs68 ?_) | apply (zs69 ?_) | apply (zs70 ?_) | apply (zs73 ?_) | fail)
  refine Yj (fun (k : Nat) => [(8, .int .i64 k), (7, .int .i64 l.length), (0, .slice A l.length cap), (1, .int .i64 v)]) (fun _ => H) (fun k => k ≤ l.length ∧ Yr (fun x => decide (v = x)) l 0 = Yr (fun x => decide (v = x)) (l.drop k) k) (fun k => l.length - k) 0 ⟨Nat.zero_le _, by simp⟩ ?_ (fun w hw => hw) ?_
  · exact zu
  rintro k ⟨hk, hi⟩ K hK
  by_cases hlt : k < l.length
  · obtain ⟨a, ha⟩ : ∃ a, l[k]? = some a := ⟨_, List.getElem?_eq_getElem hlt⟩
    rw [ZW _ l ha] at hi
    repeat' (first | apply (zs1 ?_) | apply (zs2 ?_) | (apply zg3; refine zs60 ?_) | (apply zg5; refine zs57 ?_) | (apply zg7; (refine zs15 ?_ ?_ <;> intro _ <;> try (exfalso; omega))) | (apply (zs17 ?_ ?_) <;> intro _ <;> try (exfalso; omega)) | (apply zg13; refine zs30 ?_) | apply (zs65 ?_) | apply (zs68 ?_) | apply (zs69 ?_) | apply (zs70 ?_) | (apply zg27; first | refine zs71 ?_ | refine zs72 ?_) | apply (zs73 ?_) | apply (zs74 ?_) | apply (zs76 ?_) | apply (zs77 ?_) | apply (zs78 ?_) | apply (zs79 ?_) | fail)
    · rename_i h
      rw [if_pos (decide_eq_true h)] at hi
      ((repeat apply Ym); apply Yd; exact rfl; exact rfl; refine ⟨congrArg _ ?_, rfl⟩)
      rw [hi]
    · rename_i h
      rw [if_neg (by simp [h])] at hi
      repeat' (first | fail)
      apply hK (k + 1)
      · exact ⟨by omega, hi⟩
      · omega
      · exact zu
      · exact fun w hw => hw
  · repeat' (first | apply (zs2 ?_) | (apply (zs17 ?_ ?_) <;> intro _ <;> try (exfalso; omega)) | apply (zs65 ?_) | apply (zs68 ?_) | apply (zs69 ?_) | apply (zs70 ?_) | (apply zg27; refine zs72 ?_) | apply (zs74 ?_) | apply (zs75 ?_) | apply (zs80 ?_) | apply (zs81 ?_) | fail)
    ((repeat apply Ym); apply Yd; exact rfl; exact rfl; refine ⟨congrArg _ ?_, rfl⟩)
    rw [hi, List.drop_eq_nil_of_le (by omega)]; rfl
theorem QB (l : List Int) (v : Int) (hlen : l.length ≤ 9223372036854775807) {A : Option Addr} {cap B : Nat} {w0 : World} {H : List HP} {w : World} (hr : Rd B w0 H A (l.flatMap numF)) (hw : St B w0 H w) :
    Calls Tryz.prog 246 [.slice A l.length cap, .int .i64 v].toArray w (Post B w0 fun u K => u = .bool (decide (v ∈ l)) ∧ K = H) := by
  refine Yc Tryz.func246 Tryz.ntmps246 rfl rfl hw ?_
  have hia := Vg (fun x => decide (v = x)) l 0 (by omega)
  have hmm : l.any (fun x => decide (v = x)) = true ↔ v ∈ l := by simp [List.any_eq_true]
  repeat' (first | ((first | apply Ya en45 | apply Yb en45); exact za; exact rfl; exact fun _ hw => (Ydf l v hlen hr hw)) | apply (zs1 ?_) | apply (zs2 ?_) | (apply (zs20 ?_ ?_) <;> intro _ <;> try (exfalso; omega)) | apply (zs65 ?_) | apply (zs68 ?_) | apply (zs69 ?_) | apply (zs70 ?_) | apply (zs74 ?_) | fail)
  all_goals (apply Yd; exact rfl; exact rfl)
  · rename_i h; exact ⟨by rw [decide_eq_true (hmm.1 (hia.1 h))], rfl⟩
  · rename_i h
    exact ⟨by rw [decide_eq_false fun e => by have := hia.2 (hmm.2 e); omega], rfl⟩
theorem Ov (l m : List Int) (hlen : l.length ≤ 9223372036854775807) (_hlen2 : m.length ≤ 9223372036854775807) {A A2 : Option Addr} {cap cap2 B : Nat} {w0 : World} {H : List HP} {w : World} (hr : Rd B w0 H A (l.flatMap numF)) (hr2 : Rd B w0 H A2 (m.flatMap numF)) (hw : St B w0 H w) :
    Calls Tryz.prog 33 [.slice A l.length cap, .slice A2 m.length cap2].toArray w (Post B w0 fun u K => u = .bool (decide (l = m)) ∧ K = H) := by
  refine Yc Tryz.func33 Tryz.ntmps33 rfl rfl hw ?_
  by_cases hll : l.length = m.length
  rotate_left
  · repeat' (first | apply (zs1 ?_) | apply (zs2 ?_) | (apply zg4; refine zs9 ?_) | (apply zg8; (refine zs16 ?_ ?_ <;> intro _ <;> try (exfalso; omega))) | apply (zs65 ?_) | apply (zs68 ?_) | apply (zs69 ?_) | apply (zs70 ?_) | (apply zg27; refine zs71 ?_) | apply (zs74 ?_) | apply (zs77 ?_) | fail)
    apply Yd; exact rfl; exact rfl
    exact ⟨by rw [decide_eq_false fun e => hll (by rw [e])], rfl⟩
  repeat' (first | apply (zs1 ?_) | apply (zs2 ?_) | (apply zg4; refine zs9 ?_) | (apply zg8; (refine zs16 ?_ ?_ <;> intro _ <;> try (exfalso; omega))) | apply (zs65 ?_) | apply (zs68 ?_) | apply (zs69 ?_) | apply (zs70 ?_) | (apply zg27; refine zs72 ?_) | apply (zs73 ?_) | apply (zs76 ?_) | fail)
  refine Yj (fun (k : Nat) => [(13, .int .i64 k), (12, .int .i64 l.length), (0, .slice A l.length cap), (1, .slice A2 m.length cap2)]) (fun _ => H) (fun k => k ≤ l.length ∧ l.take k = m.take k) (fun k => l.length - k) 0 ⟨Nat.zero_le _, by simp⟩ ?_ (fun w hw => hw) ?_
  · exact zu
  rintro k ⟨hk, hi⟩ K hK
  by_cases hlt : k < l.length
  · obtain ⟨a, ha⟩ : ∃ a, l[k]? = some a := ⟨_, List.getElem?_eq_getElem hlt⟩
    obtain ⟨b, hb⟩ : ∃ b, m[k]? = some b := ⟨_, List.getElem?_eq_getElem (by omega)⟩
    repeat' (first | apply (zs1 ?_) | apply (zs2 ?_) | (apply zg3; refine zs60 ?_) | (apply zg5; refine zs57 ?_) | (apply zg8; (refine zs16 ?_ ?_ <;> intro _ <;> try (exfalso; omega))) | (apply (zs17 ?_ ?_) <;> intro _ <;> try (exfalso; omega)) | (apply zg13; refine zs30 ?_) | apply (zs65 ?_) | apply (zs66 ?_) | apply (zs68 ?_) | apply (zs69 ?_) | apply (zs70 ?_) | (apply zg27; first | refine zs71 ?_ | refine zs72 ?_) | apply (zs73 ?_) | apply (zs74 ?_) | apply (zs76 ?_) | apply (zs77 ?_) | apply (zs78 ?_) | apply (zs79 ?_) | (apply zg28; refine zs83 ?_) | fail)
    · rename_i h
      apply Yd; exact rfl; exact rfl
      exact ⟨by rw [decide_eq_false fun e => by rw [e, hb] at ha; exact h (Option.some.inj ha).symm], rfl⟩
    · rename_i h
      apply hK (k + 1)
      · exact ⟨by omega, by rw [Ji ha, Ji hb, hi, h]⟩
      · omega
      · exact zu
      · exact fun w hw => hw
  · repeat' (first | apply (zs2 ?_) | (apply (zs17 ?_ ?_) <;> intro _ <;> try (exfalso; omega)) | apply (zs65 ?_) | apply (zs68 ?_) | apply (zs69 ?_) | apply (zs70 ?_) | (apply zg27; refine zs72 ?_) | apply (zs74 ?_) | apply (zs75 ?_) | apply (zs80 ?_) | apply (zs81 ?_) | fail)
    apply Yd; exact rfl; exact rfl
    rw [List.take_of_length_le (by omega), List.take_of_length_le (by omega)] at hi
    exact ⟨by rw [decide_eq_true hi], rfl⟩
open Go.RowKit Go.Eng Go.Nw Go.Rt
theorem Yka {l : List Int} {A : Option Addr} {cap : Nat} {B : Nat} {w0 : World} {H : List HP} (k : Nat) (hr : Rd B w0 H A (l.flatMap numF)) (hc : l.length ≤ cap) : Rd B w0 H (subA A 0 cap 1) ((l.take k).flatMap numF) := by
  have h := Rd.sub (f := numF) (q := 1) (o := 0) (k := k) (fun _ => rfl) hr hc
  rwa [List.drop_zero] at h
theorem Ykb {l : List Int} {A : Option Addr} {cap : Nat} {B : Nat} {w0 : World} {H : List HP} (o : Nat) (hr : Rd B w0 H A (l.flatMap numF)) (hc : l.length ≤ cap) : Rd B w0 H (subA A o cap 1) ((l.drop o).flatMap numF) := by
  have h := Rd.sub (f := numF) (q := 1) (o := o) (k := (l.drop o).length) (fun _ => rfl) hr hc
  rwa [List.take_length] at h
theorem Un {p : Nat → Bool} {k : Nat} (h : (List.range k).any p = false) (h2 : p k = false) : (List.range (k + 1)).any p = false := by
  rw [Qs, h, h2]; rfl
theorem Wc {p : Nat → Bool} {k n : Nat} (hk : k < n) (h : p k = true) : (List.range n).any p = true := List.any_eq_true.2 ⟨k, List.mem_range.2 hk, h⟩
set_option maxHeartbeats 1000000 in
theorem Yef (n : NetM) (s t : Int) (r : List Int) {A : Option Addr} {cap B : Nat} {w0 : World} {H : List HP} {w : World} (hin : n.In B w0 H) (hck : YA n.net = 0) (hr : Rd B w0 H A (r.flatMap numF)) (hlen : r.length ≤ 9223372036854775807) (hcap : r.length ≤ cap) (hw : St B w0 H w) :
    Calls Tryz.prog 206 [n.val, .int .i64 s, .int .i64 t, .slice A r.length cap].toArray w (Post B w0 fun v K => v = .int .i64 (UO n.net s t r) ∧ K = H) := by
  refine Yc Tryz.func206 Tryz.ntmps206 rfl rfl hw ?_
  (apply XH; apply Xg; apply Xa; exact rfl; exact rfl; intro g)
  have hnm : netB g n ∈ netB g n :: H := List.mem_cons_self
  unfold UO
  by_cases h1 : r.length < 2
  · rw [if_pos h1]
    repeat' (first | apply (zs1 ?_) | apply (zs2 ?_) | (apply zg4; refine zs9 ?_) | (apply (zs17 ?_ ?_) <;> intro _ <;> try (exfalso; omega)) | apply (zs65 ?_) | apply (zs68 ?_) | apply (zs69 ?_) | apply (zs70 ?_) | (apply zg27; refine zs71 ?_) | apply (zs73 ?_) | apply (zs74 ?_) | apply (zs77 ?_) | apply (zs78 ?_) | fail)
    (repeat apply Ym); apply Yd; exact rfl; exact rfl
    exact ⟨rfl, rfl⟩
  rw [if_neg h1]
  by_cases h2 : 9 < r.length
  · rw [if_pos h2]
    repeat' (first | apply (zs1 ?_) | apply (zs2 ?_) | (apply zg4; refine zs9 ?_) | (apply (zs17 ?_ ?_) <;> intro _ <;> try (exfalso; omega)) | (apply (zs19 ?_ ?_) <;> intro _ <;> try (exfalso; omega)) | apply (zs65 ?_) | apply (zs68 ?_) | apply (zs69 ?_) | apply (zs70 ?_) | (apply zg27; first | refine zs71 ?_ | refine zs72 ?_) | apply (zs73 ?_) | apply (zs74 ?_) | apply (zs77 ?_) | apply (zs78 ?_) | fail)
    (repeat apply Ym); apply Yd; exact rfl; exact rfl
    exact ⟨rfl, rfl⟩
  rw [if_neg h2]
  have hoff := fun {w : World} (hw : St B w0 (netB g n :: H) w) => Wi (fun a : Int => Value.int .i64 a) (offE n.net) r 245 [.pointer (some ⟨g, 0, none⟩)] Yj1 hlen (cap := cap) (hr.cons) (fun a _ w hw => Yc3 n a g hnm hw) hw
  obtain ⟨b3, h3⟩ : ∃ b, r.any (offE n.net) = b := ⟨_, rfl⟩
  rw [h3] at hoff ⊢
  cases b3 with
  | true =>
    rw [if_pos rfl]
    repeat' (first | ((first | apply Ya Ybi | apply Yb Ybi); exact za; exact rfl; exact fun _ hw => (hoff hw)) | apply (zs1 ?_) | apply (zs2 ?_) | (apply zg4; refine zs9 ?_) | (apply (zs17 ?_ ?_) <;> intro _ <;> try (exfalso; omega)) | (apply (zs19 ?_ ?_) <;> intro _ <;> try (exfalso; omega)) | apply (zs65 ?_) | apply (zs68 ?_) | apply (zs69 ?_) | apply (zs70 ?_) | (apply zg27; first | refine zs71 ?_ | refine zs72 ?_) | apply (zs73 ?_) | apply (zs74 ?_) | apply (zs77 ?_) | apply (zs78 ?_) | (apply zg29; (apply Ys; exact za ; exact rfl)) | fail)
    (repeat apply Ym); apply Yd; exact rfl; exact rfl
    exact ⟨rfl, rfl⟩
  | false =>
    rw [if_neg (by decide)]
    have hg0 := Xj (l := r) (i := 0) (by omega)
    have hg1 := Xj (l := r) (i := r.length - 1) (by omega)
    have hgi : ((r.length : Int) - 1).toNat = r.length - 1 := by omega
    rw [← hgi] at hg1
    by_cases h4 : r.getD 0 0 ≠ s ∨ r.getD (r.length - 1) 0 ≠ t
    · rw [if_pos h4]
      rw [← hgi] at h4
      repeat' (first | ((first | apply Ya Ybi | apply Yb Ybi); exact za; exact rfl; exact fun _ hw => (hoff hw)) | apply (zs1 ?_) | apply (zs2 ?_) | (apply zg1; first | refine zs3 ?_ | refine zs4 ?_) | (apply zg3; refine zs60 ?_) | (apply zg4; refine zs9 ?_) | (apply zg5; refine zs57 ?_) | (apply zg6; first | refine zs11 ?_ | refine zs12 ?_) | (apply zg8; (refine zs16 ?_ ?_ <;> intro _ <;> try (exfalso; omega))) | (apply (zs17 ?_ ?_) <;> intro _ <;> try (exfalso; omega)) | (apply (zs19 ?_ ?_) <;> intro _ <;> try (exfalso; omega)) | (apply zg14; refine zs31 ?_) | apply (zs65 ?_) | apply (zs68 ?_) | apply (zs69 ?_) | apply (zs70 ?_) | (apply zg27; first | refine zs71 ?_ | refine zs72 ?_) | apply (zs73 ?_) | apply (zs74 ?_) | apply (zs77 ?_) | apply (zs78 ?_) | (apply zg29; (apply Ys; exact za ; exact rfl)) | fail)
      all_goals first
        | ((repeat apply Ym); apply Yd; exact rfl; exact rfl; exact ⟨rfl, rfl⟩)
        | skip
      done
    rw [if_neg h4]
    rw [← hgi] at h4
    repeat' (first | ((first | apply Ya Ybi | apply Yb Ybi); exact za; exact rfl; exact fun _ hw => (hoff hw)) | apply (zs1 ?_) | apply (zs2 ?_) | (apply zg1; refine zs4 ?_) | (apply zg3; refine zs60 ?_) | (apply zg4; refine zs9 ?_) | (apply zg5; refine zs57 ?_) | (apply zg6; refine zs12 ?_) | (apply zg8; (refine zs16 ?_ ?_ <;> intro _ <;> try (exfalso; omega))) | (apply (zs17 ?_ ?_) <;> intro _ <;> try (exfalso; omega)) | (apply (zs19 ?_ ?_) <;> intro _ <;> try (exfalso; omega)) | (apply zg14; refine zs31 ?_) | apply (zs65 ?_) | apply (zs68 ?_) | apply (zs69 ?_) | apply (zs70 ?_) | (apply zg27; refine zs72 ?_) | apply (zs73 ?_) | apply (zs76 ?_) | apply (zs79 ?_) | (apply zg29; (apply Ys; exact za ; exact rfl)) | fail)
    refine Yj (fun (k : Nat) => [(43, .int .i64 k), (42, .int .i64 r.length), (41, .slice A r.length cap), (3, .slice A r.length cap), (4, .pointer (some ⟨g, 0, none⟩))]) (fun _ => netB g n :: H) (fun k => k ≤ r.length ∧ ((List.range k).any fun i => (r.take i).contains (r.getD i 0)) = false) (fun k => r.length - k) 0 ⟨Nat.zero_le _, rfl⟩ ?_ (fun w hw => hw) ?_
    · exact zu
    rintro k ⟨hk, hi⟩ K hK
    by_cases hlt : k < r.length
    · have hgk := Xj (l := r) (i := k) hlt
      obtain ⟨b, hb⟩ : ∃ b, (r.take k).contains (r.getD k 0) = b := ⟨_, rfl⟩
      have hbm : decide (r.getD k 0 ∈ r.take k) = b := by rw [← hb]; simp
      have hcon := fun {w : World} (hw : St B w0 (netB g n :: H) w) => QB (r.take k) (r.getD k 0) (by rw [List.length_take]; omega) (cap := cap) (Yka k (hr.cons (X := netB g n)) hcap) hw
      rw [hbm] at hcon
      cases b with
      | true =>
        repeat' (first | (apply Zg T (l := r) (n' := (r.take k).length); exact rfl; exact rfl; exact rfl; exact rfl; omega; exact hcap; (simp; omega)) | ((first | apply Ya Ye3 | apply Yb Ye3); exact za; exact rfl; exact fun _ hw => (hcon hw)) | apply (zs1 ?_) | apply (zs2 ?_) | (apply zg3; refine zs60 ?_) | (apply zg5; refine zs57 ?_) | (apply (zs17 ?_ ?_) <;> intro _ <;> try (exfalso; omega)) | apply (zs65 ?_) | apply (zs68 ?_) | apply (zs69 ?_) | apply (zs70 ?_) | (apply zg27; refine zs71 ?_) | apply (zs73 ?_) | apply (zs74 ?_) | apply (zs76 ?_) | apply (zs77 ?_) | apply (zs78 ?_) | fail)
        (repeat apply Ym); apply Yd; exact rfl; exact rfl
        have htw : UW r = true := Wc hlt hb
        exact ⟨by rw [if_pos htw], rfl⟩
      | false =>
        repeat' (first | (apply Zg T (l := r) (n' := (r.take k).length); exact rfl; exact rfl; exact rfl; exact rfl; omega; exact hcap; (simp; omega)) | ((first | apply Ya Ye3 | apply Yb Ye3); exact za; exact rfl; exact fun _ hw => (hcon hw)) | apply (zs1 ?_) | apply (zs2 ?_) | (apply zg3; refine zs60 ?_) | (apply zg5; refine zs57 ?_) | (apply (zs17 ?_ ?_) <;> intro _ <;> try (exfalso; omega)) | (apply zg13; refine zs30 ?_) | apply (zs65 ?_) | apply (zs68 ?_) | apply (zs69 ?_) | apply (zs70 ?_) | (apply zg27; first | refine zs71 ?_ | refine zs72 ?_) | apply (zs73 ?_) | apply (zs76 ?_) | apply (zs79 ?_) | fail)
        apply hK (k + 1)
        · exact ⟨by omega, Un hi hb⟩
        · omega
        · exact zu
        · exact fun w hw => hw
    obtain rfl : k = r.length := by omega
    clear hK
    have htw : UW r = false := hi
    rw [if_neg (by rw [htw]; decide)]
    have hdl : (r.drop 1).length = r.length - 1 := List.length_drop
    repeat' (first | (apply VN T (n' := (r.drop 1).length); exact rfl; exact rfl; exact rfl; exact rfl; omega; (rw [hdl]; rfl)) | apply (zs1 ?_) | (apply zg4; refine zs9 ?_) | (apply (zs17 ?_ ?_) <;> intro _ <;> try (exfalso; omega)) | apply (zs65 ?_) | apply (zs68 ?_) | apply (zs69 ?_) | apply (zs70 ?_) | (apply zg27; refine zs72 ?_) | apply (zs73 ?_) | apply (zs75 ?_) | apply (zs80 ?_) | apply (zs81 ?_) | fail)
    refine Yj (fun (k : Nat) => [(57, .int .i64 k), (56, .int .i64 (r.drop 1).length), (55, .slice (subA A 1 cap 1) (r.drop 1).length (cap - 1)), (3, .slice A r.length cap), (4, .pointer (some ⟨g, 0, none⟩))]) (fun _ => netB g n :: H) (fun k => k ≤ (r.drop 1).length ∧ ((List.range k).any fun i => !YR n.net (r.getD i 0) (r.getD (i + 1) 0)) = false) (fun k => (r.drop 1).length - k) 0 ⟨Nat.zero_le _, rfl⟩ ?_ (fun w hw => hw) ?_
    · exact zu
    rintro k ⟨hk, hi⟩ K hK
    have hr1 : Rd B w0 (netB g n :: H) (subA A 1 cap 1) ((r.drop 1).flatMap numF) := Ykb 1 (hr.cons) hcap
    have hr0 : Rd B w0 (netB g n :: H) A (r.flatMap numF) := hr.cons
    by_cases hlt : k < (r.drop 1).length
    · have hgk := Xj (l := r) (i := k) (by omega)
      have hgk1 : (r.drop 1)[k]? = some (r.getD (k + 1) 0) := by
        rw [List.getElem?_drop, Nat.add_comm]; exact Xj (by omega)
      obtain ⟨b, hb⟩ : ∃ b, YR n.net (r.getD k 0) (r.getD (k + 1) 0) = b := ⟨_, rfl⟩
      have hus := fun {w : World} (hw : St B w0 (netB g n :: H) w) => W9 n (Z4 n.net (r.getD k 0) (r.getD (k + 1) 0)) (hin.cons (X := netB g n)) hw
      rw [Ycq hck, hb] at hus
      cases b with
      | true =>
        repeat' (first | ((first | apply Ya en95 | apply Yb en95); exact za; exact rfl; exact fun _ hw => (ZB n _ _ (hin.cons) hw)) | ((first | apply Ya Jy | apply Yb Jy); exact za; exact rfl; exact fun _ hw => (hus hw)) | apply (zs1 ?_) | apply (zs2 ?_) | (apply zg3; first | refine zs8 ?_ | refine zs60 ?_) | (apply zg5; refine zs57 ?_) | (apply (zs17 ?_ ?_) <;> intro _ <;> try (exfalso; omega)) | (apply zg13; refine zs30 ?_) | (apply zg20; refine zs47 ?_) | apply (zs65 ?_) | apply (zs66 ?_) | apply (zs68 ?_) | apply (zs69 ?_) | apply (zs70 ?_) | (apply zg27; first | refine zs71 ?_ | refine zs72 ?_) | apply (zs73 ?_) | apply (zs76 ?_) | apply (zs79 ?_) | (apply zg28; refine zs84 ?_) | fail)
        apply hK (k + 1)
        · exact ⟨by omega, Un hi (by rw [hb]; rfl)⟩
        · omega
        · exact zu
        · exact fun w hw => hw
      | false =>
        repeat' (first | ((first | apply Ya en95 | apply Yb en95); exact za; exact rfl; exact fun _ hw => (ZB n _ _ (hin.cons) hw)) | ((first | apply Ya Jy | apply Yb Jy); exact za; exact rfl; exact fun _ hw => (hus hw)) | apply (zs1 ?_) | apply (zs2 ?_) | (apply zg3; first | refine zs8 ?_ | refine zs60 ?_) | (apply zg5; refine zs57 ?_) | (apply (zs17 ?_ ?_) <;> intro _ <;> try (exfalso; omega)) | (apply zg20; refine zs48 ?_) | apply (zs65 ?_) | apply (zs66 ?_) | apply (zs68 ?_) | apply (zs69 ?_) | apply (zs70 ?_) | (apply zg27; refine zs71 ?_) | apply (zs73 ?_) | apply (zs74 ?_) | apply (zs76 ?_) | apply (zs77 ?_) | apply (zs78 ?_) | (apply zg28; refine zs84 ?_) | fail)
        (repeat apply Ym); apply Yd; exact rfl; exact rfl
        have hbr : Jw n.net r = true := Wc (k := k) (by omega) (by rw [hb]; rfl)
        exact ⟨by rw [if_pos hbr], rfl⟩
    · obtain rfl : k = (r.drop 1).length := by omega
      clear hK
      repeat' (first | apply (zs2 ?_) | (apply (zs17 ?_ ?_) <;> intro _ <;> try (exfalso; omega)) | apply (zs65 ?_) | apply (zs68 ?_) | apply (zs69 ?_) | apply (zs70 ?_) | (apply zg27; refine zs72 ?_) | apply (zs74 ?_) | apply (zs75 ?_) | apply (zs80 ?_) | apply (zs81 ?_) | fail)
      (repeat apply Ym); apply Yd; exact rfl; exact rfl
      have hbr : Jw n.net r = false := by rw [hdl] at hi; exact hi
      exact ⟨by rw [if_neg (by rw [hbr]; decide)], rfl⟩
open Go.RowKit Go.Eng Go.Nw Go.Rt
theorem Us {n : Net} {a b : Int} (h : YR n a b = true) : 0 ≤ Yw n a b := by
  unfold YR at h
  simp only [Bool.and_eq_true, decide_eq_true_eq] at h
  exact h.1
theorem Yg2 {n : Net} {s t : Int} {r : List Int} (h : UO n s t r = 0) : (2 ≤ r.length ∧ r.length ≤ 9) ∧ r.any (offE n) = false ∧ (r.getD 0 0 = s ∧ r.getD (r.length - 1) 0 = t) ∧ UW r = false ∧ Jw n r = false := by
  unfold UO at h
  by_cases h1 : r.length < 2
  · rw [if_pos h1] at h; cases h
  rw [if_neg h1] at h
  by_cases h2 : 9 < r.length
  · rw [if_pos h2] at h; cases h
  rw [if_neg h2] at h
  cases h3 : r.any (offE n) with
  | true => rw [h3, if_pos rfl] at h; cases h
  | false =>
    rw [h3, if_neg (by decide)] at h
    by_cases h4 : r.getD 0 0 ≠ s ∨ r.getD (r.length - 1) 0 ≠ t
    · rw [if_pos h4] at h; cases h
    rw [if_neg h4] at h
    cases h5 : UW r with
    | true => rw [h5, if_pos rfl] at h; cases h
    | false =>
      rw [h5, if_neg (by decide)] at h
      cases h6 : Jw n r with
      | true => rw [h6, if_pos rfl] at h; cases h
      | false => exact ⟨by omega, rfl, by omega, rfl, rfl⟩
theorem Qi (n : NetM) (s t : Int) (r : List Int) {A : Option Addr} {cap B : Nat} {w0 : World} {H : List HP} {w : World} (hin : n.In B w0 H) (hr : Rd B w0 H A (r.flatMap numF)) (hlen : r.length ≤ 9223372036854775807) (hcap : r.length ≤ cap) (hw : St B w0 H w) :
    Calls Tryz.prog 148 [n.val, .int .i64 s, .int .i64 t, .slice A r.length cap].toArray w (Post B w0 fun v K => v = .int .i64 (XC n.net s t r) ∧ K = H) := by
  refine Yc Tryz.func148 Tryz.ntmps148 rfl rfl hw ?_
  unfold XC
  by_cases h0 : JU n.net s t = 0
  · have hck : YA n.net = 0 := by
      unfold JU at h0
      by_cases h : YA n.net = 0
      · exact h
      · rw [if_pos h] at h0; cases h0
    have hen := fun {H : List HP} {w : World} (hin : n.In B w0 H) (hw : St B w0 H w) => Ybj n s t hin hw
    rw [h0] at hen
    rw [if_neg (fun h => h h0)]
    repeat' (first | ((first | apply Ya Ye1 | apply Yb Ye1); exact za; exact rfl; exact fun _ hw => (hen hin.cons hw)) | ((first | apply Ya YiS | apply Yb YiS); exact za; exact rfl; exact fun _ hw => (Yef n s t r hin.cons hck hr.cons hlen hcap hw)) | apply (zs1 ?_) | apply (zs2 ?_) | (apply zg3; refine zs8 ?_) | (apply zg8; (refine zs16 ?_ ?_ <;> intro _ <;> try (exfalso; omega))) | (apply zg23; (refine zs52 ?_; intro _)) | apply (zs65 ?_) | apply (zs68 ?_) | apply (zs69 ?_) | apply (zs70 ?_) | (apply zg27; refine zs72 ?_) | apply (zs74 ?_) | apply (zs76 ?_) | fail)
    (repeat apply Ym); apply Yd; exact rfl; exact rfl; exact ⟨rfl, rfl⟩
  · rw [if_pos h0]
    repeat' (first | ((first | apply Ya Ye1 | apply Yb Ye1); exact za; exact rfl; exact fun _ hw => (Ybj n s t hin.cons hw)) | apply (zs1 ?_) | apply (zs2 ?_) | (apply zg3; refine zs8 ?_) | (apply zg8; (refine zs16 ?_ ?_ <;> intro _ <;> try (exfalso; omega))) | (apply zg23; (refine zs52 ?_; intro _)) | apply (zs65 ?_) | apply (zs68 ?_) | apply (zs69 ?_) | apply (zs70 ?_) | (apply zg27; refine zs71 ?_) | apply (zs74 ?_) | apply (zs77 ?_) | fail)
    (repeat apply Ym); apply Yd; exact rfl; exact rfl; exact ⟨rfl, rfl⟩
open Go.RowKit Go.Eng Go.Nw Go.Rt
structure WayM where
  n : NetM
  s : SchM
  f : Flw
  A : Option Addr
  cap : Nat
  r : List Int
def WayM.val (x : WayM) : Value := .agg #[.int .i64 x.n.nodes, .slice x.n.pA x.n.rows.length x.n.pcap, .int .i64 x.n.noise, .int .i64 x.n.thr, .slice x.n.lA x.n.links.length x.n.lcap, .slice x.n.mA x.n.margin.length x.n.mcap, .int .i64 x.s.len, .int .i64 x.s.off, .slice x.s.A x.s.cells.length x.s.cap, .int .i64 x.f.1, .int .i64 x.f.2.1, .int .i64 x.f.2.2.1, .int .i64 x.f.2.2.2.1, .int .i64 x.f.2.2.2.2.1, .int .i64 x.f.2.2.2.2.2, .slice x.A x.r.length x.cap, .int .i64 0]
abbrev wayB (g : Nat) (x : WayM) : HP := blk g (.cells #[.int .i64 x.n.nodes, .slice x.n.pA x.n.rows.length x.n.pcap, .int .i64 x.n.noise, .int .i64 x.n.thr, .slice x.n.lA x.n.links.length x.n.lcap, .slice x.n.mA x.n.margin.length x.n.mcap, .int .i64 x.s.len, .int .i64 x.s.off, .slice x.s.A x.s.cells.length x.s.cap, .int .i64 x.f.1, .int .i64 x.f.2.1, .int .i64 x.f.2.2.1, .int .i64 x.f.2.2.2.1, .int .i64 x.f.2.2.2.2.1, .int .i64 x.f.2.2.2.2.2, .slice x.A x.r.length x.cap, .int .i64 0] 151 (0, 0))
structure WayM.In (B : Nat) (w0 : World) (H : List HP) (x : WayM) : Prop where
  n : x.n.In B w0 H
  s : Rd B w0 H x.s.A (x.s.cells.flatMap celF)
  r : Rd B w0 H x.A (x.r.flatMap numF)
  sl : x.s.cells.length ≤ 1000000000000
  rl : x.r.length ≤ 1000000000000
  rc : x.r.length ≤ x.cap
theorem WayM.In.cons {B : Nat} {w0 : World} {H : List HP} {x : WayM} {X : HP} (h : x.In B w0 H) : x.In B w0 (X :: H) := ⟨h.n.cons, h.s.cons, h.r.cons, h.sl, h.rl, h.rc⟩
theorem WayM.In.mono {B : Nat} {w0 : World} {H H' : List HP} {x : WayM} (h : x.In B w0 H) (hH : ∀ w, St B w0 H' w → St B w0 H w) : x.In B w0 H' := ⟨h.n.mono hH, h.s.mono hH, h.r.mono hH, h.sl, h.rl, h.rc⟩
theorem Yfy {nodes : Int} {f : Flw} (h : 2 ≤ nodes ∧ nodes ≤ 32) : ((YN nodes [f]).2 = 0 ↔ Xp nodes f = 0) := by
  unfold YN
  rw [if_neg (by omega), if_neg (by simp)]
  have e : YE nodes [f] 0 = Xp nodes f := by
    unfold YE
    show (if Xp nodes f ≠ 0 then Xp nodes f else if 0 < 0 ∧ _ then 5 else 0) = _
    by_cases h : Xp nodes f = 0
    · rw [if_neg (fun e => e h), if_neg (by omega), h]
    · rw [if_pos h]
  show (Yz _ 1 0).2 = 0 ↔ _
  unfold Yz Yz
  rw [e]
  split
  · rename_i h; exact ⟨fun _ => h, fun _ => rfl⟩
  · rename_i h; exact ⟨fun h2 => absurd h2 h, fun h2 => absurd h2 h⟩
set_option maxRecDepth 10000 in
set_option maxHeartbeats 4000000 in
theorem YdV (x : WayM) {B : Nat} {w0 : World} {H : List HP} {w : World} (ht : TabsB B w0) (hi : x.In B w0 H) (hw : St B w0 H w) :
    Calls Tryz.prog 85 [x.val].toArray w (Post B w0 fun v K => v = .int .i64 (wayE x.n.net x.s.sch x.f x.r) ∧ K = H) := by
  refine Yc Tryz.func85 Tryz.ntmps85 rfl rfl hw ?_
  have p1 := fun {H' : List HP} {w : World} (hin : x.n.In B w0 H') (hw : St B w0 H' w) => Y1 x.n hin hw
  have p2 := fun {H' : List HP} {w : World} (hr : Rd B w0 H' x.s.A (x.s.cells.flatMap celF)) (hw : St B w0 H' w) => Yes x.s ht hr hi.sl hw
  have p3 := fun {g cap : Nat} {H' : List HP} {w : World} (hm : blk g (.cells #[.int .i64 x.f.1, .int .i64 x.f.2.1, .int .i64 x.f.2.2.1, .int .i64 x.f.2.2.2.1, .int .i64 x.f.2.2.2.2.1, .int .i64 x.f.2.2.2.2.2] 68 (0, 0)) ∈ H') (hw : St B w0 H' w) => Y4 x.n.nodes [x.f] (Nat.le_of_ble_eq_true rfl) (A := some ⟨g, 0, none⟩) (cap := cap) (show Rd B w0 H' _ ([x.f].flatMap flwF) from Rd.blk hm) hw
  have p4 := fun {H' : List HP} {w : World} (hin : x.n.In B w0 H') (hr : Rd B w0 H' x.A (x.r.flatMap numF)) (hw : St B w0 H' w) => Qi x.n x.f.2.1 x.f.2.2.1 x.r (cap := x.cap) hin hr (Nat.le_trans hi.rl (by decide)) hi.rc hw
  have hn := hi.n
  have hs := hi.s
  have hr := hi.r
  have hfo := @Yfy x.n.net.nodes x.f
  have hok := fun h : YA x.n.net = 0 => (YZ h).n0
  have hok1 := fun h : YA x.n.net = 0 => (YZ h).n1
  have hpe : (Vs x.s.sch).2 = 0 ↔ XF x.s.sch = true := by
    unfold Vs
    cases hf : XF x.s.sch with
    | true => rw [if_neg (by decide)]; simp
    | false => rw [if_pos rfl]; simp
  unfold wayE
  rw [show x.n.net.nodes = x.n.nodes from rfl] at *
  rw [show x.s.sch.len = x.s.len from rfl] at *
  obtain ⟨c, hc⟩ : ∃ c, YA x.n.net = c := ⟨_, rfl⟩
  obtain ⟨⟨t, e⟩, he⟩ : ∃ e, Vs x.s.sch = e := ⟨_, rfl⟩
  obtain ⟨⟨i, a⟩, ha⟩ : ∃ a, YN x.n.nodes [x.f] = a := ⟨_, rfl⟩
  obtain ⟨k, hk⟩ : ∃ k, XC x.n.net x.f.2.1 x.f.2.2.1 x.r = k := ⟨_, rfl⟩
  rw [hc] at p1 hok hok1 ⊢
  rw [he] at p2 hpe
  rw [ha] at p3 hfo
  rw [hk] at p4 ⊢
  dsimp only at p2 p3 hpe hfo
  unfold WayM.val
  by_cases h1 : c = 0
  rotate_left
  · rw [if_pos (.inl h1)]
    repeat' (first | ((first | apply Ya en50 | apply Yb en50); exact za; exact rfl; exact fun _ hw => (p1 hn.cons hw)) | (apply Xh T; exact rfl; exact zm; exact rfl; exact zv; exact rfl; exact rfl) | apply (zs2 ?_) | (apply zg2; refine zs6 ?_) | (apply zg8; (refine zs16 ?_ ?_ <;> intro _ <;> try (exfalso; omega))) | (apply zg23; (refine zs52 ?_; intro _)) | apply (zs65 ?_) | apply (zs68 ?_) | apply (zs69 ?_) | apply (zs70 ?_) | (apply zg27; refine zs71 ?_) | apply (zs74 ?_) | apply (zs77 ?_) | fail)
    apply Yi H
    · exact zk
    apply Yd; exact rfl; exact rfl; exact ⟨rfl, rfl⟩
  subst h1
  have hfo := hfo ⟨hok rfl, hok1 rfl⟩
  by_cases h2 : e = 0
  rotate_left
  · rw [if_pos (.inr (.inl (by cases hf : XF x.s.sch with | false => rfl | true => exact absurd (hpe.2 hf) h2)))]
    repeat' (first | ((first | apply Ya en50 | apply Yb en50); exact za; exact rfl; exact fun _ hw => (p1 hn.cons hw)) | ((first | apply Ya en47 | apply Yb en47); exact za; exact rfl; exact fun _ hw => (p2 hs.cons hw)) | (apply Xh T; exact rfl; exact zm; exact rfl; exact zv; exact rfl; exact rfl) | apply (zs1 ?_) | apply (zs2 ?_) | (apply zg2; refine zs6 ?_) | apply (zs13 ?_) | (apply zg8; (refine zs16 ?_ ?_ <;> intro _ <;> try (exfalso; omega))) | (apply zg23; (refine zs52 ?_; intro _)) | apply (zs65 ?_) | apply (zs68 ?_) | apply (zs69 ?_) | apply (zs70 ?_) | (apply zg27; first | refine zs71 ?_ | refine zs72 ?_) | apply (zs74 ?_) | apply (zs76 ?_) | apply (zs77 ?_) | fail)
    apply Yi H
    · exact zk
    apply Yd; exact rfl; exact rfl; exact ⟨rfl, rfl⟩
  subst h2
  have hfe := hpe.1 rfl
  by_cases h3 : a = 0
  rotate_left
  · rw [if_pos (.inr (.inr (fun h => h3 (hfo.2 h))))]
    repeat' (first | ((first | apply Ya en50 | apply Yb en50); exact za; exact rfl; exact fun _ hw => (p1 hn.cons hw)) | ((first | apply Ya en47 | apply Yb en47); exact za; exact rfl; exact fun _ hw => (p2 hs.cons hw)) | ((first | apply Ya en51 | apply Yb en51); exact za; exact rfl; exact fun _ hw => (p3 zm hw)) | (apply Xh T; exact rfl; exact zm; exact rfl; exact zv; exact rfl; exact rfl) | apply (zs1 ?_) | apply (zs2 ?_) | (apply zg2; refine zs6 ?_) | (apply zg3; refine zs7 ?_) | apply (zs13 ?_) | (apply zg8; (refine zs16 ?_ ?_ <;> intro _ <;> try (exfalso; omega))) | (apply zg23; (refine zs52 ?_; intro _)) | (apply zg26; (refine zs56 ?_; intro _)) | apply (zs65 ?_) | apply (zs68 ?_) | apply (zs69 ?_) | apply (zs70 ?_) | (apply zg27; first | refine zs71 ?_ | refine zs72 ?_) | apply (zs74 ?_) | apply (zs76 ?_) | apply (zs77 ?_) | fail)
    apply Yi H
    · exact zk
    apply Yd; exact rfl; exact rfl; exact ⟨rfl, rfl⟩
  subst h3
  have hfz := hfo.1 rfl
  rw [if_neg (by rintro (h | h | h); exact h rfl; rw [hfe] at h; cases h; exact h hfz)]
  have hp1 : 1 ≤ x.f.2.2.2.1 := by
    unfold Xp at hfz
    split at hfz
    · cases hfz
    split at hfz
    · cases hfz
    omega
  have hsz : 1 ≤ x.s.len ∧ x.s.len ≤ 512 := by
    have := of_decide_eq_true (V3.1 hfe).sized
    exact ⟨this.1, this.2.1⟩
  rw [Int.tmod_eq_emod_of_nonneg (show 0 ≤ x.s.len by omega)]
  by_cases h4 : x.s.len % x.f.2.2.2.1 = 0
  rotate_left
  · rw [if_pos h4]
    repeat' (first | ((first | apply Ya en50 | apply Yb en50); exact za; exact rfl; exact fun _ hw => (p1 hn.cons hw)) | ((first | apply Ya en47 | apply Yb en47); exact za; exact rfl; exact fun _ hw => (p2 hs.cons hw)) | ((first | apply Ya en51 | apply Yb en51); exact za; exact rfl; exact fun _ hw => (p3 zm hw)) | (apply Xh T; exact rfl; exact zm; exact rfl; exact zv; exact rfl; exact rfl) | apply (zs1 ?_) | apply (zs2 ?_) | (apply zg2; refine zs6 ?_) | (apply zg3; refine zs7 ?_) | apply (zs13 ?_) | (apply zg8; (refine zs16 ?_ ?_ <;> intro _ <;> try (exfalso; omega))) | (apply zg17; refine zs37 ?_) | (apply zg23; (refine zs52 ?_; intro _)) | (apply zg26; (refine zs56 ?_; intro _)) | apply (zs65 ?_) | apply (zs68 ?_) | apply (zs69 ?_) | apply (zs70 ?_) | (apply zg27; first | refine zs71 ?_ | refine zs72 ?_) | apply (zs74 ?_) | apply (zs76 ?_) | apply (zs77 ?_) | fail)
    apply Yi H
    · exact zk
    apply Yd; exact rfl; exact rfl; exact ⟨rfl, rfl⟩
  rw [if_neg (fun h => h h4)]
  repeat' (first | ((first | apply Ya en50 | apply Yb en50); exact za; exact rfl; exact fun _ hw => (p1 hn.cons hw)) | ((first | apply Ya en47 | apply Yb en47); exact za; exact rfl; exact fun _ hw => (p2 hs.cons hw)) | ((first | apply Ya en51 | apply Yb en51); exact za; exact rfl; exact fun _ hw => (p3 zm hw)) | ((first | apply Ya Ybc | apply Yb Ybc); exact za; exact rfl; exact fun _ hw => (p4 hn.cons.cons hr.cons.cons hw)) | (apply Xh T; exact rfl; exact zm; exact rfl; exact zv; exact rfl; exact rfl) | apply (zs1 ?_) | apply (zs2 ?_) | (apply zg2; refine zs6 ?_) | (apply zg3; refine zs7 ?_) | apply (zs13 ?_) | (apply zg8; (refine zs16 ?_ ?_ <;> intro _ <;> try (exfalso; omega))) | (apply zg17; refine zs37 ?_) | (apply zg23; (refine zs52 ?_; intro _)) | (apply zg26; (refine zs56 ?_; intro _)) | apply (zs65 ?_) | apply (zs68 ?_) | apply (zs69 ?_) | apply (zs70 ?_) | (apply zg27; refine zs72 ?_) | apply (zs74 ?_) | apply (zs76 ?_) | fail)
  apply Yi H
  · exact zk
  apply Yd; exact rfl; exact rfl; exact ⟨rfl, rfl⟩
open Go.RowKit Go.Eng Go.Nw Go.Rt
theorem Yjw {n : Net} {s : Sch} {f : Flw} {r : List Int} (h : wayE n s f r = 0) : YA n = 0 ∧ XF s = true ∧ Xp n.nodes f = 0 ∧ s.len.tmod f.2.2.2.1 = 0 ∧ XC n f.2.1 f.2.2.1 r = 0 := by
  unfold wayE at h
  split at h
  · cases h
  rename_i h1
  split at h
  · cases h
  rename_i h2
  refine ⟨Decidable.byContradiction fun e => h1 (.inl e), ?_, Decidable.byContradiction fun e => h1 (.inr (.inr e)), Decidable.not_not.1 h2, h⟩
  cases hf : XF s with
  | true => rfl
  | false => exact absurd (.inr (.inl hf)) h1
theorem YdB {n : Net} {s : Sch} {f : Flw} {r : List Int} (h : (Y5 n s f r).2 = 0) : wayE n s f r = 0 ∧ ∃ b, Jo n s f r = some b ∧ Y5 n s f r = (b, 0) := by
  unfold Y5 at h ⊢
  by_cases h1 : wayE n s f r = 0
  · rw [if_neg (fun e => e h1)] at h ⊢
    cases hb : Jo n s f r with
    | none => rw [hb] at h; cases h
    | some b => exact ⟨h1, b, rfl, rfl⟩
  · rw [if_pos h1] at h
    exact absurd h h1
theorem YfV {q : List Rqs} {i : Nat} (h : i < q.length) : q[i]? = some (rqAt q i) := by
  unfold rqAt; rw [List.getD_eq_getElem?_getD, List.getElem?_eq_getElem h]; rfl
theorem YbF {l : List (List Int)} {i : Nat} (h : i < l.length) : l[i]? = some (rtAt l i) := by
  unfold rtAt; rw [List.getD_eq_getElem?_getD, List.getElem?_eq_getElem h]; rfl
theorem Yfd {n : Net} {x : Rqs} (h : rtsE n x = 0) : x.2.length = 1 ∨ x.2.length = 2 ∧ rtAt x.2 0 ≠ rtAt x.2 1 := by
  unfold rtsE at h
  split at h
  · cases h
  split at h
  · cases h
  split at h
  · exact absurd h (by assumption)
  split at h
  · cases h
  rename_i h1 h2 h3 h4
  by_cases h5 : x.2.length = 1
  · exact .inl h5
  · exact .inr ⟨by omega, fun e => h4 ⟨by omega, e⟩⟩
theorem Yh6 {n : Net} {q : List Rqs} {s : Sch} (h : (XS n q s).2.2 = 0) : XS n q s = (q.map (clmE n s), (-1, 0)) := by
  unfold XS at h ⊢
  split
  · rename_i h1; rw [if_pos h1] at h; exact absurd h h1
  rename_i h1
  rw [if_neg h1] at h
  split
  · rename_i h2; rw [if_pos h2] at h; cases h
  rename_i h2
  rw [if_neg h2] at h
  split
  · rename_i h3; rw [if_pos h3] at h; exact absurd h h3
  rfl
theorem YgQ {n : Net} {q : List Rqs} {s : Sch} (h : (XS n q s).2.2 ≠ 0) : (XS n q s).1 = [] ∧ -1 ≤ (XS n q s).2.1 ∧ (XS n q s).2.1 < q.length := by
  have k1 := @Up (YE n.nodes (Z3 q)) (Z3 q).length 0
  have k2 := @Up (fun i => rtsE n (rqAt q i)) q.length 0
  have k3 := @Up (fun i => if Zm n s (rqAt q i) = true then 15 else 0) q.length 0
  have hfl : (Z3 q).length = q.length := by unfold Z3; rw [List.length_map]
  rw [hfl] at k1
  unfold XS at h ⊢
  split
  · rename_i h1
    refine ⟨rfl, ?_⟩
    dsimp only
    unfold rqsE at h1 ⊢
    split
    · simp only; omega
    rename_i h2
    rw [if_neg h2] at h1
    split
    · rename_i h3
      unfold YN at h3 ⊢
      split
      · simp only; omega
      rename_i h4
      split
      · simp only; omega
      rename_i h5
      rw [hfl]
      rw [if_neg h4, if_neg h5, hfl] at h3
      have := @UP (YE n.nodes (Z3 q)) q.length 0
      omega
    · rename_i h3
      rw [if_neg h3] at h1
      omega
  rename_i h1
  rw [if_neg h1] at h
  split
  · have : (0 : Int) ≤ q.length := Int.natCast_nonneg _
    exact ⟨rfl, Int.le_refl _, by show (-1 : Int) < _; omega⟩
  rename_i h2
  rw [if_neg h2] at h
  split
  · rename_i h3
    exact ⟨rfl, k3.1, by show (Yz _ _ _).1 < _; omega⟩
  rename_i h3
  rw [if_neg h3] at h
  exact absurd rfl h
open Go.RowKit Go.Eng Go.Nw Go.Rt
structure Z6 (x : WayM) : Prop where
  ck : YA x.n.net = 0
  len : 2 ≤ x.r.length ∧ x.r.length ≤ 9
  good : ∀ i, i + 1 < x.r.length → YR x.n.net (x.r.getD i 0) (x.r.getD (i + 1) 0) = true
  per : 1 ≤ x.f.2.2.2.1 ∧ x.f.2.2.2.1 ≤ 512
  ph : 0 ≤ x.f.2.2.2.2.1 ∧ x.f.2.2.2.2.1 < x.f.2.2.2.1
  slen : 1 ≤ x.s.len ∧ x.s.len ≤ 512
  few : x.s.cells.length ≤ 512
theorem Yd7 {n : Net} {s t : Int} {r : List Int} (h : XC n s t r = 0) : YA n = 0 ∧ (2 ≤ r.length ∧ r.length ≤ 9) ∧ ∀ i, i + 1 < r.length → YR n (r.getD i 0) (r.getD (i + 1) 0) = true := by
  unfold XC at h
  by_cases h0 : JU n s t = 0
  rotate_left
  · rw [if_pos h0] at h; exact absurd h h0
  rw [if_neg (fun e => e h0)] at h
  have hck : YA n = 0 := by
    unfold JU at h0
    by_cases h1 : YA n = 0
    · exact h1
    · rw [if_pos h1] at h0; cases h0
  obtain ⟨h1, _, _, _, h2⟩ := Yg2 h
  refine ⟨hck, h1, fun i hi => ?_⟩
  unfold Jw at h2
  rw [List.any_eq_false] at h2
  have := h2 i (List.mem_range.2 (by omega))
  simpa using this
theorem Qh {x : WayM} (h : wayE x.n.net x.s.sch x.f x.r = 0) : Z6 x := by
  obtain ⟨_, h2, h3, _, h5⟩ := Yjw h
  obtain ⟨k1, k2, k3⟩ := Yd7 h5
  have hfr := V3.1 h2
  have hsz := of_decide_eq_true hfr.sized
  unfold Xp at h3
  split at h3
  · cases h3
  split at h3
  · cases h3
  exact ⟨k1, k2, k3, by omega, by omega, ⟨hsz.1, hsz.2.1⟩, hfr.few⟩
def ZD (x : WayM) : List (List Value) := (YJ x.n.net x.r).map fun l => [lkV l]
theorem Vl {n : Net} {r : List Int} {i : Nat} (h : i + 1 < r.length) : (YJ n r)[i]? = some (Z5 n r i) := by
  unfold YJ
  rw [List.getElem?_map, List.getElem?_range (by omega)]; rfl
theorem ZF {n : Net} {r : List Int} : (YJ n r).length = r.length - 1 := by unfold YJ; simp
set_option maxRecDepth 10000 in
set_option maxHeartbeats 4000000 in
theorem OB (x : WayM) (g : Nat) (hok : Z6 x) {B : Nat} {w0 : World} {HI : List HP} (hi : x.In B w0 HI) (hm : wayB g x ∈ HI) :
    YaZ Tryz.prog 285 [.pointer (some ⟨g, 0, none⟩)] (ZD x) B w0 HI := by
  refine Ycs Tryz.func285 Tryz.ntmps285 rfl rfl ?_
  intro l SS X hy L0 h0
  have hck := hok.ck
  have hlen := hok.len
  have p1 := fun {H' : List HP} {w : World} (a b : Int) (hin : x.n.In B w0 H') (hw : St B w0 H' w) => ZB x.n a b hin hw
  have hix : ∀ a b : Int, Z4 x.n.net a b = Yw x.n.net a b := fun a b => by unfold Z4; rw [if_neg (fun e => e hck)]
  unfold wayB at hm
  repeat' (first | apply (zs2 ?_) | apply (zs65 ?_) | apply (zs68 ?_) | apply (zs69 ?_) | apply (zs70 ?_) | apply (zs73 ?_) | fail)
  refine Yj (fun (y : Nat × List HP) => [(3, .int .i64 (y.1 + 1 : Nat)), (0, .func (.yield l) #[] #[]), (1, .pointer (some ⟨g, 0, none⟩))]) (fun y => many y.2 :: HI) (fun y => y.1 + 1 ≤ x.r.length ∧ SS y.1 y.2) (fun y => x.r.length - 1 - y.1) (0, L0) ⟨by show 0 + 1 ≤ _; omega, h0⟩ ?_ (fun w hw => hw) ?_
  · exact zu
  rintro ⟨i, L⟩ ⟨hile, hS⟩ K hK
  dsimp only at hile hS ⊢
  by_cases hlt : i + 1 < x.r.length
  · have hg := hok.good i hlt
    have hf := Us hg
    have hfl := XE hf
    have hlx : x.n.links[(Yw x.n.net (x.r.getD i 0) (x.r.getD (i + 1) 0)).toNat]? = some (lnk x.n.net (Yw x.n.net (x.r.getD i 0) (x.r.getD (i + 1) 0)).toNat) := Q5 x.n.net hfl
    have hla : Z5 x.n.net x.r i = lnk x.n.net (Yw x.n.net (x.r.getD i 0) (x.r.getD (i + 1) 0)).toNat := rfl
    have hg0 := Xj (l := x.r) (i := i) (by omega)
    have hg1 := Xj (l := x.r) (i := i + 1) (by omega)
    have hgi : ((((i + 1 : Nat) : Int) - 1).toNat) = i := by omega
    have hgi1 : (((i + 1 : Nat) : Int).toNat) = i + 1 := by omega
    have hll : (Yw x.n.net (x.r.getD i 0) (x.r.getD (i + 1) 0)).toNat < x.n.links.length := hfl
    have p2 := fun {H' : List HP} {w : World} (hin : x.n.In B w0 H') (hw : St B w0 H' w) => p1 (x.r.getD i 0) (x.r.getD (i + 1) 0) hin hw
    rw [hix] at p2
    have hx : (ZD x)[i]? = some [lkV (Z5 x.n.net x.r i)] := by
      unfold ZD; rw [List.getElem?_map, Vl hlt]; rfl
    rw [hla] at hx
    obtain ⟨a, ha⟩ : ∃ a, x.r.getD i 0 = a := ⟨_, rfl⟩
    obtain ⟨b, hb⟩ : ∃ b, x.r.getD (i + 1) 0 = b := ⟨_, rfl⟩
    rw [ha] at hg0 p2 hlx hll hf hx
    rw [hb] at hg1 p2 hlx hll hf hx
    obtain ⟨z, hz⟩ : ∃ z, Yw x.n.net a b = z := ⟨_, rfl⟩
    rw [hz] at p2 hlx hll hf hx
    obtain ⟨lk, hlk⟩ : ∃ k, lnk x.n.net z.toNat = k := ⟨_, rfl⟩
    rw [hlk] at hlx hx
    obtain ⟨R, hR1, hR2⟩ := Yf7 hm
    have hg0i : x.r[(((i + 1 : Nat) : Int) - 1).toNat]? = some a := by rw [hgi]; exact hg0
    have hg1i : x.r[((i + 1 : Nat) : Int).toNat]? = some b := by rw [hgi1]; exact hg1
    have hwb : ∀ w, St B w0 (many L :: (blk g (.cells #[.int .i64 x.n.nodes, .slice x.n.pA x.n.rows.length x.n.pcap, .int .i64 x.n.noise, .int .i64 x.n.thr, .slice x.n.lA x.n.links.length x.n.lcap, .slice x.n.mA x.n.margin.length x.n.mcap, .int .i64 x.s.len, .int .i64 x.s.off, .slice x.s.A x.s.cells.length x.s.cap, .int .i64 x.f.1, .int .i64 x.f.2.1, .int .i64 x.f.2.2.1, .int .i64 x.f.2.2.2.1, .int .i64 x.f.2.2.2.2.1, .int .i64 x.f.2.2.2.2.2, .slice x.A x.r.length x.cap, .int .i64 0] 151 (0, 0))) :: [many R]) w → St B w0 (many L :: HI) w := fun w hw => hw.perm (Perm.cons _ hR2)
    have hl0 : 0 ≤ lk.2.2 ∧ lk.2.2 ≤ 7 := by
      have h1 := (YZ hck).lk z.toNat hll
      rw [← hlk]; exact ⟨h1.l0, h1.l1⟩
    have hiK : x.In B w0 [wayB g x, many R] := hi.mono fun w hw => hw.perm hR2
    have hrr := hiK.r
    have hlr := hiK.n.lk
    unfold wayB at hiK hrr hlr
    refine UZ (blk g (.cells #[.int .i64 x.n.nodes, .slice x.n.pA x.n.rows.length x.n.pcap, .int .i64 x.n.noise, .int .i64 x.n.thr, .slice x.n.lA x.n.links.length x.n.lcap, .slice x.n.mA x.n.margin.length x.n.mcap, .int .i64 x.s.len, .int .i64 x.s.off, .slice x.s.A x.s.cells.length x.s.cap, .int .i64 x.f.1, .int .i64 x.f.2.1, .int .i64 x.f.2.2.1, .int .i64 x.f.2.2.2.1, .int .i64 x.f.2.2.2.2.1, .int .i64 x.f.2.2.2.2.2, .slice x.A x.r.length x.cap, .int .i64 0] 151 (0, 0)) :: many L :: [many R]) (fun w hw => hw.perm ((Perm.cons _ hR1).trans (Perm.swap _ _ _))) ?_
    repeat' (first | apply (zs1 ?_) | (apply zg2; refine zs6 ?_) | (apply zg3; refine zs7 ?_) | (apply zg4; refine zs9 ?_) | (apply (zs17 ?_ ?_) <;> intro _ <;> try (exfalso; omega)) | apply (zs65 ?_) | apply (zs68 ?_) | apply (zs69 ?_) | apply (zs70 ?_) | (apply zg27; refine zs71 ?_) | apply (zs73 ?_) | apply (zs76 ?_) | fail)
    apply Uk (.n1 0 (.n1 1 (.n1 2 (.n1 3 (.n1 4 (.n1 5 (.n1 6 (.n1 7 (.n1 8 (.n1 9 (.n1 10 (.n1 11 (.n1 12 (.n1 13 (.n1 14 (.n1 15 (.n2 16 (.n1 17 (.n1 18 (.n1 19 .done))) 19 (.n1 16 (.n1 17 (.n1 18 .done)))))))))))))))))))) [20] [true, false, true]
    kernel_rfl
    kernel_rfl
    exact zy
    (simp only [Yk, nthO]; rfl)
    repeat' (first | (apply Xh T; exact rfl; exact zm; exact rfl; exact zv; exact rfl; exact rfl) | apply (zs1 ?_) | (apply zg2; refine zs6 ?_) | (apply zg3; first | refine zs7 ?_ | refine zs60 ?_) | (apply zg5; refine zs57 ?_) | (apply zg14; refine zs31 ?_) | (apply zg24; (refine zs54 ?_; intro _)) | apply (zs65 ?_) | (apply Yo; exact zp) | apply (zs87 ?_) | (apply Yl; (repeat (first | with_reducible exact Yh | (with_reducible apply Yf; (repeat (first | with_reducible exact Yg | with_reducible apply Ye)))))) | apply (zs90 ?_) | apply (zs91 ?_ ?_) | (apply X0; (repeat (first | with_reducible exact Yh | (with_reducible apply Yf; (repeat (first | with_reducible exact Yg | with_reducible apply Ye)))))) | fail)
    all_goals (
      first | apply Ya en95 | apply Yb en95
      exact za
      exact rfl
      exact fun _ hw => (p2 (hiK.mono zk).n hw)
      repeat' (first | (refine Ycu 2 37 rfl rfl rfl (by rintro ⟨_, _, _, _, h, _⟩; cases h) ?_) | apply (zs1 ?_) | (apply zg2; refine zs6 ?_) | (apply zg3; first | refine zs7 ?_ | refine zs8 ?_ | refine zs61 ?_) | (apply zg5; refine zs57 ?_) | (apply zg13; refine zs30 ?_) | (apply zg22; first | refine zs50 ?_ | refine zs51 ?_) | (apply zg24; (refine zs54 ?_; intro _)) | apply (zs65 ?_) | (apply Yo; exact zp) | apply (zs68 ?_) | apply (zs69 ?_) | apply (zs70 ?_) | apply (zs87 ?_) | (apply Yl; (repeat (first | with_reducible exact Yh | (with_reducible apply Yf; (repeat (first | with_reducible exact Yg | with_reducible apply Ye)))))) | (apply Um; exact zp) | apply (zs90 ?_) | (apply X0; (repeat (first | with_reducible exact Yh | (with_reducible apply Yf; (repeat (first | with_reducible exact Yg | with_reducible apply Ye)))))) | apply (zs93 ?_) | apply (zs94 ?_) | fail)
      rename_i g5
      rw [show lk.2.2 + 0 = lk.2.2 from Int.add_zero _]
      apply Yi (blk g5 (.cells #[.int .i64 lk.1, .int .i64 lk.2.1, .int .i64 lk.2.2] 172 (0, 0)) :: many L :: HI)
      · intro w hw
        have h5 : St B w0 (blk g5 (.cells #[.int .i64 lk.1, .int .i64 lk.2.1, .int .i64 lk.2.2] 172 (0, 0)) :: many L :: blk g (.cells #[.int .i64 x.n.nodes, .slice x.n.pA x.n.rows.length x.n.pcap, .int .i64 x.n.noise, .int .i64 x.n.thr, .slice x.n.lA x.n.links.length x.n.lcap, .slice x.n.mA x.n.margin.length x.n.mcap, .int .i64 x.s.len, .int .i64 x.s.off, .slice x.s.A x.s.cells.length x.s.cap, .int .i64 x.f.1, .int .i64 x.f.2.1, .int .i64 x.f.2.2.1, .int .i64 x.f.2.2.2.1, .int .i64 x.f.2.2.2.2.1, .int .i64 x.f.2.2.2.2.2, .slice x.A x.r.length x.cap, .int .i64 0] 151 (0, 0)) :: [many R]) w := by
          revert w
          exact zk
        exact h5.perm (Perm.cons _ (Perm.cons _ hR2))
      have hY := hy _ _ hx [blk g5 (.cells #[.int .i64 lk.1, .int .i64 lk.2.1, .int .i64 lk.2.2] 172 (0, 0))] L hS
      apply YcJ _ _ (hy := hY)
      · exact OR
      · exact rfl
      · exact za
      · exact rfl
      · rintro ⟨_, _, _, _, h, _⟩; cases h
      · rintro _ ⟨L', hS', rfl⟩
        repeat' (first | apply (zs1 ?_) | apply (zs2 ?_) | (apply zg13; refine zs30 ?_) | (apply zg20; refine zs47 ?_) | apply (zs65 ?_) | apply (zs68 ?_) | apply (zs70 ?_) | (apply zg27; refine zs72 ?_) | apply (zs76 ?_) | apply (zs79 ?_) | fail)
        apply hK (i + 1, L')
        · exact ⟨by show i + 1 + 1 ≤ _; omega, hS'⟩
        · dsimp only; omega
        · exact zu
        · exact fun w hw => hw.tail
      · rintro _ ⟨L', hX', rfl⟩
        repeat' (first | (apply zg20; refine zs48 ?_) | apply (zs65 ?_) | apply (zs68 ?_) | (apply zg27; refine zs71 ?_) | apply (zs74 ?_) | apply (zs77 ?_) | apply (zs78 ?_) | fail)
        apply Yi (many L' :: HI)
        · exact fun w hw => hw.tail
        apply U4; exact rfl
        exact .inr ⟨L', hX', rfl⟩)
  · repeat' (first | apply (zs1 ?_) | (apply zg2; refine zs6 ?_) | (apply zg3; refine zs7 ?_) | (apply zg4; refine zs9 ?_) | (apply (zs17 ?_ ?_) <;> intro _ <;> try (exfalso; omega)) | apply (zs65 ?_) | apply (zs68 ?_) | apply (zs69 ?_) | apply (zs70 ?_) | (apply zg27; refine zs72 ?_) | apply (zs75 ?_) | apply (zs80 ?_) | apply (zs81 ?_) | fail)
    apply ZO; exact rfl
    have hl0 : i = (ZD x).length := by unfold ZD; rw [List.length_map, ZF]; omega
    rw [hl0] at hS
    exact .inl ⟨L, hS, rfl⟩
def Yiu (g : Nat) : Value := .func (.func 285) #[] #[.pointer (some ⟨g, 0, none⟩)]
theorem Q3 (x : WayM) {B : Nat} {w0 : World} {H : List HP} {w : World} (hw : St B w0 H w) :
    Calls Tryz.prog 248 [x.val].toArray w (Post B w0 fun v K => ∃ g, v = Yiu g ∧ K = wayB g x :: H) := by
  refine Yc Tryz.func248 Tryz.ntmps248 rfl rfl hw ?_
  unfold WayM.val
  repeat' (first | apply (zs2 ?_) | (apply zg23; (refine zs52 ?_; intro _)) | apply (zs65 ?_) | apply (zs68 ?_) | apply (zs69 ?_) | apply (zs70 ?_) | apply (zs74 ?_) | (apply zg29; (apply Ys; exact za ; exact rfl)) | fail)
  apply Yd; exact rfl; exact rfl
  exact ⟨_, rfl, rfl⟩
open Go.RowKit Go.Eng Go.Nw Go.Rt
theorem YcS (x : WayM) (l : Lk) (g gl : Nat) (c : Cel) {B : Nat} {w0 : World} {H : List HP} {w : World} (hm : wayB g x ∈ H) (hml : blk gl (.cells #[.int .i64 l.1, .int .i64 l.2.1, .int .i64 l.2.2] 172 (0, 0)) ∈ H) (hw : St B w0 H w) :
    Calls Tryz.prog 287 [celV c, .pointer (some ⟨g, 0, none⟩), .pointer (some ⟨gl, 0, none⟩)].toArray w (Post B w0 fun v K => v = .bool (!(onP x.f.1 l.1 l.2.1 c)) ∧ K = H) := by
  refine Yc Tryz.func287 Tryz.ntmps287 rfl rfl hw ?_
  unfold wayB at hm
  have hb : onP x.f.1 l.1 l.2.1 c = true ↔ c.2.2.2.2 = x.f.1 ∧ c.2.2.1 = l.1 ∧ c.2.2.2.1 = l.2.1 := by unfold onP UI YP toC; rw [decide_eq_true_eq]
  obtain ⟨b, hbe⟩ : ∃ b, onP x.f.1 l.1 l.2.1 c = b := ⟨_, rfl⟩
  rw [hbe] at hb ⊢
  repeat' (first | apply (zs1 ?_) | apply (zs2 ?_) | (apply zg1; first | refine zs3 ?_ | refine zs4 ?_) | (apply zg2; refine zs6 ?_) | (apply zg3; refine zs7 ?_) | (apply zg6; first | refine zs11 ?_ | refine zs12 ?_) | (apply zg8; (refine zs16 ?_ ?_ <;> intro _ <;> try (exfalso; omega))) | (apply zg23; (refine zs52 ?_; intro _)) | apply (zs65 ?_) | apply (zs68 ?_) | apply (zs69 ?_) | apply (zs70 ?_) | apply (zs74 ?_) | fail)
  all_goals (
    apply Yi H
    · exact zk
    apply Yd; exact rfl; exact rfl
    cases b <;> simp at hb <;> first | exact ⟨rfl, rfl⟩ | (exfalso; omega))
set_option maxRecDepth 10000 in
theorem Yd6 (x : WayM) (l : Lk) (hfew : x.s.cells.length ≤ 1000) {B : Nat} {w0 : World} {H : List HP} {w : World} (hr : Rd B w0 H x.s.A (x.s.cells.flatMap celF)) (hw : St B w0 H w) :
    Calls Tryz.prog 249 [x.val, lkV l].toArray w (Post B w0 fun v K => ∃ A cap, v = .slice A (V4 x.s.sch x.f.1 l).length cap ∧ K = cels A cap (V4 x.s.sch x.f.1 l) :: H) := by
  refine Yc Tryz.func249 Tryz.ntmps249 rfl rfl hw ?_
  unfold WayM.val lkV
  repeat' (first | apply (zs2 ?_) | (apply zg2; refine zs6 ?_) | (apply zg3; refine zs7 ?_) | (apply zg23; (refine zs52 ?_; intro _)) | apply (zs65 ?_) | apply (zs68 ?_) | apply (zs69 ?_) | apply (zs70 ?_) | fail)
  rename_i gw gl
  apply Yq _ en64
  exact za
  exact rfl
  exact fun _ hw => (YcV x.s.cells (by omega) hr.cons.cons (hw))
  rintro _ _ ⟨A', cap', rfl, rfl⟩
  repeat' (first | (apply zg29; (apply Ys; exact za ; exact rfl)) | fail)
  apply Yq _ Yj5
  exact za
  exact rfl
  exact fun _ hw => (Yc1 (fun c => !(onP x.f.1 l.1 l.2.1 c)) x.s.cells 287 [.pointer (some ⟨gw, 0, none⟩), .pointer (some ⟨gl, 0, none⟩)] Yj6 hfew (fun c _ X w hw => YcS x l gw gl c (List.mem_append_right _ (by unfold wayB; exact zm)) (List.mem_append_right _ zm) hw) (hw))
  rintro _ _ ⟨rfl, rfl⟩
  have e : x.s.cells.filter (fun c => !!(onP x.f.1 l.1 l.2.1 c)) = V4 x.s.sch x.f.1 l := List.filter_congr fun c _ => Bool.not_not _
  rw [e]
  repeat' (first | apply (zs2 ?_) | apply (zs65 ?_) | apply (zs68 ?_) | apply (zs74 ?_) | fail)
  apply Yi (cels A' cap' (V4 x.s.sch x.f.1 l) :: H)
  · exact zk
  apply Yd; exact rfl; exact rfl
  exact ⟨A', cap', rfl, rfl⟩
theorem V5 {x : WayM} (hok : Z6 x) {i : Nat} {l : Lk} (h : (YJ x.n.net x.r)[i]? = some l) : i + 1 < x.r.length ∧ 0 ≤ l.2.2 ∧ l.2.2 ≤ 7 := by
  have hi := (List.getElem?_eq_some_iff.1 h).1
  rw [ZF] at hi
  have hi : i + 1 < x.r.length := by omega
  rw [Vl hi] at h
  have hg := hok.good i hi
  have h1 := (YZ hok.ck).lk _ (XE (Us hg))
  have e := Option.some.inj h
  unfold Z5 at e
  have h2 := h1.l0; have h3 := h1.l1
  rw [e] at h2 h3
  exact ⟨hi, h2, h3⟩
theorem YbA {ls : List Lk} {i : Nat} {l : Lk} (h : ls[i]? = some l) : XA (ls.take (i + 1)) = XA (ls.take i) + YX l := by
  unfold XA
  rw [List.take_add_one, h, List.map_append, List.sum_append]
  simp
theorem Vk {x : WayM} {i : Nat} {args : List Value} (h : (ZD x)[i]? = some args) : ∃ l, (YJ x.n.net x.r)[i]? = some l ∧ args = [lkV l] := by
  unfold ZD at h
  rw [List.getElem?_map] at h
  cases hl : (YJ x.n.net x.r)[i]? with
  | none => rw [hl] at h; cases h
  | some l => rw [hl] at h; exact ⟨l, rfl, (Option.some.inj h).symm⟩
theorem Wq {x : WayM} (hok : Z6 x) : ∀ i, XA ((YJ x.n.net x.r).take i) ≤ 8 * i
  | 0 => Nat.le_refl _
  | i + 1 => by
    have ih := Wq hok i
    cases h : (YJ x.n.net x.r)[i]? with
    | none =>
      have := List.getElem?_eq_none_iff.1 h
      rw [List.take_of_length_le (by omega)] at ih ⊢
      omega
    | some l =>
      rw [YbA h]
      have := V5 hok h
      unfold YX
      omega
set_option maxRecDepth 10000 in
set_option maxHeartbeats 1000000 in
theorem Ydp (x : WayM) (hok : Z6 x) {B : Nat} {w0 : World} {H : List HP} {w : World} (hi : x.In B w0 H) (hw : St B w0 H w) :
    Calls Tryz.prog 208 [x.val].toArray w (Post B w0 fun v K => v = .int .i64 (XA (YJ x.n.net x.r)) ∧ K = H) := by
  refine Zd Tryz.func208 Tryz.ntmps208 rfl rfl hw ?_
  unfold WayM.val
  repeat' (first | apply (zs2 ?_) | (apply zg3; refine zs8 ?_) | (apply zg22; refine zs50 ?_) | (apply zg23; (refine zs52 ?_; intro _)) | (apply zg24; (refine zs54 ?_; intro _)) | apply (zs65 ?_) | apply (zs68 ?_) | apply (zs69 ?_) | apply (zs70 ?_) | fail)
  rename_i g gN
  apply Yq _ YiV
  exact za
  exact rfl
  exact fun _ hw => (Q3 x (hw))
  rintro _ _ ⟨g2, rfl, rfl⟩
  repeat' (first | apply (zs65 ?_) | apply (zs68 ?_) | apply (zs73 ?_) | fail)
  have hl9 := hok.len
  have hiK : x.In B w0 (wayB g2 x :: wayB g x :: H) := hi.cons.cons
  refine Zf (gf := 285) (lb := [.pointer (some ⟨g2, 0, none⟩)]) (xs := ZD x) (wayB g2 x :: wayB g x :: H) (fun z : Int => [blk gN (.cells #[.int .i64 z] 3 (0, 0))]) (fun i z => z = (XA ((YJ x.n.net x.r).take i) : Int)) (fun _ _ => False) 0 rfl YiY (OB x g2 hok hiK (.head _)) rfl ?_ (by kernel_rfl) (by kernel_rfl) ?_ rfl ?_ ?_ (fun _ _ _ h => h.elim)
  · intro args h
    obtain ⟨k, hk⟩ := List.mem_iff_getElem?.1 h
    obtain ⟨l, _, rfl⟩ := Vk hk
    rfl
  · unfold wayB
    simp only [List.cons_append, List.nil_append]
    exact zk
  · rintro l k args R z hk hI
    obtain ⟨lk, hlk, rfl⟩ := Vk hk
    have hbd := V5 hok hlk
    have hne := Wq hok k
    have hst := YbA hlk
    try dsimp only at hI
    dsimp only [Uf, List.cons_append, List.nil_append]
    unfold lkV
    repeat' (first | (apply zg22; refine zs51 ?_) | (apply zg24; (refine zs54 ?_; intro _)) | apply (zs65 ?_) | apply (zs70 ?_) | fail)
    apply JN (Ye Yg)
    intro R'
    unfold wayB
    repeat' (first | (apply zg2; refine zs6 ?_) | (apply zg3; refine zs7 ?_) | (apply zg13; refine zs30 ?_) | (apply zg22; refine zs50 ?_) | apply (zs65 ?_) | apply (zs70 ?_) | apply (zs73 ?_) | apply (zs79 ?_) | fail)
    apply Va (z + (lk.2.2 + 1))
    · show z + (lk.2.2 + 1) = _
      rw [hI, hst]
      unfold YX
      omega
    · dsimp only [List.cons_append, List.nil_append]
      exact zk
  · rintro D z hI
    try dsimp only at hI
    have hle : (ZD x).length = (YJ x.n.net x.r).length := by unfold ZD; rw [List.length_map]
    rw [hle, List.take_length] at hI
    dsimp only [List.cons_append, List.nil_append]
    unfold wayB
    repeat' (first | apply (zs2 ?_) | (apply zg3; refine zs7 ?_) | apply (zs65 ?_) | apply (zs68 ?_) | apply (zs69 ?_) | apply (zs70 ?_) | apply (zs74 ?_) | apply (zs79 ?_) | fail)
    apply ZP Yg
    apply VQ_m
    apply Yi H
    · exact zk
    apply Yd; exact rfl; exact rfl
    exact ⟨by rw [hI], rfl⟩
open Go.RowKit Go.Eng Go.Nw Go.Rt
theorem XP (l m : List Int) (hlen : l.length ≤ 1000000000000) (_hlen2 : m.length ≤ 1000000000000) {A A2 : Option Addr} {cap cap2 B : Nat} {w0 : World} {H : List HP} {w : World} (hr : Rd B w0 H A (l.flatMap numF)) (hr2 : Rd B w0 H A2 (m.flatMap numF)) (hw : St B w0 H w) :
    Calls Tryz.prog 126 [.slice A l.length cap, .slice A2 m.length cap2].toArray w (Post B w0 fun u K => u = .bool (decide (l = m)) ∧ K = H) := by
  refine Yc Tryz.func126 Tryz.ntmps126 rfl rfl hw ?_
  by_cases hll : l.length = m.length
  rotate_left
  · repeat' (first | apply (zs1 ?_) | apply (zs2 ?_) | (apply zg4; refine zs9 ?_) | (apply zg8; (refine zs16 ?_ ?_ <;> intro _ <;> try (exfalso; omega))) | apply (zs65 ?_) | apply (zs68 ?_) | apply (zs69 ?_) | apply (zs70 ?_) | (apply zg27; refine zs71 ?_) | apply (zs74 ?_) | apply (zs77 ?_) | fail)
    apply Yd; exact rfl; exact rfl
    exact ⟨by rw [decide_eq_false fun e => hll (by rw [e])], rfl⟩
  repeat' (first | apply (zs1 ?_) | apply (zs2 ?_) | (apply zg4; refine zs9 ?_) | (apply zg8; (refine zs16 ?_ ?_ <;> intro _ <;> try (exfalso; omega))) | apply (zs65 ?_) | apply (zs68 ?_) | apply (zs69 ?_) | apply (zs70 ?_) | (apply zg27; refine zs72 ?_) | apply (zs73 ?_) | apply (zs76 ?_) | fail)
  refine Yj (fun (k : Nat) => [(5, .int .i64 k), (0, .slice A l.length cap), (1, .slice A2 m.length cap2)]) (fun _ => H) (fun k => k ≤ l.length ∧ l.take k = m.take k) (fun k => l.length - k) 0 ⟨Nat.zero_le _, by simp⟩ ?_ (fun w hw => hw) ?_
  · exact zu
  rintro k ⟨hk, hi⟩ K hK
  by_cases hlt : k < l.length
  · obtain ⟨a, ha⟩ : ∃ a, l[k]? = some a := ⟨_, List.getElem?_eq_getElem hlt⟩
    obtain ⟨b, hb⟩ : ∃ b, m[k]? = some b := ⟨_, List.getElem?_eq_getElem (by omega)⟩
    by_cases hab : a = b
    · repeat' (first | apply (zs1 ?_) | apply (zs2 ?_) | (apply zg3; refine zs60 ?_) | (apply zg4; refine zs9 ?_) | (apply zg5; refine zs57 ?_) | (apply zg8; (refine zs16 ?_ ?_ <;> intro _ <;> try (exfalso; omega))) | (apply (zs17 ?_ ?_) <;> intro _ <;> try (exfalso; omega)) | (apply zg13; refine zs30 ?_) | apply (zs65 ?_) | apply (zs66 ?_) | apply (zs68 ?_) | apply (zs69 ?_) | apply (zs70 ?_) | (apply zg27; first | refine zs71 ?_ | refine zs72 ?_) | apply (zs73 ?_) | apply (zs76 ?_) | apply (zs79 ?_) | (apply zg28; refine zs83 ?_) | fail)
      apply hK (k + 1)
      · exact ⟨by omega, by rw [Ji ha, Ji hb, hi, hab]⟩
      · omega
      · exact zu
      · exact fun w hw => hw
    · repeat' (first | apply (zs1 ?_) | apply (zs2 ?_) | (apply zg3; refine zs60 ?_) | (apply zg4; refine zs9 ?_) | (apply zg5; refine zs57 ?_) | (apply zg8; (refine zs16 ?_ ?_ <;> intro _ <;> try (exfalso; omega))) | (apply (zs17 ?_ ?_) <;> intro _ <;> try (exfalso; omega)) | apply (zs65 ?_) | apply (zs66 ?_) | apply (zs68 ?_) | apply (zs69 ?_) | apply (zs70 ?_) | (apply zg27; refine zs71 ?_) | apply (zs73 ?_) | apply (zs74 ?_) | apply (zs76 ?_) | apply (zs77 ?_) | apply (zs78 ?_) | (apply zg28; refine zs83 ?_) | fail)
      apply Yd; exact rfl; exact rfl
      exact ⟨by rw [decide_eq_false fun e => by rw [e, hb] at ha; exact hab (Option.some.inj ha).symm], rfl⟩
  · repeat' (first | apply (zs1 ?_) | apply (zs2 ?_) | (apply zg4; refine zs9 ?_) | (apply (zs17 ?_ ?_) <;> intro _ <;> try (exfalso; omega)) | apply (zs65 ?_) | apply (zs68 ?_) | apply (zs69 ?_) | apply (zs70 ?_) | (apply zg27; refine zs72 ?_) | apply (zs74 ?_) | apply (zs75 ?_) | apply (zs80 ?_) | apply (zs81 ?_) | fail)
    apply Yd; exact rfl; exact rfl
    rw [List.take_of_length_le (by omega), List.take_of_length_le (by omega)] at hi
    exact ⟨by rw [decide_eq_true hi], rfl⟩
theorem O3 (l m : List RowM) (hlen : l.length ≤ 1000000000000) (_hlen2 : m.length ≤ 1000000000000) (hl2 : ∀ r ∈ l, r.xs.length ≤ 1000000000000) (hm2 : ∀ r ∈ m, r.xs.length ≤ 1000000000000) {A A2 : Option Addr} {cap cap2 B : Nat} {w0 : World} {H : List HP} {w : World} (hr : Rd B w0 H A (l.flatMap rowF)) (hr2 : Rd B w0 H A2 (m.flatMap rowF)) (hrl : ∀ r ∈ l, Rd B w0 H r.A (r.xs.flatMap numF)) (hrm : ∀ r ∈ m, Rd B w0 H r.A (r.xs.flatMap numF)) (hw : St B w0 H w) :
    Calls Tryz.prog 129 [.slice A l.length cap, .slice A2 m.length cap2].toArray w (Post B w0 fun u K => u = .bool (decide (l.map (·.xs) = m.map (·.xs))) ∧ K = H) := by
  refine Yc Tryz.func129 Tryz.ntmps129 rfl rfl hw ?_
  by_cases hll : l.length = m.length
  rotate_left
  · repeat' (first | apply (zs1 ?_) | apply (zs2 ?_) | (apply zg4; refine zs9 ?_) | (apply zg8; (refine zs16 ?_ ?_ <;> intro _ <;> try (exfalso; omega))) | apply (zs65 ?_) | apply (zs68 ?_) | apply (zs69 ?_) | apply (zs70 ?_) | (apply zg27; refine zs71 ?_) | apply (zs74 ?_) | apply (zs77 ?_) | fail)
    apply Yd; exact rfl; exact rfl
    exact ⟨by rw [decide_eq_false fun e => hll (by have := congrArg List.length e; simpa using this)], rfl⟩
  repeat' (first | apply (zs1 ?_) | apply (zs2 ?_) | (apply zg4; refine zs9 ?_) | (apply zg8; (refine zs16 ?_ ?_ <;> intro _ <;> try (exfalso; omega))) | apply (zs65 ?_) | apply (zs68 ?_) | apply (zs69 ?_) | apply (zs70 ?_) | (apply zg27; refine zs72 ?_) | apply (zs73 ?_) | apply (zs76 ?_) | fail)
  refine Yj (fun (k : Nat) => [(5, .int .i64 k), (0, .slice A l.length cap), (1, .slice A2 m.length cap2)]) (fun _ => H) (fun k => k ≤ l.length ∧ (l.take k).map (·.xs) = (m.take k).map (·.xs)) (fun k => l.length - k) 0 ⟨Nat.zero_le _, by simp⟩ ?_ (fun w hw => hw) ?_
  · exact zu
  rintro k ⟨hk, hi⟩ K hK
  by_cases hlt : k < l.length
  · obtain ⟨a, ha⟩ : ∃ a, l[k]? = some a := ⟨_, List.getElem?_eq_getElem hlt⟩
    obtain ⟨b, hb⟩ : ∃ b, m[k]? = some b := ⟨_, List.getElem?_eq_getElem (by omega)⟩
    have ham := List.mem_of_getElem? ha
    have hbm := List.mem_of_getElem? hb
    have hss := fun {w : World} (hw : St B w0 H w) => XP a.xs b.xs (cap := a.cap) (cap2 := b.cap) (hl2 a ham) (hm2 b hbm) (hrl a ham) (hrm b hbm) hw
    by_cases hab : a.xs = b.xs
    · rw [decide_eq_true hab] at hss
      repeat' (first | ((first | apply Ya Xr | apply Yb Xr); exact za; exact rfl; exact fun _ hw => (hss hw)) | apply (zs1 ?_) | apply (zs2 ?_) | (apply zg3; refine zs60 ?_) | (apply zg4; refine zs9 ?_) | (apply zg5; refine zs57 ?_) | (apply (zs17 ?_ ?_) <;> intro _ <;> try (exfalso; omega)) | (apply zg13; refine zs30 ?_) | (apply zg20; refine zs47 ?_) | apply (zs65 ?_) | apply (zs66 ?_) | apply (zs68 ?_) | apply (zs69 ?_) | apply (zs70 ?_) | (apply zg27; first | refine zs71 ?_ | refine zs72 ?_) | apply (zs73 ?_) | apply (zs76 ?_) | apply (zs79 ?_) | (apply zg28; refine zs84 ?_) | fail)
      apply hK (k + 1)
      · exact ⟨by omega, by rw [List.take_add_one, List.take_add_one, ha, hb, List.map_append, List.map_append, hi]; simp [hab]⟩
      · omega
      · exact zu
      · exact fun w hw => hw
    · rw [decide_eq_false hab] at hss
      repeat' (first | ((first | apply Ya Xr | apply Yb Xr); exact za; exact rfl; exact fun _ hw => (hss hw)) | apply (zs1 ?_) | apply (zs2 ?_) | (apply zg3; refine zs60 ?_) | (apply zg4; refine zs9 ?_) | (apply zg5; refine zs57 ?_) | (apply (zs17 ?_ ?_) <;> intro _ <;> try (exfalso; omega)) | (apply zg20; refine zs48 ?_) | apply (zs65 ?_) | apply (zs66 ?_) | apply (zs68 ?_) | apply (zs69 ?_) | apply (zs70 ?_) | (apply zg27; refine zs71 ?_) | apply (zs73 ?_) | apply (zs74 ?_) | apply (zs76 ?_) | apply (zs77 ?_) | apply (zs78 ?_) | (apply zg28; refine zs84 ?_) | fail)
      apply Yd; exact rfl; exact rfl
      have hne : ¬ (l.map (·.xs) = m.map (·.xs)) := fun e => by
        have h1 : (l.map (·.xs))[k]? = (m.map (·.xs))[k]? := by rw [e]
        rw [List.getElem?_map, List.getElem?_map, ha, hb] at h1
        exact hab (Option.some.inj h1)
      exact ⟨by rw [decide_eq_false hne], rfl⟩
  · repeat' (first | apply (zs1 ?_) | apply (zs2 ?_) | (apply zg4; refine zs9 ?_) | (apply (zs17 ?_ ?_) <;> intro _ <;> try (exfalso; omega)) | apply (zs65 ?_) | apply (zs68 ?_) | apply (zs69 ?_) | apply (zs70 ?_) | (apply zg27; refine zs72 ?_) | apply (zs74 ?_) | apply (zs75 ?_) | apply (zs80 ?_) | apply (zs81 ?_) | fail)
    apply Yd; exact rfl; exact rfl
    rw [List.take_of_length_le (by omega), List.take_of_length_le (by omega)] at hi
    exact ⟨by rw [decide_eq_true hi], rfl⟩
def rowQ (r : RowM) : HP := ints r.A r.cap r.xs
open Go.RowKit Go.Eng Go.Nw Go.Rt
structure RqM where
  f : Flw
  A : Option Addr
  cap : Nat
  rows : List RowM
def rqF (x : RqM) : List Value := [.int .i64 x.f.1, .int .i64 x.f.2.1, .int .i64 x.f.2.2.1, .int .i64 x.f.2.2.2.1, .int .i64 x.f.2.2.2.2.1, .int .i64 x.f.2.2.2.2.2, .slice x.A x.rows.length x.cap]
def rqV (x : RqM) : Value := .agg #[.int .i64 x.f.1, .int .i64 x.f.2.1, .int .i64 x.f.2.2.1, .int .i64 x.f.2.2.2.1, .int .i64 x.f.2.2.2.2.1, .int .i64 x.f.2.2.2.2.2, .slice x.A x.rows.length x.cap]
def RqM.rq (x : RqM) : Rqs := (x.f, x.rows.map (·.xs))
abbrev netA (g : Nat) (n : NetM) : HP := blk g (.cells #[.int .i64 n.nodes, .slice n.pA n.rows.length n.pcap, .int .i64 n.noise, .int .i64 n.thr, .slice n.lA n.links.length n.lcap, .slice n.mA n.margin.length n.mcap] 26 (0, 0))
abbrev schA (g : Nat) (s : SchM) : HP := blk g (.cells #[.int .i64 s.len, .int .i64 s.off, .slice s.A s.cells.length s.cap] 30 (0, 0))
abbrev rqA (g : Nat) (x : RqM) : HP := blk g (.cells #[.int .i64 x.f.1, .int .i64 x.f.2.1, .int .i64 x.f.2.2.1, .int .i64 x.f.2.2.2.1, .int .i64 x.f.2.2.2.2.1, .int .i64 x.f.2.2.2.2.2, .slice x.A x.rows.length x.cap] 70 (0, 0))
structure RqM.In (B : Nat) (w0 : World) (H : List HP) (x : RqM) : Prop where
  rt : Rd B w0 H x.A (x.rows.flatMap rowF)
  rw_ : ∀ r ∈ x.rows, Rd B w0 H r.A (r.xs.flatMap numF)
  ln : x.rows.length ≤ 1000000000000
  rl : ∀ r ∈ x.rows, r.xs.length ≤ 1000000000000 ∧ r.xs.length ≤ r.cap
theorem RqM.In.mono {B : Nat} {w0 : World} {H H' : List HP} {x : RqM} (h : x.In B w0 H) (hH : ∀ w, St B w0 H' w → St B w0 H w) : x.In B w0 H' := ⟨h.rt.mono hH, fun r hr => (h.rw_ r hr).mono hH, h.ln, h.rl⟩
theorem RqM.In.cons {B : Nat} {w0 : World} {H : List HP} {X : HP} {x : RqM} (h : x.In B w0 H) : x.In B w0 (X :: H) := h.mono fun _ hw => hw.tail
structure QIn (B : Nat) (w0 : World) (H : List HP) (A : Option Addr) (q : List RqM) : Prop where
  rd : Rd B w0 H A (q.flatMap rqF)
  x : ∀ x ∈ q, x.In B w0 H
  ln : q.length ≤ 1000000000000
theorem QIn.mono {B : Nat} {w0 : World} {H H' : List HP} {A : Option Addr} {q : List RqM} (h : QIn B w0 H A q) (hH : ∀ w, St B w0 H' w → St B w0 H w) : QIn B w0 H' A q := ⟨h.rd.mono hH, fun x hx => (h.x x hx).mono hH, h.ln⟩
theorem QIn.cons {B : Nat} {w0 : World} {H : List HP} {X : HP} {A : Option Addr} {q : List RqM} (h : QIn B w0 H A q) : QIn B w0 (X :: H) A q := h.mono fun _ hw => hw.tail
structure ClM where
  flow : Int
  rA : Option Addr
  rcap : Nat
  rs : List RowM
  bA : Option Addr
  bcap : Nat
  bs : List Int
  wA : Option Addr
  wcap : Nat
  ws : List Int
  sA : Option Addr
  scap : Nat
  ss : List RowM
def clF (c : ClM) : List Value := [.int .i64 c.flow, .slice c.rA c.rs.length c.rcap, .slice c.bA c.bs.length c.bcap, .slice c.wA c.ws.length c.wcap, .slice c.sA c.ss.length c.scap]
def clV (c : ClM) : Value := .agg #[.int .i64 c.flow, .slice c.rA c.rs.length c.rcap, .slice c.bA c.bs.length c.bcap, .slice c.wA c.ws.length c.wcap, .slice c.sA c.ss.length c.scap]
def ClM.clm (c : ClM) : Clm := ⟨c.flow, c.rs.map (·.xs), c.bs, c.ws, c.ss.map (·.xs)⟩
structure ClM.In (B : Nat) (w0 : World) (H : List HP) (c : ClM) : Prop where
  rt : Rd B w0 H c.rA (c.rs.flatMap rowF)
  rw_ : ∀ r ∈ c.rs, Rd B w0 H r.A (r.xs.flatMap numF)
  bd : Rd B w0 H c.bA (c.bs.flatMap numF)
  ws : Rd B w0 H c.wA (c.ws.flatMap numF)
  st : Rd B w0 H c.sA (c.ss.flatMap rowF)
  sw : ∀ r ∈ c.ss, Rd B w0 H r.A (r.xs.flatMap numF)
  ln : c.rs.length ≤ 1000000000000 ∧ c.bs.length ≤ 1000000000000 ∧ c.ws.length ≤ 1000000000000 ∧ c.ss.length ≤ 1000000000000
  rl : ∀ r ∈ c.rs, r.xs.length ≤ 1000000000000
  sl : ∀ r ∈ c.ss, r.xs.length ≤ 1000000000000
theorem ClM.In.mono {B : Nat} {w0 : World} {H H' : List HP} {c : ClM} (h : c.In B w0 H) (hH : ∀ w, St B w0 H' w → St B w0 H w) : c.In B w0 H' :=
  ⟨h.rt.mono hH, fun r hr => (h.rw_ r hr).mono hH, h.bd.mono hH, h.ws.mono hH, h.st.mono hH, fun r hr => (h.sw r hr).mono hH, h.ln, h.rl, h.sl⟩
theorem ClM.In.cons {B : Nat} {w0 : World} {H : List HP} {X : HP} {c : ClM} (h : c.In B w0 H) : c.In B w0 (X :: H) := h.mono fun _ hw => hw.tail
structure CIn (B : Nat) (w0 : World) (H : List HP) (A : Option Addr) (c : List ClM) : Prop where
  rd : Rd B w0 H A (c.flatMap clF)
  x : ∀ x ∈ c, x.In B w0 H
  ln : c.length ≤ 1000000000000
theorem CIn.mono {B : Nat} {w0 : World} {H H' : List HP} {A : Option Addr} {c : List ClM} (h : CIn B w0 H A c) (hH : ∀ w, St B w0 H' w → St B w0 H w) : CIn B w0 H' A c := ⟨h.rd.mono hH, fun x hx => (h.x x hx).mono hH, h.ln⟩
theorem CIn.cons {B : Nat} {w0 : World} {H : List HP} {X : HP} {A : Option Addr} {c : List ClM} (h : CIn B w0 H A c) : CIn B w0 (X :: H) A c := h.mono fun _ hw => hw.tail
def clP (c : ClM) : List HP := [sl 72 1 c.rA c.rs.length c.rcap (c.rs.flatMap rowF), many (c.rs.map rowQ), nrs c.bA c.bcap c.bs, nrs c.wA c.wcap c.ws, sl 24 1 c.sA c.ss.length c.scap (c.ss.flatMap rowF), many (c.ss.map rowQ)]
def clQ (c : ClM) : HP := many (clP c)
def nilC (f : Int) : ClM := ⟨f, none, 0, [], none, 0, [], none, 0, [], none, 0, []⟩
theorem Yjf {c : ClM} {B : Nat} {w0 : World} {H : List HP} (hm : clQ c ∈ H) (hl : (c.rs.length ≤ 1000000000000 ∧ c.bs.length ≤ 1000000000000 ∧ c.ws.length ≤ 1000000000000 ∧ c.ss.length ≤ 1000000000000) ∧ (∀ r ∈ c.rs, r.xs.length ≤ 1000000000000) ∧ ∀ r ∈ c.ss, r.xs.length ≤ 1000000000000) : c.In B w0 H := by
  have hb : ∀ w, St B w0 H w → St B w0 (clP c) w := fun w hw => hw.inM hm
  refine ClM.In.mono (H := clP c) ?_ hb
  unfold clP
  refine ⟨.sl (.head _), fun r hr => ?_, .sl (.tail _ (.tail _ (.head _))), .sl (.tail _ (.tail _ (.tail _ (.head _)))), .sl (.tail _ (.tail _ (.tail _ (.tail _ (.head _))))), fun r hr => ?_, hl.1, hl.2.1, hl.2.2⟩
  · exact Rd.many (L := c.rs.map rowQ) (.tail _ (.head _)) (List.mem_map_of_mem hr)
  · exact Rd.many (L := c.ss.map rowQ) (.tail _ (.tail _ (.tail _ (.tail _ (.tail _ (.head _)))))) (List.mem_map_of_mem hr)
theorem Ub {B : Nat} {w0 w : World} {H : List HP} (f : Int) (h : St B w0 H w) : St B w0 (clQ (nilC f) :: H) w := by
  unfold clQ clP nilC
  dsimp only [List.flatMap_nil, List.map_nil, List.length_nil]
  have h1 := (h.perm (.noMany H)).nilSlice 24 1
  have h2 := (((h1.nilSlice 3 1).nilSlice 3 1).perm (.noMany _)).nilSlice 72 1
  exact h2.perm (.close [_, _, _, _, _, _] H)
open Go.ChangeShapes Go.WideShapes Go.ChangeAt Go.RowKit Go.Eng Go.Nw Go.Rt
section
variable {H : Type} {enc : TypeId × Value → H} {W : World} {spare : Nat → Bool} {held : Bool}
structure RtG (W : World) (r : RowM) : Prop where
  old : Old W r.A (r.xs.flatMap numF)
  len : r.xs.length ≤ 9223372036854775807
  cap : r.xs.length ≤ r.cap
  good : ∀ z ∈ r.xs, I64 z
theorem Yhi : Opn enc Tryz.prog W spare held 72 rowF (RtG W) :=
  Vo (Zp (q := 1) Tryz.underlying72 (by kernel_rfl) (by decide) op_i) Yfb (fun _ => rfl) (fun _ h => ⟨h.old, Nat.le_trans h.len maxL, h.cap, h.good⟩)
theorem Ycg : Opn enc Tryz.prog W spare held 24 rowF (RtG W) :=
  Vo Ycf Yfb (fun _ => rfl) (fun _ h => ⟨h.old, Nat.le_trans h.len maxL, h.cap, h.good⟩)
theorem YbB : Opn enc Tryz.prog W spare held 59 (fun s : SlM RowM => [s.val]) (SlG W rowF (RtG W)) := Zp (q := 1) Tryz.underlying59 (by kernel_rfl) (by decide) Yhi
theorem Yhh : Opn enc Tryz.prog W spare held 22 (fun s : SlM RowM => [s.val]) (SlG W rowF (RtG W)) := Zp (q := 1) Tryz.underlying22 (by kernel_rfl) (by decide) Ycg
structure RqG (W : World) (x : RqM) : Prop where
  f : FlwG x.f
  old : Old W x.A (x.rows.flatMap rowF)
  len : x.rows.length ≤ 9223372036854775807
  cap : x.rows.length ≤ x.cap
  good : ∀ r ∈ x.rows, RtG W r
theorem Yep : Opn enc Tryz.prog W spare held 70 rqF (RqG W) :=
  Vo (ZH (ts := [68, 59]) (by kernel_rfl) (YD Yih (YD YbB Vf)))
    (fun x => ⟨x.1, x.2.1.A, x.2.1.cap, x.2.1.xs⟩) (fun x => by simp [rqF, flwF, SlM.val]) (fun x h => by
      obtain ⟨h1, h2, _⟩ := h
      exact ⟨h1, h2.old, Nat.le_trans h2.len maxL, h2.cap, h2.good⟩)
theorem Ydr : Opn enc Tryz.prog W spare held 45 (fun s : SlM RqM => [s.val]) (SlG W rqF (RqG W)) := Zp (q := 7) Tryz.underlying45 (by kernel_rfl) (by decide) Yep
structure ClG (W : World) (c : ClM) : Prop where
  f : I64 c.flow
  rt : Old W c.rA (c.rs.flatMap rowF)
  rg : ∀ r ∈ c.rs, RtG W r
  bd : RtG W ⟨c.bA, c.bcap, c.bs⟩
  ws : RtG W ⟨c.wA, c.wcap, c.ws⟩
  st : Old W c.sA (c.ss.flatMap rowF)
  sg : ∀ r ∈ c.ss, RtG W r
  rl : c.rs.length ≤ 9223372036854775807
  sl : c.ss.length ≤ 9223372036854775807
  rc : c.rs.length ≤ c.rcap
  sc : c.ss.length ≤ c.scap
theorem Yhf : Opn enc Tryz.prog W spare held 61 clF (ClG W) :=
  Vo (ZH (ts := [3, 59, 24, 24, 22]) (by kernel_rfl) (YD op_i (YD YbB (YD Ycg (YD Ycg (YD Yhh Vf))))))
    (fun x => ⟨x.1, x.2.1.A, x.2.1.cap, x.2.1.xs, x.2.2.1.A, x.2.2.1.cap, x.2.2.1.xs, x.2.2.2.1.A, x.2.2.2.1.cap, x.2.2.2.1.xs, x.2.2.2.2.1.A, x.2.2.2.2.1.cap, x.2.2.2.2.1.xs⟩) (fun x => by simp [clF, numF, rowF, SlM.val]) (fun x h => by
      obtain ⟨h1, h2, h3, h4, h5, _⟩ := h
      exact ⟨h1, h2.old, h2.good, h3, h4, h5.old, h5.good, Nat.le_trans h2.len maxL, Nat.le_trans h5.len maxL, h2.cap, h5.cap⟩)
theorem YfL : Opn enc Tryz.prog W spare held 48 (fun s : SlM ClM => [s.val]) (SlG W clF (ClG W)) := Zp (q := 5) Tryz.underlying48 (by kernel_rfl) (by decide) Yhf
set_option maxRecDepth 100000 in
theorem Yjy {r : Reach} {b0 : Nat} {v : Value} {d : DataW H} {p : List MemPlace} (hv : Value.okWide Tryz.prog W r b0 45 v) (h : DataW.Trod enc Tryz.prog W 0 spare held 45 v d p) : ∃ s : SlM RqM, v = s.val ∧ SlG W rqF (RqG W) s := by
  obtain ⟨a, len, cap, rfl⟩ := okWide_slice Tryz.underlying45 hv
  obtain ⟨fuel, hf⟩ := h
  obtain ⟨n, h1, h2⟩ := Ydr fuel _ _ hf
  refine ⟨n, ?_, h2⟩
  injection h1
set_option maxRecDepth 100000 in
theorem Yjx {r : Reach} {b0 : Nat} {v : Value} {d : DataW H} {p : List MemPlace} (hv : Value.okWide Tryz.prog W r b0 48 v) (h : DataW.Trod enc Tryz.prog W 0 spare held 48 v d p) : ∃ s : SlM ClM, v = s.val ∧ SlG W clF (ClG W) s := by
  obtain ⟨a, len, cap, rfl⟩ := okWide_slice Tryz.underlying48 hv
  obtain ⟨fuel, hf⟩ := h
  obtain ⟨n, h1, h2⟩ := YfL fuel _ _ hf
  refine ⟨n, ?_, h2⟩
  injection h1
end
open Go.RowKit Go.Eng Go.Nw Go.Rt
abbrev flws (A : Option Addr) (cap : Nat) (l : List Flw) : HP := sl 68 6 A l.length cap (l.flatMap flwF)
theorem Ybp (A : Option Addr) (cap : Nat) (l : List Flw) (f : Flw) : sl 68 6 A (l.length + 1) cap (l.flatMap flwF ++ #[.int .i64 f.1, .int .i64 f.2.1, .int .i64 f.2.2.1, .int .i64 f.2.2.2.1, .int .i64 f.2.2.2.2.1, .int .i64 f.2.2.2.2.2].toList) = flws A cap (l ++ [f]) := by simp [flws, List.flatMap_append, flwF]
structure FlM where
  i : Nat
  A : Option Addr
  cap : Nat
def RqM.fl (q : List RqM) : List Flw := q.map (·.f)
set_option maxRecDepth 10000 in
theorem Oe (q : List RqM) {A : Option Addr} {cap B : Nat} {w0 : World} {H : List HP} {w : World} (hl : q.length ≤ 1000000000000) (hr : Rd B w0 H A (q.flatMap rqF)) (hw : St B w0 H w) :
    Calls Tryz.prog 68 [.slice A q.length cap].toArray w (Post B w0 fun v K => ∃ A2 cap2, v = .slice A2 (RqM.fl q).length cap2 ∧ K = flws A2 cap2 (RqM.fl q) :: H) := by
  refine Yc Tryz.func68 Tryz.ntmps68 rfl rfl hw ?_
  repeat' (first | apply (zs1 ?_) | apply (zs2 ?_) | (apply zg4; refine zs9 ?_) | apply (zs65 ?_) | apply (zs68 ?_) | apply (zs69 ?_) | apply (zs70 ?_) | apply (zs73 ?_) | fail)
  refine Jv 68 6 ?_
  refine Yj (fun z : FlM => [(8, .int .i64 (z.i : Nat)), (7, .int .i64 q.length), (6, .slice A q.length cap), (3, .slice z.A (RqM.fl (q.take z.i)).length z.cap)]) (fun z => flws z.A z.cap (RqM.fl (q.take z.i)) :: H) (fun z => z.i ≤ q.length) (fun z => q.length - z.i) ⟨0, none, 0⟩ (Nat.zero_le _) ?_ (fun w hw => hw) ?_
  · exact zu
  rintro ⟨i, A2, cap2⟩ hi K hK
  dsimp only at hi ⊢
  have hlen : (RqM.fl (q.take i)).length = i := by unfold RqM.fl; rw [List.length_map, List.length_take]; omega
  have hr' := hr.cons (X := flws A2 cap2 (RqM.fl (q.take i)))
  by_cases hlt : i < q.length
  · obtain ⟨x, hx⟩ : ∃ x, q[i]? = some x := ⟨_, List.getElem?_eq_getElem hlt⟩
    have hst : RqM.fl (q.take (i + 1)) = RqM.fl (q.take i) ++ [x.f] := by unfold RqM.fl; rw [List.take_add_one, hx, Option.toList_some, List.map_append]; rfl
    repeat' (first | (apply Xh T; exact rfl; exact zm; exact rfl; exact zv; exact rfl; exact rfl) | apply (zs1 ?_) | apply (zs2 ?_) | (apply zg2; refine zs6 ?_) | (apply zg3; refine zs61 ?_) | (apply zg5; refine zs57 ?_) | (apply (zs17 ?_ ?_) <;> intro _ <;> try (exfalso; omega)) | (apply zg13; refine zs30 ?_) | (apply zg21; (refine zs49 ?_; intro _ _)) | (apply zg22; refine zs51 ?_) | (apply zg24; (refine zs54 ?_; intro _)) | (apply zg26; (refine zs56 ?_; intro _)) | apply (zs65 ?_) | apply (zs68 ?_) | apply (zs69 ?_) | apply (zs70 ?_) | (apply zg27; refine zs71 ?_) | apply (zs73 ?_) | apply (zs76 ?_) | apply (zs79 ?_) | fail)
    rename_i A' cap'
    rw [Ybp, ← hst, show (RqM.fl (q.take i)).length + 1 = (RqM.fl (q.take (i + 1))).length from by rw [hst]; simp]
    apply hK ⟨i + 1, A', cap'⟩
    · show i + 1 ≤ _
      omega
    · dsimp only; omega
    · exact zu
    · exact zk
  · obtain rfl : i = q.length := by omega
    rw [List.take_length]
    repeat' (first | apply (zs1 ?_) | apply (zs2 ?_) | (apply (zs17 ?_ ?_) <;> intro _ <;> try (exfalso; omega)) | apply (zs65 ?_) | apply (zs68 ?_) | apply (zs69 ?_) | apply (zs70 ?_) | (apply zg27; refine zs72 ?_) | apply (zs74 ?_) | apply (zs75 ?_) | apply (zs80 ?_) | apply (zs81 ?_) | fail)
    apply Yd; exact rfl; exact rfl
    exact ⟨A2, cap2, rfl, rfl⟩
theorem J4 {x : RqM} {k : Nat} {r : RowM} (h : x.rows[k]? = some r) : rtAt x.rq.2 k = r.xs := by
  have h2 : x.rq.2[k]? = some r.xs := by
    show (x.rows.map (·.xs))[k]? = _
    rw [List.getElem?_map, h]; rfl
  exact Option.some.inj ((YbF (List.getElem?_eq_some_iff.1 h2).1).symm.trans h2)
set_option maxRecDepth 10000 in
set_option maxHeartbeats 4000000 in
theorem WH (n : NetM) (x : RqM) {B : Nat} {w0 : World} {H : List HP} {w : World} (hin : n.In B w0 H) (hx : x.In B w0 H) (hw : St B w0 H w) :
    Calls Tryz.prog 121 [n.val, rqV x].toArray w (Post B w0 fun v K => v = .int .i64 (rtsE n.net x.rq) ∧ K = H) := by
  refine Yc Tryz.func121 Tryz.ntmps121 rfl rfl hw ?_
  have hln : x.rq.2.length = x.rows.length := by unfold RqM.rq; rw [List.length_map]
  have hlx := hx.ln
  have e1 : x.rq.1 = x.f := rfl
  unfold rtsE
  rw [hln, e1]
  have p1 := fun {H' : List HP} {w : World} (r : RowM) (hr : r ∈ x.rows) (hin : n.In B w0 H') (hx : x.In B w0 H') (hw : St B w0 H' w) => Qi n x.f.2.1 x.f.2.2.1 r.xs (cap := r.cap) hin (hx.rw_ r hr) (Nat.le_trans (hx.rl r hr).1 (by decide)) (hx.rl r hr).2 hw
  unfold NetM.val rqV
  by_cases h0 : x.rows.length = 0
  · rw [if_pos h0]
    repeat' (first | apply (zs2 ?_) | (apply zg2; refine zs6 ?_) | (apply zg3; refine zs7 ?_) | (apply zg4; refine zs9 ?_) | (apply zg7; (refine zs15 ?_ ?_ <;> intro _ <;> try (exfalso; omega))) | (apply zg23; (refine zs52 ?_; intro _)) | apply (zs65 ?_) | apply (zs68 ?_) | apply (zs69 ?_) | apply (zs70 ?_) | (apply zg27; refine zs71 ?_) | apply (zs74 ?_) | apply (zs77 ?_) | fail)
    apply Yi H
    · exact zk
    apply Yd; exact rfl; exact rfl; exact ⟨rfl, rfl⟩
  rw [if_neg h0]
  by_cases h2 : 2 < x.rows.length
  · rw [if_pos h2]
    repeat' (first | apply (zs2 ?_) | (apply zg2; refine zs6 ?_) | (apply zg3; refine zs7 ?_) | (apply zg4; refine zs9 ?_) | (apply zg7; (refine zs15 ?_ ?_ <;> intro _ <;> try (exfalso; omega))) | (apply (zs19 ?_ ?_) <;> intro _ <;> try (exfalso; omega)) | (apply zg23; (refine zs52 ?_; intro _)) | apply (zs65 ?_) | apply (zs68 ?_) | apply (zs69 ?_) | apply (zs70 ?_) | (apply zg27; first | refine zs71 ?_ | refine zs72 ?_) | apply (zs74 ?_) | apply (zs76 ?_) | apply (zs77 ?_) | fail)
    apply Yi H
    · exact zk
    apply Yd; exact rfl; exact rfl; exact ⟨rfl, rfl⟩
  rw [if_neg h2]
  obtain ⟨F, hF⟩ : ∃ F, (fun k => XC n.net x.f.2.1 x.f.2.2.1 (rtAt x.rq.2 k)) = F := ⟨_, rfl⟩
  rw [hF]
  have hFv : ∀ {k : Nat} {r : RowM}, x.rows[k]? = some r → F k = XC n.net x.f.2.1 x.f.2.2.1 r.xs := fun h => by rw [← hF]; show XC _ _ _ _ = _; rw [J4 h]
  repeat' (first | apply (zs1 ?_) | apply (zs2 ?_) | (apply zg2; refine zs6 ?_) | (apply zg3; refine zs7 ?_) | (apply zg4; refine zs9 ?_) | (apply zg7; (refine zs15 ?_ ?_ <;> intro _ <;> try (exfalso; omega))) | (apply (zs19 ?_ ?_) <;> intro _ <;> try (exfalso; omega)) | (apply zg23; (refine zs52 ?_; intro _)) | apply (zs65 ?_) | apply (zs68 ?_) | apply (zs69 ?_) | apply (zs70 ?_) | (apply zg27; refine zs72 ?_) | apply (zs73 ?_) | apply (zs76 ?_) | fail)
  rename_i gn gx _ _
  refine Yj (fun k : Nat => [(19, .int .i64 (k : Nat)), (18, .int .i64 x.rows.length), (17, .slice x.A x.rows.length x.cap), (3, .pointer (some ⟨gx, 0, none⟩)), (2, .pointer (some ⟨gn, 0, none⟩))]) (fun _ => rqA gx x :: netA gn n :: H) (fun k => k ≤ x.rows.length ∧ ∀ j, 0 ≤ j → j < k → F j = 0) (fun k => x.rows.length - k) 0 ⟨Nat.zero_le _, fun j _ h => absurd h (Nat.not_lt_zero _)⟩ ?_ (fun w hw => hw) ?_
  · exact zu
  rintro k ⟨hk, hz⟩ K hK
  have hrt : Rd B w0 (rqA gx x :: netA gn n :: H) x.A (x.rows.flatMap rowF) := hx.rt.cons.cons
  by_cases hlt : k < x.rows.length
  · obtain ⟨r, hr⟩ : ∃ r, x.rows[k]? = some r := ⟨_, List.getElem?_eq_getElem hlt⟩
    have hFk := hFv hr
    have p2 := fun {H' : List HP} {w : World} (hin : n.In B w0 H') (hx : x.In B w0 H') (hw : St B w0 H' w) => p1 r (List.mem_of_getElem? hr) hin hx hw
    rw [← hFk] at p2
    by_cases hFz : F k = 0
    · rw [hFz] at p2
      repeat' (first | ((first | apply Ya Ybc | apply Yb Ybc); exact za; exact rfl; exact fun _ hw => (p2 (hin.mono zk) (hx.mono zk) hw)) | apply (zs1 ?_) | apply (zs2 ?_) | (apply zg2; refine zs6 ?_) | (apply zg3; first | refine zs7 ?_ | refine zs8 ?_ | refine zs60 ?_) | (apply zg5; refine zs57 ?_) | (apply zg8; (refine zs16 ?_ ?_ <;> intro _ <;> try (exfalso; omega))) | (apply (zs17 ?_ ?_) <;> intro _ <;> try (exfalso; omega)) | (apply zg13; refine zs30 ?_) | apply (zs65 ?_) | apply (zs68 ?_) | apply (zs69 ?_) | apply (zs70 ?_) | (apply zg27; first | refine zs71 ?_ | refine zs72 ?_) | apply (zs73 ?_) | apply (zs76 ?_) | apply (zs79 ?_) | fail)
      apply hK (k + 1)
      · exact ⟨by omega, fun j h1 h2 => by
          rcases Nat.lt_succ_iff_lt_or_eq.1 h2 with h | rfl
          · exact hz j h1 h
          · exact hFz⟩
      · omega
      · exact zu
      · exact zk
    · have hfe := YV (f := F) (r := x.rows.length) (i0 := 0) (i := k) (fun j h1 h2 => hz j h1 h2) (Nat.zero_le _) (by omega) hFz
      rw [hfe, if_pos hFz]
      clear hK
      repeat' (first | ((first | apply Ya Ybc | apply Yb Ybc); exact za; exact rfl; exact fun _ hw => (p2 (hin.mono zk) (hx.mono zk) hw)) | apply (zs1 ?_) | apply (zs2 ?_) | (apply zg2; refine zs6 ?_) | (apply zg3; first | refine zs7 ?_ | refine zs8 ?_ | refine zs60 ?_) | (apply zg5; refine zs57 ?_) | (apply zg8; (refine zs16 ?_ ?_ <;> intro _ <;> try (exfalso; omega))) | (apply (zs17 ?_ ?_) <;> intro _ <;> try (exfalso; omega)) | apply (zs65 ?_) | apply (zs68 ?_) | apply (zs69 ?_) | apply (zs70 ?_) | (apply zg27; refine zs71 ?_) | apply (zs73 ?_) | apply (zs74 ?_) | apply (zs76 ?_) | apply (zs77 ?_) | apply (zs78 ?_) | fail)
      apply Yi H
      · exact zk
      apply Yd; exact rfl; exact rfl; exact ⟨rfl, rfl⟩
  · obtain rfl : k = x.rows.length := by omega
    have hfe := Y9 (f := F) (r := x.rows.length) (i0 := 0) fun j h1 h2 => hz j h1 (by omega)
    rw [hfe, if_neg (fun e => e rfl)]
    clear hK
    by_cases h3 : x.rows.length = 2
    rotate_left
    · rw [if_neg (fun e => h3 e.1)]
      repeat' (first | apply (zs1 ?_) | apply (zs2 ?_) | (apply zg1; refine zs3 ?_) | (apply zg2; refine zs6 ?_) | (apply zg3; refine zs7 ?_) | (apply zg4; refine zs9 ?_) | (apply zg6; refine zs12 ?_) | (apply zg7; (refine zs15 ?_ ?_ <;> intro _ <;> try (exfalso; omega))) | (apply (zs17 ?_ ?_) <;> intro _ <;> try (exfalso; omega)) | apply (zs65 ?_) | apply (zs66 ?_) | apply (zs68 ?_) | apply (zs69 ?_) | apply (zs70 ?_) | (apply zg27; refine zs72 ?_) | apply (zs74 ?_) | apply (zs75 ?_) | apply (zs76 ?_) | apply (zs80 ?_) | apply (zs81 ?_) | (apply zg28; refine zs84 ?_) | fail)
      apply Yi H
      · exact zk
      apply Yd; exact rfl; exact rfl; exact ⟨rfl, rfl⟩
    obtain ⟨r0, hr0⟩ : ∃ r, x.rows[0]? = some r := ⟨_, List.getElem?_eq_getElem (by omega)⟩
    obtain ⟨r1, hr1⟩ : ∃ r, x.rows[1]? = some r := ⟨_, List.getElem?_eq_getElem (by omega)⟩
    rw [J4 hr0, J4 hr1]
    have p3 := fun {H' : List HP} {w : World} (hx : x.In B w0 H') (hw : St B w0 H' w) => Ov r0.xs r1.xs (cap := r0.cap) (cap2 := r1.cap) (Nat.le_trans (hx.rl r0 (List.mem_of_getElem? hr0)).1 (by decide)) (Nat.le_trans (hx.rl r1 (List.mem_of_getElem? hr1)).1 (by decide)) (hx.rw_ r0 (List.mem_of_getElem? hr0)) (hx.rw_ r1 (List.mem_of_getElem? hr1)) hw
    by_cases heq : r0.xs = r1.xs
    · rw [if_pos ⟨h3, heq⟩]
      rw [decide_eq_true heq] at p3
      repeat' (first | (apply (zs17 ?_ ?_) <;> intro _ <;> try (exfalso; omega)) | apply (zs65 ?_) | apply (zs68 ?_) | apply (zs69 ?_) | apply (zs70 ?_) | (apply zg27; refine zs72 ?_) | apply (zs75 ?_) | apply (zs80 ?_) | apply (zs81 ?_) | fail)
      apply YB [0, 1, 2, 3, 4, 5, 6, 7, 8, 9, 10, 11, 12, 13, 14] []
      kernel_rfl
      kernel_rfl
      (simp only [Yk, nthO]; rfl)
      exact rfl
      repeat' (first | apply (zs1 ?_) | (apply zg1; refine zs4 ?_) | (apply zg2; refine zs6 ?_) | (apply zg3; first | refine zs7 ?_ | refine zs60 ?_) | (apply zg4; refine zs9 ?_) | (apply zg5; refine zs57 ?_) | (apply zg7; (refine zs15 ?_ ?_ <;> intro _ <;> try (exfalso; omega))) | apply (zs87 ?_) | fail)
      first | apply Ya en33 | apply Yb en33
      exact za
      exact rfl
      exact fun _ hw => (p3 (hx.mono zk) hw)
      repeat' (first | apply (zs2 ?_) | (apply zg6; refine zs11 ?_) | apply (zs65 ?_) | (apply Yo; exact zp) | apply (zs68 ?_) | apply (zs69 ?_) | apply (zs70 ?_) | (apply zg27; refine zs71 ?_) | apply (zs74 ?_) | apply (zs77 ?_) | (apply Yl; (repeat (first | with_reducible exact Yh | (with_reducible apply Yf; (repeat (first | with_reducible exact Yg | with_reducible apply Ye)))))) | apply (zs93 ?_) | apply (zs94 ?_) | fail)
      · show Perm H (H ++ [])
        rw [List.append_nil]; exact Perm.refl _
      repeat' (first | fail)
      apply Yi H
      · exact zk
      apply Yd; exact rfl; exact rfl; exact ⟨rfl, rfl⟩
    · rw [if_neg (fun e => heq e.2)]
      rw [decide_eq_false heq] at p3
      repeat' (first | (apply (zs17 ?_ ?_) <;> intro _ <;> try (exfalso; omega)) | apply (zs65 ?_) | apply (zs68 ?_) | apply (zs69 ?_) | apply (zs70 ?_) | (apply zg27; refine zs72 ?_) | apply (zs75 ?_) | apply (zs80 ?_) | apply (zs81 ?_) | fail)
      apply YB [0, 1, 2, 3, 4, 5, 6, 7, 8, 9, 10, 11, 12, 13, 14] []
      kernel_rfl
      kernel_rfl
      (simp only [Yk, nthO]; rfl)
      exact rfl
      repeat' (first | apply (zs1 ?_) | (apply zg1; refine zs4 ?_) | (apply zg2; refine zs6 ?_) | (apply zg3; first | refine zs7 ?_ | refine zs60 ?_) | (apply zg4; refine zs9 ?_) | (apply zg5; refine zs57 ?_) | (apply zg7; (refine zs15 ?_ ?_ <;> intro _ <;> try (exfalso; omega))) | apply (zs87 ?_) | fail)
      first | apply Ya en33 | apply Yb en33
      exact za
      exact rfl
      exact fun _ hw => (p3 (hx.mono zk) hw)
      repeat' (first | apply (zs2 ?_) | (apply zg6; refine zs11 ?_) | apply (zs65 ?_) | (apply Yo; exact zp) | apply (zs68 ?_) | apply (zs69 ?_) | apply (zs70 ?_) | (apply zg27; refine zs72 ?_) | apply (zs74 ?_) | apply (zs76 ?_) | (apply Yl; (repeat (first | with_reducible exact Yh | (with_reducible apply Yf; (repeat (first | with_reducible exact Yg | with_reducible apply Ye)))))) | apply (zs93 ?_) | apply (zs94 ?_) | fail)
      · show Perm H (H ++ [])
        rw [List.append_nil]; exact Perm.refl _
      repeat' (first | fail)
      apply Yi H
      · exact zk
      apply Yd; exact rfl; exact rfl; exact ⟨rfl, rfl⟩
theorem Ybm (q : List RqM) : RqM.fl q = Z3 (q.map RqM.rq) := by unfold RqM.fl Z3; rw [List.map_map]; rfl
theorem J3 {q : List RqM} {i : Nat} {x : RqM} (h : q[i]? = some x) : rqAt (q.map RqM.rq) i = x.rq := by
  have h2 : (q.map RqM.rq)[i]? = some x.rq := by rw [List.getElem?_map, h]; rfl
  exact Option.some.inj ((YfV (List.getElem?_eq_some_iff.1 h2).1).symm.trans h2)
set_option maxRecDepth 10000 in
set_option maxHeartbeats 4000000 in
theorem YaN (n : NetM) (q : List RqM) {A : Option Addr} {cap B : Nat} {w0 : World} {H : List HP} {w : World} (hin : n.In B w0 H) (hq : QIn B w0 H A q) (hw : St B w0 H w) :
    Calls Tryz.prog 67 [n.val, .slice A q.length cap].toArray w (Post B w0 fun v K => v = .tuple #[.int .i64 (rqsE n.net (q.map RqM.rq)).1, .int .i64 (rqsE n.net (q.map RqM.rq)).2] ∧ K = H) := by
  refine Yc Tryz.func67 Tryz.ntmps67 rfl rfl hw ?_
  have hql := hq.ln
  have hqr := hq.rd
  have p1 := fun {H' : List HP} {w : World} (hin : n.In B w0 H') (hw : St B w0 H' w) => Y1 n hin hw
  have p2 := fun {H' : List HP} {w : World} (hq : QIn B w0 H' A q) (hw : St B w0 H' w) => Oe q (cap := cap) hql hq.rd hw
  have p3 := fun {A2 : Option Addr} {cap2 : Nat} {H' : List HP} {w : World} (hr : Rd B w0 H' A2 ((RqM.fl q).flatMap flwF)) (hw : St B w0 H' w) => Y4 n.nodes (RqM.fl q) (by unfold RqM.fl; rw [List.length_map]; omega) (cap := cap2) hr hw
  unfold rqsE
  rw [← Ybm, List.length_map]
  rw [show n.net.nodes = n.nodes from rfl]
  obtain ⟨c, hc⟩ : ∃ c, YA n.net = c := ⟨_, rfl⟩
  obtain ⟨⟨fi, fe⟩, hf⟩ : ∃ f, YN n.nodes (RqM.fl q) = f := ⟨_, rfl⟩
  obtain ⟨F, hF⟩ : ∃ F, (fun i => rtsE n.net (rqAt (q.map RqM.rq) i)) = F := ⟨_, rfl⟩
  rw [hc] at p1 ⊢
  rw [hf] at p3 ⊢
  rw [hF]
  dsimp only at p3 ⊢
  have hFv : ∀ {k : Nat} {x : RqM}, q[k]? = some x → F k = rtsE n.net x.rq := fun h => by rw [← hF]; show rtsE _ _ = _; rw [J3 h]
  unfold NetM.val
  by_cases h0 : c = 0
  rotate_left
  · rw [if_pos h0]
    repeat' (first | ((first | apply Ya en50 | apply Yb en50); exact za; exact rfl; exact fun _ hw => (p1 hin.cons hw)) | apply (zs2 ?_) | (apply zg3; refine zs8 ?_) | (apply zg8; (refine zs16 ?_ ?_ <;> intro _ <;> try (exfalso; omega))) | (apply zg23; (refine zs52 ?_; intro _)) | apply (zs65 ?_) | apply (zs68 ?_) | apply (zs69 ?_) | apply (zs70 ?_) | (apply zg27; refine zs71 ?_) | apply (zs74 ?_) | apply (zs77 ?_) | fail)
    apply Yi H
    · exact zk
    apply Yp; exact rfl; exact rfl; exact rfl; exact ⟨rfl, rfl⟩
  subst h0
  rw [if_neg (fun e => e rfl)]
  by_cases h1 : fe = 0
  rotate_left
  · rw [if_pos h1]
    repeat' (first | ((first | apply Ya en50 | apply Yb en50); exact za; exact rfl; exact fun _ hw => (p1 hin.cons hw)) | apply (zs2 ?_) | (apply zg3; refine zs8 ?_) | (apply zg8; (refine zs16 ?_ ?_ <;> intro _ <;> try (exfalso; omega))) | (apply zg23; (refine zs52 ?_; intro _)) | apply (zs65 ?_) | apply (zs68 ?_) | apply (zs69 ?_) | apply (zs70 ?_) | (apply zg27; refine zs72 ?_) | apply (zs76 ?_) | fail)
    apply XD [0, 1, 2, 3, 4, 5, 6, 7, 8, 9] [] [true]
    kernel_rfl
    kernel_rfl
    exact zy
    (simp only [Yk, nthO]; rfl)
    exact rfl
    repeat' (first | apply (zs1 ?_) | (apply zg2; refine zs6 ?_) | (apply zg3; refine zs7 ?_) | apply (zs87 ?_) | fail)
    apply Yq _ en68
    exact za
    exact rfl
    exact fun _ hw => (p2 (hq.mono zk) (hw))
    rintro _ _ ⟨A2, cap2, rfl, rfl⟩
    repeat' (first | apply (zs65 ?_) | apply (zs87 ?_) | (apply Yl; (repeat (first | with_reducible exact Yh | (with_reducible apply Yf; (repeat (first | with_reducible exact Yg | with_reducible apply Ye)))))) | fail)
    first | apply Ya en51 | apply Yb en51
    exact za
    exact rfl
    exact fun _ hw => (p3 (Rd.sl zm) hw)
    repeat' (first | apply (zs1 ?_) | apply (zs2 ?_) | apply (zs13 ?_) | (apply zg8; (refine zs16 ?_ ?_ <;> intro _ <;> try (exfalso; omega))) | apply (zs65 ?_) | (apply Yo; exact zp) | apply (zs68 ?_) | apply (zs69 ?_) | apply (zs70 ?_) | (apply zg27; refine zs71 ?_) | apply (zs74 ?_) | apply (zs77 ?_) | (apply Yl; (repeat (first | with_reducible exact Yh | (with_reducible apply Yf; (repeat (first | with_reducible exact Yg | with_reducible apply Ye)))))) | apply (zs93 ?_) | apply (zs94 ?_) | fail)
    apply Yi H
    · exact zk
    apply Yp; exact rfl; exact rfl; exact rfl; exact ⟨rfl, rfl⟩
  subst h1
  rw [if_neg (fun e => e rfl)]
  repeat' (first | ((first | apply Ya en50 | apply Yb en50); exact za; exact rfl; exact fun _ hw => (p1 hin.cons hw)) | apply (zs2 ?_) | (apply zg3; refine zs8 ?_) | (apply zg8; (refine zs16 ?_ ?_ <;> intro _ <;> try (exfalso; omega))) | (apply zg23; (refine zs52 ?_; intro _)) | apply (zs65 ?_) | apply (zs68 ?_) | apply (zs69 ?_) | apply (zs70 ?_) | (apply zg27; refine zs72 ?_) | apply (zs76 ?_) | fail)
  first | (rename_i gn; guard_hyp gn : Nat) | (rename_i gn _; guard_hyp gn : Nat) | (rename_i gn _ _; guard_hyp gn : Nat)
  apply XD [0, 1, 2, 3, 4, 5, 6, 7, 8, 9] [] [true]
  kernel_rfl
  kernel_rfl
  exact zy
  (simp only [Yk, nthO]; rfl)
  exact rfl
  repeat' (first | apply (zs1 ?_) | (apply zg2; refine zs6 ?_) | (apply zg3; refine zs7 ?_) | apply (zs87 ?_) | fail)
  apply Yq _ en68
  exact za
  exact rfl
  exact fun _ hw => (p2 (hq.mono zk) (hw))
  rintro _ _ ⟨A2, cap2, rfl, rfl⟩
  repeat' (first | apply (zs65 ?_) | apply (zs87 ?_) | (apply Yl; (repeat (first | with_reducible exact Yh | (with_reducible apply Yf; (repeat (first | with_reducible exact Yg | with_reducible apply Ye)))))) | fail)
  first | apply Ya en51 | apply Yb en51
  exact za
  exact rfl
  exact fun _ hw => (p3 (Rd.sl zm) hw)
  repeat' (first | apply (zs1 ?_) | apply (zs2 ?_) | (apply zg4; refine zs9 ?_) | apply (zs13 ?_) | (apply zg8; (refine zs16 ?_ ?_ <;> intro _ <;> try (exfalso; omega))) | apply (zs65 ?_) | (apply Yo; exact zp) | apply (zs68 ?_) | apply (zs69 ?_) | apply (zs70 ?_) | (apply zg27; refine zs72 ?_) | apply (zs73 ?_) | apply (zs76 ?_) | (apply Yl; (repeat (first | with_reducible exact Yh | (with_reducible apply Yf; (repeat (first | with_reducible exact Yg | with_reducible apply Ye)))))) | apply (zs93 ?_) | apply (zs94 ?_) | fail)
  refine Yj (fun k : Nat => [(28, .int .i64 (k : Nat)), (27, .int .i64 q.length), (26, .slice A q.length cap), (2, .pointer (some ⟨gn, 0, none⟩))]) (fun _ => netA gn n :: H) (fun k => k ≤ q.length ∧ ∀ j, 0 ≤ j → j < k → F j = 0) (fun k => q.length - k) 0 ⟨Nat.zero_le _, fun j _ h => absurd h (Nat.not_lt_zero _)⟩ ?_ ?_ ?_
  · exact zu
  · exact zk
  rintro k ⟨hk, hz⟩ K hK
  have hqr' : Rd B w0 (netA gn n :: H) A (q.flatMap rqF) := hqr.cons
  by_cases hlt : k < q.length
  · obtain ⟨x, hx⟩ : ∃ x, q[k]? = some x := ⟨_, List.getElem?_eq_getElem hlt⟩
    have hFk := hFv hx
    have hxi := hq.x x (List.mem_of_getElem? hx)
    have p4 := fun {H' : List HP} {w : World} (hin : n.In B w0 H') (hx : x.In B w0 H') (hw : St B w0 H' w) => WH n x hin hx hw
    rw [← hFk] at p4
    by_cases hFz : F k = 0
    · rw [hFz] at p4
      repeat' (first | ((first | apply Ya YeT | apply Yb YeT); exact za; exact rfl; exact fun _ hw => (p4 (hin.mono zk) (hxi.mono zk) hw)) | apply (zs1 ?_) | apply (zs2 ?_) | (apply zg3; first | refine zs8 ?_ | refine zs61 ?_) | (apply zg5; refine zs57 ?_) | (apply zg8; (refine zs16 ?_ ?_ <;> intro _ <;> try (exfalso; omega))) | (apply (zs17 ?_ ?_) <;> intro _ <;> try (exfalso; omega)) | (apply zg13; refine zs30 ?_) | (apply zg22; refine zs51 ?_) | (apply zg24; (refine zs54 ?_; intro _)) | apply (zs65 ?_) | apply (zs68 ?_) | apply (zs69 ?_) | apply (zs70 ?_) | (apply zg27; first | refine zs71 ?_ | refine zs72 ?_) | apply (zs73 ?_) | apply (zs76 ?_) | apply (zs79 ?_) | fail)
      apply hK (k + 1)
      · exact ⟨by omega, fun j h1 h2 => by
          rcases Nat.lt_succ_iff_lt_or_eq.1 h2 with h | rfl
          · exact hz j h1 h
          · exact hFz⟩
      · omega
      · exact zu
      · exact zk
    · have hfe := YV (f := F) (r := q.length) (i0 := 0) (i := k) (fun j h1 h2 => hz j h1 h2) (Nat.zero_le _) (by omega) hFz
      rw [hfe]
      clear hK
      repeat' (first | ((first | apply Ya YeT | apply Yb YeT); exact za; exact rfl; exact fun _ hw => (p4 (hin.mono zk) (hxi.mono zk) hw)) | apply (zs1 ?_) | apply (zs2 ?_) | (apply zg3; first | refine zs8 ?_ | refine zs61 ?_) | (apply zg5; refine zs57 ?_) | (apply zg8; (refine zs16 ?_ ?_ <;> intro _ <;> try (exfalso; omega))) | (apply (zs17 ?_ ?_) <;> intro _ <;> try (exfalso; omega)) | (apply zg22; refine zs51 ?_) | (apply zg24; (refine zs54 ?_; intro _)) | apply (zs65 ?_) | apply (zs68 ?_) | apply (zs69 ?_) | apply (zs70 ?_) | (apply zg27; refine zs71 ?_) | apply (zs73 ?_) | apply (zs74 ?_) | apply (zs76 ?_) | apply (zs77 ?_) | apply (zs78 ?_) | fail)
      apply Yi H
      · exact zk
      apply Yp; exact rfl; exact rfl; exact rfl; exact ⟨rfl, rfl⟩
  · obtain rfl : k = q.length := by omega
    have hfe := Y9 (f := F) (r := q.length) (i0 := 0) fun j h1 h2 => hz j h1 (by omega)
    rw [hfe]
    clear hK
    repeat' (first | apply (zs2 ?_) | (apply (zs17 ?_ ?_) <;> intro _ <;> try (exfalso; omega)) | apply (zs65 ?_) | apply (zs68 ?_) | apply (zs69 ?_) | apply (zs70 ?_) | (apply zg27; refine zs72 ?_) | apply (zs74 ?_) | apply (zs75 ?_) | apply (zs80 ?_) | apply (zs81 ?_) | fail)
    apply Yi H
    · exact zk
    apply Yp; exact rfl; exact rfl; exact rfl; exact ⟨rfl, rfl⟩
end Go.Proofs.YtmalhidldgfeoaaGreatDoor
