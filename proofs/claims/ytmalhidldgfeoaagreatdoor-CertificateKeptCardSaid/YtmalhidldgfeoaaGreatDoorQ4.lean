/- Lemmas for the claim, part 4. -/
import Derived.WideKeyRuns
import Derived.Shelf.SlSortCmp.NoneTotal
import Derived.Shelf.SlGeneric
import Derived.Shelf.SlSortCmp.WholeK
import Derived.Ground.SlsfProg
import Derived.Test.YtmalhidldgfeoaaGreatDoorProg
import Derived.LoopN
import Derived.StillTailTactics
import Derived.Test.YtmalhidldgfeoaaGreatDoorQ3

namespace Go.Proofs.YtmalhidldgfeoaaGreatDoor
open Go.RowKit Go.Eng Go.Nw Go.Rt
structure AttM where
  slot : Int
  frame : Int
  c : Cel
  o : Int
structure StM where
  frame : Int
  since : Int → Option Int
  acked : Int → Int → Option Int
  done : Bool
structure PlM where
  st : List StM
  atts : List AttM
  dels : List (Int × Int × Int)
def perF (f : Flw) : Int := f.2.2.2.1
def phaF (f : Flw) : Int := f.2.2.2.2.1
def dstF (f : Flw) : Int := f.2.2.1
def Yx (f : Flw) (k : Int) : Int := phaF f + k * perF f
def JW (f : Flw) (n : Int) : Int := if n < phaF f then -1 else (n - phaF f) / perF f
def newS (f : Flw) (n k : Int) : StM := ⟨k, fun v => if v = f.2.1 then some n else none, fun _ _ => none, false⟩
def relS (f : Flw) (n : Int) (x : StM) : StM := if n < phaF f then x else if (n - phaF f) / perF f = x.frame then x else newS f n ((n - phaF f) / perF f)
def canT (f : Flw) (x : StM) (c : Cel) (n : Int) : Prop := 0 ≤ x.frame ∧ (∃ a, x.since (Yy c) = some a ∧ a ≤ n) ∧ Yy c ≠ dstF f ∧ ∀ t, x.acked (Yy c) (toC c) = some t → n ≤ t
def ZS (f : Flw) (x : StM) (c : Cel) (n o : Int) : StM :=
  ⟨x.frame, if o = 3 ∨ (x.since (toC c)).isSome then x.since else fun v => if v = toC c then some (n + 1) else x.since v,
    if o = 1 ∧ x.acked (Yy c) (toC c) = none then fun u v => if u = Yy c ∧ v = toC c then some n else x.acked u v else x.acked,
    x.done || (decide (o ≠ 3) && decide (toC c = dstF f))⟩
def delS (f : Flw) (x : StM) (c : Cel) (n o : Int) : List (Int × Int × Int) := if o ≠ 3 ∧ toC c = dstF f ∧ x.done = false then [(f.1, x.frame, n)] else []
def YfP : StM := ⟨-1, fun _ => none, fun _ _ => none, false⟩
inductive Pl (l : List Flw) (s : Sch) : Int → Nat → PlM → Prop
  | start : Pl l s 0 0 ⟨l.map fun _ => YfP, [], []⟩
  | rel {n : Int} {p : PlM} (st : List StM) : Pl l s n 0 p → st.length = l.length → (∀ (i : Nat) f x, l[i]? = some f → p.st[i]? = some x → st[i]? = some (relS f n x)) → Pl l s n 1 ⟨st, p.atts, p.dels⟩
  | skip {n : Int} {j : Nat} {p : PlM} {c : Cel} : Pl l s n (j + 1) p → (atE s n)[j]? = some c → (∀ (i : Nat) f x, l[i]? = some f → p.st[i]? = some x → f.1 = Xo c → ¬ canT f x c n) → Pl l s n (j + 2) p
  | att {n : Int} {j i : Nat} {p : PlM} {c : Cel} {f : Flw} {x : StM} (o : Int) : Pl l s n (j + 1) p → (atE s n)[j]? = some c → l[i]? = some f → p.st[i]? = some x → f.1 = Xo c → canT f x c n →
      Pl l s n (j + 2) ⟨p.st.set i (ZS f x c n o), p.atts ++ [⟨n, x.frame, c, o⟩], p.dels ++ delS f x c n o⟩
  | next {n : Int} {p : PlM} (ds : List (Int × Int × Int)) : Pl l s n ((atE s n).length + 1) p → ds.Perm p.dels → Pl l s (n + 1) 0 ⟨p.st, p.atts, ds⟩
def onK (id k u v : Int) (a : AttM) : Bool := decide (Xo a.c = id ∧ a.frame = k ∧ Yy a.c = u ∧ toC a.c = v)
def keyL (atts : List AttM) (id k u v : Int) : List AttM := atts.filter (onK id k u v)
def cntL (s : Sch) (q : Cel → Bool) : Nat → Int → Nat
  | 0, _ => 0
  | m + 1, a => ((atE s a).filter q).length + cntL s q m (a + 1)
def Zv (s : Sch) (q : Cel → Bool) (b : Option Int) (a0 n : Int) (j : Nat) : Nat :=
  match b with
  | some b => cntL s q (b - 1 - a0).toNat a0
  | none => cntL s q (n - a0).toNat a0 + if a0 ≤ n then (((atE s n).take j).filter q).length else 0
def Hop (s : Sch) (f : Flw) (k : Int) (atts : List AttM) (since : Int → Option Int) (n : Int) (j : Nat) : Prop :=
  ∀ u v a0, u ≠ dstF f → since u = some a0 → ∃ K1, K1 <+: keyL atts f.1 k u v ∧ (∀ a ∈ K1, a.o = 3) ∧ Zv s (onP f.1 u v) (since v) a0 n j ≤ K1.length
def Dlv (f : Flw) (k : Int) (dels : List (Int × Int × Int)) (since : Int → Option Int) : Prop :=
  (∀ d ∈ dels, d.1 = f.1 → d.2.1 = k → since (dstF f) = some (d.2.2 + 1)) ∧ ∀ b, since (dstF f) = some b → (f.1, k, b - 1) ∈ dels
structure Arch (s : Sch) (f : Flw) (k n : Int) (j : Nat) (p : PlM) (since : Int → Option Int) : Prop where
  src : since f.2.1 = some (Yx f k)
  hop : Hop s f k p.atts since n j
  dlv : Dlv f k p.dels since
structure Cur (f : Flw) (x : StM) (p : PlM) (n : Int) (m : Nat) : Prop where
  done : x.done = (x.since (dstF f)).isSome
  ack : ∀ u v t, x.acked u v = some t → (x.since v).isSome = true
  lost : ∀ u v, x.since v = none → ∀ a ∈ keyL p.atts f.1 x.frame u v, a.o = 3
  bd : ∀ v b, x.since v = some b → b ≤ n + m
structure JN (s : Sch) (f : Flw) (x : StM) (n : Int) (J : Nat) (p : PlM) : Prop where
  frame : x.frame = JW f (if J = 0 then n - 1 else n)
  none_a : ∀ a ∈ p.atts, Xo a.c = f.1 → a.frame ≤ x.frame
  none_d : ∀ d ∈ p.dels, d.1 = f.1 → d.2.1 ≤ x.frame
  cur : 0 ≤ x.frame → Cur f x p n (if J = 0 then 0 else 1) ∧ Arch s f x.frame n (J - 1) p x.since
  old : ∀ k, 0 ≤ k → k < x.frame → ∃ since, Arch s f k (Yx f k + perF f) 0 p since
structure FlOk (f : Flw) : Prop where
  per : 1 ≤ perF f
  pha : 0 ≤ phaF f
  ne : f.2.1 ≠ dstF f
theorem YbT (atts : List AttM) (a : AttM) (id k u v : Int) : keyL (atts ++ [a]) id k u v = keyL atts id k u v ++ if onK id k u v a then [a] else [] := by
  unfold keyL
  rw [List.filter_append]
  congr 1
  by_cases h : onK id k u v a = true <;> simp [h]
theorem Ybw (s : Sch) (q : Cel → Bool) : ∀ (m : Nat) (a : Int), cntL s q (m + 1) a = cntL s q m a + ((atE s (a + m)).filter q).length
  | 0, a => by simp [cntL]
  | m + 1, a => by
    rw [cntL, Ybw s q m (a + 1), cntL]
    rw [show a + 1 + (m : Int) = a + ((m + 1 : Nat) : Int) by omega]
    omega
theorem QK (s : Sch) (q : Cel → Bool) : ∀ (m k : Nat) (a : Int), cntL s q (m + k) a = cntL s q m a + cntL s q k (a + m)
  | 0, k, a => by simp [cntL]
  | m + 1, k, a => by
    rw [show m + 1 + k = (m + k) + 1 by omega, cntL, QK s q m k (a + 1), cntL]
    rw [show a + 1 + (m : Int) = a + ((m + 1 : Nat) : Int) by omega]
    omega
theorem Ybv (s : Sch) (q : Cel → Bool) {a0 a b b0 : Int} (h1 : a0 ≤ a) (h2 : b ≤ b0) : cntL s q (b - a).toNat a ≤ cntL s q (b0 - a0).toNat a0 := by
  by_cases h : a ≤ b
  · obtain ⟨x, hx⟩ : ∃ x : Nat, a = a0 + x := ⟨(a - a0).toNat, by omega⟩
    obtain ⟨y, hy⟩ : ∃ y : Nat, b = a + y := ⟨(b - a).toNat, by omega⟩
    obtain ⟨z, hz⟩ : ∃ z : Nat, b0 = b + z := ⟨(b0 - b).toNat, by omega⟩
    rw [show (b - a).toNat = y by omega, show (b0 - a0).toNat = x + (y + z) by omega, QK, QK, hx]
    omega
  · rw [show (b - a).toNat = 0 by omega]
    exact Nat.zero_le _
theorem Arch.mono {s : Sch} {f : Flw} {k n : Int} {j : Nat} {p p' : PlM} {since : Int → Option Int} (h : Arch s f k n j p since)
    (ha : ∀ u v, keyL p.atts f.1 k u v <+: keyL p'.atts f.1 k u v) (hd : ∀ d, d.1 = f.1 → d.2.1 = k → (d ∈ p'.dels ↔ d ∈ p.dels)) : Arch s f k n j p' since := by
  refine ⟨h.src, fun u v a0 hu hs => ?_, ?_, ?_⟩
  · obtain ⟨K1, h1, h2, h3⟩ := h.hop u v a0 hu hs
    exact ⟨K1, h1.trans (ha u v), h2, h3⟩
  · intro d hm h1 h2
    exact h.dlv.1 d ((hd d h1 h2).1 hm) h1 h2
  · intro b hb
    exact (hd (f.1, k, b - 1) rfl rfl).2 (h.dlv.2 b hb)
theorem YfL {α : Type} {L : List α} {j : Nat} {c : α} (h : L[j]? = some c) : L.take (j + 1) = L.take j ++ [c] := by
  rw [List.take_add_one, h]; rfl
theorem YbJ {L : List Cel} {j : Nat} {c : Cel} (h : L[j]? = some c) (q : Cel → Bool) : ((L.take (j + 1)).filter q).length = ((L.take j).filter q).length + if q c then 1 else 0 := by
  rw [YfL h, List.filter_append, List.length_append]
  by_cases hq : q c = true <;> simp [hq]
theorem Yap {s : Sch} {n a0 : Int} {j : Nat} {c : Cel} (h : (atE s n)[j]? = some c) {q : Cel → Bool} (hq : q c = false) (b : Option Int) : Zv s q b a0 n (j + 1) = Zv s q b a0 n j := by
  unfold Zv
  cases b with
  | some b => rfl
  | none => simp only [YbJ h, hq, Bool.false_eq_true, if_false, Nat.add_zero]
theorem Yj5 {s : Sch} {n a0 : Int} {j : Nat} {c : Cel} (h : (atE s n)[j]? = some c) (q : Cel → Bool) (b : Option Int) : Zv s q b a0 n (j + 1) ≤ Zv s q b a0 n j + 1 := by
  unfold Zv
  cases b with
  | some b => exact Nat.le_succ _
  | none =>
    simp only [YbJ h]
    split <;> (try split) <;> omega
theorem Yb0 {s : Sch} {n a0 : Int} {j : Nat} {q : Cel → Bool} (h : n < a0) : Zv s q none a0 n j = 0 := by
  unfold Zv
  simp only [if_neg (show ¬ a0 ≤ n by omega), show (n - a0).toNat = 0 by omega, cntL]
theorem YcN {id u v : Int} {c : Cel} : onP id u v c = true ↔ Xo c = id ∧ Yy c = u ∧ toC c = v := by simp [onP]
theorem Arch.offs {s : Sch} {f : Flw} {k n : Int} {j : Nat} {p : PlM} {since : Int → Option Int} {c : Cel} (h : Arch s f k n j p since) (hc : (atE s n)[j]? = some c) (hf : Xo c ≠ f.1) : Arch s f k n (j + 1) p since := by
  refine ⟨h.src, fun u v a0 hu hs => ?_, h.dlv⟩
  obtain ⟨K1, h1, h2, h3⟩ := h.hop u v a0 hu hs
  refine ⟨K1, h1, h2, ?_⟩
  rw [Yap hc]
  · exact h3
  · cases hq : onP f.1 u v c with
    | false => rfl
    | true => exact absurd (YcN.1 hq).1 hf
theorem YiD {f : Flw} (hf : FlOk f) {n : Int} (h : phaF f ≤ n) : (n - phaF f) / perF f = JW f (n - 1) ∨ ((n - phaF f) / perF f = JW f (n - 1) + 1 ∧ n = Yx f ((n - phaF f) / perF f)) := by
  have hp := hf.per
  unfold JW Yx
  by_cases h1 : n - 1 < phaF f
  · right
    rw [if_pos h1]
    have : n = phaF f := by omega
    subst this
    simp
  · rw [if_neg h1]
    generalize phaF f = a at *
    generalize perF f = q at *
    have e1 := Int.mul_ediv_add_emod (n - a) q
    have e2 := Int.mul_ediv_add_emod (n - 1 - a) q
    have b1 := Int.emod_nonneg (n - a) (show q ≠ 0 by omega)
    have b2 := Int.emod_lt_of_pos (n - a) (show 0 < q by omega)
    have b3 := Int.emod_nonneg (n - 1 - a) (show q ≠ 0 by omega)
    have b4 := Int.emod_lt_of_pos (n - 1 - a) (show 0 < q by omega)
    generalize (n - a) / q = x at *
    generalize (n - 1 - a) / q = y at *
    by_cases hxy : x = y
    · exact .inl hxy
    · right
      have hge : y ≤ x := by
        apply Int.not_lt.1
        intro hlt
        have := Int.mul_le_mul_of_nonneg_left (show x + 1 ≤ y by omega) (show 0 ≤ q by omega)
        rw [Int.mul_add] at this
        omega
      have hle : x ≤ y + 1 := by
        apply Int.not_lt.1
        intro hlt
        have := Int.mul_le_mul_of_nonneg_left (show y + 2 ≤ x by omega) (show 0 ≤ q by omega)
        rw [Int.mul_add] at this
        omega
      have hx : x = y + 1 := by omega
      refine ⟨hx, ?_⟩
      subst hx
      rw [Int.mul_add] at e1
      rw [Int.mul_comm (y + 1) q, Int.mul_add]
      omega
theorem Yg9 {atts : List AttM} {id k u v : Int} (h : ∀ a ∈ atts, Xo a.c = id → a.frame < k) : keyL atts id k u v = [] := by
  unfold keyL
  rw [List.filter_eq_nil_iff]
  intro a ha hq
  simp only [onK, decide_eq_true_eq] at hq
  have := h a ha hq.1
  omega
theorem YjZ {s : Sch} {f : Flw} {x : StM} {n : Int} {p : PlM} {st : List StM} (hf : FlOk f) (h : JN s f x n 0 p) : JN s f (relS f n x) n 1 ⟨st, p.atts, p.dels⟩ := by
  have hfr : x.frame = JW f (n - 1) := h.frame
  have same : x.frame = JW f n → relS f n x = x → JN s f (relS f n x) n 1 ⟨st, p.atts, p.dels⟩ := by
    intro h1 h2
    rw [h2]
    refine ⟨h1, h.none_a, h.none_d, fun h0 => ?_, fun k h1 h2 => ?_⟩
    · obtain ⟨hc, ha⟩ := h.cur h0
      refine ⟨⟨hc.done, hc.ack, hc.lost, fun v b hb => ?_⟩, ha.mono (fun u v => List.prefix_refl _) (fun d _ _ => Iff.rfl)⟩
      have := hc.bd v b hb
      simp only [if_true] at this
      simp only [Nat.one_ne_zero, if_false]
      omega
    · obtain ⟨since, ha⟩ := h.old k h1 h2
      exact ⟨since, ha.mono (fun u v => List.prefix_refl _) (fun d _ _ => Iff.rfl)⟩
  by_cases h1 : n < phaF f
  · refine same ?_ (by unfold relS; rw [if_pos h1])
    rw [hfr]; unfold JW; rw [if_pos h1, if_pos (by omega)]
  · have e : JW f n = (n - phaF f) / perF f := by unfold JW; rw [if_neg h1]
    rcases YiD hf (n := n) (by omega) with h2 | ⟨h2, h3⟩
    · refine same (by rw [hfr, e, h2]) ?_
      unfold relS; rw [if_neg h1, if_pos (by rw [h2, hfr])]
    · generalize hk : (n - phaF f) / perF f = k at *
      have hne : k ≠ x.frame := by omega
      have hrel : relS f n x = newS f n k := by unfold relS; rw [if_neg h1, hk, if_neg hne]
      rw [hrel]
      have ha0 : ∀ a ∈ p.atts, Xo a.c = f.1 → a.frame < k := fun a hm hq => by have := h.none_a a hm hq; omega
      have hk0 : ∀ u v, keyL p.atts f.1 k u v = [] := fun u v => Yg9 ha0
      have hdst : (newS f n k).since (dstF f) = none := by
        show (if dstF f = f.2.1 then some n else none) = none
        rw [if_neg fun e => hf.ne e.symm]
      have hsince : ∀ v b, (newS f n k).since v = some b → v = f.2.1 ∧ b = n := by
        intro v b hb
        change (if v = f.2.1 then some n else none) = some b at hb
        split at hb
        · rename_i hv
          exact ⟨hv, (Option.some.inj hb).symm⟩
        · cases hb
      refine ⟨e.symm, fun a hm hq => Int.le_of_lt (ha0 a hm hq), fun d hm hq => ?_, fun h0 => ⟨⟨?_, ?_, ?_, ?_⟩, ⟨?_, ?_, ?_, ?_⟩⟩, fun k' hk1 hk2 => ?_⟩
      · have := h.none_d d hm hq
        show d.2.1 ≤ k
        omega
      · rw [hdst]; rfl
      · intro u v t ht; cases ht
      · intro u v _ a hm
        change a ∈ keyL p.atts f.1 k u v at hm
        rw [hk0] at hm; cases hm
      · intro v b hb
        obtain ⟨-, rfl⟩ := hsince v b hb
        simp only [Nat.one_ne_zero, if_false]; omega
      · show (if f.2.1 = f.2.1 then some n else none) = some (Yx f k)
        rw [if_pos rfl, h3]
      · intro u v a0 hu hs
        obtain ⟨rfl, rfl⟩ := hsince u a0 hs
        refine ⟨[], List.nil_prefix, fun a h => by simp at h, ?_⟩
        unfold Zv
        cases hv : (newS f a0 k).since v with
        | some b =>
          obtain ⟨-, rfl⟩ := hsince v b hv
          simp only [show (b - 1 - b).toNat = 0 by omega, cntL, Nat.le_refl, List.length_nil]
        | none => simp [cntL]
      · intro d hm h1 h2
        have := h.none_d d hm h1
        change d.2.1 = k at h2
        omega
      · intro b hb
        rw [hdst] at hb; cases hb
      · change k' < k at hk2
        by_cases hlt : k' < x.frame
        · obtain ⟨since, ha⟩ := h.old k' hk1 hlt
          exact ⟨since, ha.mono (fun u v => List.prefix_refl _) (fun d _ _ => Iff.rfl)⟩
        · have hk' : k' = x.frame := by omega
          subst hk'
          obtain ⟨hc, ha⟩ := h.cur hk1
          refine ⟨x.since, ?_⟩
          have hn : n = Yx f x.frame + perF f := by
            rw [h3, show k = x.frame + 1 by omega]
            unfold Yx
            rw [Int.add_mul]; omega
          rw [← hn]
          exact ha.mono (fun u v => List.prefix_refl _) (fun d _ _ => Iff.rfl)
theorem YiJ {s : Sch} {f : Flw} {x : StM} {n : Int} {j : Nat} {p : PlM} {c : Cel} (h : JN s f x n (j + 1) p) (hc : (atE s n)[j]? = some c) (hn : f.1 = Xo c → ¬ canT f x c n) : JN s f x n (j + 2) p := by
  refine ⟨h.frame, h.none_a, h.none_d, fun h0 => ?_, h.old⟩
  obtain ⟨hu, ha⟩ := h.cur h0
  refine ⟨hu, ha.src, fun u v a0 hud hs => ?_, ha.dlv⟩
  obtain ⟨K1, h1, h2, h3⟩ := ha.hop u v a0 hud hs
  refine ⟨K1, h1, h2, ?_⟩
  change Zv s (onP f.1 u v) (x.since v) a0 n j ≤ K1.length at h3
  show Zv s (onP f.1 u v) (x.since v) a0 n (j + 1) ≤ K1.length
  cases hq : onP f.1 u v c with
  | false => rw [Yap hc hq]; exact h3
  | true =>
    obtain ⟨q1, q2, q3⟩ := YcN.1 hq
    cases hv : x.since v with
    | some b => rw [hv] at h3; exact h3
    | none =>
      by_cases hle : a0 ≤ n
      · exfalso
        refine hn q1.symm ⟨h0, ⟨a0, by rw [q2]; exact hs, hle⟩, by rw [q2]; exact hud, fun t ht => ?_⟩
        have := hu.ack _ _ t ht
        rw [q3, hv] at this
        cases this
      · rw [Yb0 (by omega)]; exact Nat.zero_le _
theorem Yg6 {s : Sch} {f g : Flw} {x : StM} {n k o : Int} {j : Nat} {p : PlM} {c : Cel} {st : List StM} {ds : List (Int × Int × Int)} (h : JN s f x n (j + 1) p) (hc : (atE s n)[j]? = some c) (hg : g.1 = Xo c) (hne : f.1 ≠ g.1) (hds : ∀ d ∈ ds, d.1 = g.1) :
    JN s f x n (j + 2) ⟨st, p.atts ++ [⟨n, k, c, o⟩], p.dels ++ ds⟩ := by
  have hfc : Xo c ≠ f.1 := fun e => hne (by rw [hg, e])
  have hk : ∀ k' u v, keyL (p.atts ++ [⟨n, k, c, o⟩]) f.1 k' u v = keyL p.atts f.1 k' u v := by
    intro k' u v
    rw [YbT]
    have : onK f.1 k' u v ⟨n, k, c, o⟩ = false := by
      simp only [onK, decide_eq_false_iff_not]
      exact fun hq => hfc hq.1
    rw [this]; simp
  have hd : ∀ d, d.1 = f.1 → ∀ k', d.2.1 = k' → (d ∈ p.dels ++ ds ↔ d ∈ p.dels) := by
    intro d h1 k' _
    rw [List.mem_append]
    refine ⟨fun h => h.elim id fun h => absurd ((hds d h).symm.trans h1) (fun e => hne e.symm), .inl⟩
  refine ⟨h.frame, fun a hm hq => ?_, fun d hm hq => ?_, fun h0 => ?_, fun k' h1 h2 => ?_⟩
  · rcases List.mem_append.1 hm with hm | hm
    · exact h.none_a a hm hq
    · obtain rfl := List.mem_singleton.1 hm
      exact absurd hq hfc
  · exact h.none_d d ((hd d hq _ rfl).1 hm) hq
  · obtain ⟨hu, ha⟩ := h.cur h0
    refine ⟨⟨hu.done, hu.ack, fun u v hv a hm => ?_, hu.bd⟩, (ha.offs hc hfc).mono (fun u v => by rw [hk]; exact List.prefix_refl _) (fun d h1 h2 => hd d h1 _ h2)⟩
    change a ∈ keyL (p.atts ++ [⟨n, k, c, o⟩]) f.1 x.frame u v at hm
    rw [hk] at hm
    exact hu.lost u v hv a hm
  · obtain ⟨since, ha⟩ := h.old k' h1 h2
    exact ⟨since, ha.mono (fun u v => by rw [hk]; exact List.prefix_refl _) (fun d h1 h2 => hd d h1 _ h2)⟩
theorem XC {f : Flw} {x : StM} {c : Cel} {n o : Int} {v b : Int} (h : (ZS f x c n o).since v = some b) : x.since v = some b ∨ (v = toC c ∧ b = n + 1 ∧ o ≠ 3 ∧ x.since v = none) := by
  change (if o = 3 ∨ (x.since (toC c)).isSome then x.since else fun v => if v = toC c then some (n + 1) else x.since v) v = some b at h
  split at h
  · exact .inl h
  · rename_i hno
    simp only [] at h
    split at h
    · rename_i hv
      refine .inr ⟨hv, (Option.some.inj h).symm, fun e => hno (.inl e), ?_⟩
      rw [hv]
      cases hx : x.since (toC c) with
      | none => rfl
      | some z => exact absurd (.inr (by rw [hx]; rfl)) hno
    · exact .inl h
theorem Jc {f : Flw} {x : StM} {c : Cel} {n o : Int} {v b : Int} (h : x.since v = some b) : (ZS f x c n o).since v = some b := by
  show (if o = 3 ∨ (x.since (toC c)).isSome then x.since else fun v => if v = toC c then some (n + 1) else x.since v) v = some b
  split
  · exact h
  · rename_i hno
    simp only []
    split
    · rename_i hv
      exact absurd (.inr (by rw [← hv, h]; rfl)) hno
    · exact h
theorem Qg {f : Flw} {x : StM} {c : Cel} {n o : Int} (ho : o ≠ 3) : ((ZS f x c n o).since (toC c)).isSome = true := by
  show ((if o = 3 ∨ (x.since (toC c)).isSome then x.since else fun v => if v = toC c then some (n + 1) else x.since v) (toC c)).isSome = true
  split
  · rename_i h
    exact h.resolve_left ho
  · simp
theorem Yb4 {f : Flw} {x : StM} {c : Cel} {n o : Int} {v : Int} (h : (ZS f x c n o).since v = none) : x.since v = none ∧ (v = toC c → o = 3) := by
  constructor
  · cases hx : x.since v with
    | none => rfl
    | some b => rw [Jc hx] at h; cases h
  · rintro rfl
    by_cases ho : o = 3
    · exact ho
    · have := Qg (f := f) (x := x) (c := c) (n := n) ho
      rw [h] at this
      cases this
theorem YjY {s : Sch} {f : Flw} {x : StM} {n o : Int} {j : Nat} {p : PlM} {c : Cel} {st : List StM} (h : JN s f x n (j + 1) p) (hc : (atE s n)[j]? = some c) (hn : canT f x c n) :
    JN s f (ZS f x c n o) n (j + 2) ⟨st, p.atts ++ [⟨n, x.frame, c, o⟩], p.dels ++ delS f x c n o⟩ := by
  obtain ⟨h0, ⟨a1, hs1, hle1⟩, hdst, hack⟩ := hn
  obtain ⟨hu, ha⟩ := h.cur h0
  have hk : ∀ k' u v, keyL (p.atts ++ [⟨n, x.frame, c, o⟩]) f.1 k' u v = keyL p.atts f.1 k' u v ++ if onK f.1 k' u v ⟨n, x.frame, c, o⟩ then [⟨n, x.frame, c, o⟩] else [] := fun k' u v => YbT ..
  have hdel : ∀ d ∈ delS f x c n o, d = (f.1, x.frame, n) ∧ o ≠ 3 ∧ toC c = dstF f ∧ x.done = false := by
    intro d hd
    unfold delS at hd
    split at hd
    · rename_i hq
      exact ⟨List.mem_singleton.1 hd, hq⟩
    · cases hd
  have hbd : ∀ v b, x.since v = some b → b ≤ n + 1 := fun v b hb => by
    have := hu.bd v b hb
    simp only [Nat.add_eq_zero_iff, Nat.one_ne_zero, and_false, if_false] at this
    omega
  refine ⟨h.frame, fun a hm hq => ?_, fun d hm hq => ?_, fun _ => ⟨⟨?_, fun u v t ht => ?_, fun u v hv a hm => ?_, fun v b hb => ?_⟩, ⟨Jc ha.src, fun u v a0 hud hs => ?_, fun d hm h1 h2 => ?_, fun b hb => ?_⟩⟩, fun k' h1 h2 => ?_⟩
  · rcases List.mem_append.1 hm with hm | hm
    · exact h.none_a a hm hq
    · obtain rfl := List.mem_singleton.1 hm
      exact Int.le_refl _
  · rcases List.mem_append.1 hm with hm | hm
    · exact h.none_d d hm hq
    · obtain ⟨rfl, -⟩ := hdel d hm
      exact Int.le_refl _
  · -- done
    show (x.done || (decide (o ≠ 3) && decide (toC c = dstF f))) = ((ZS f x c n o).since (dstF f)).isSome
    cases hx : x.since (dstF f) with
    | some b => rw [Jc hx, hu.done, hx]; rfl
    | none =>
      rw [hu.done, hx]
      by_cases h3 : o = 3
      · cases hr : (ZS f x c n o).since (dstF f) with
        | none => simp [h3]
        | some b =>
          rcases XC hr with h | h
          · rw [hx] at h; cases h
          · exact absurd h3 h.2.2.1
      · by_cases ht : toC c = dstF f
        · rw [← ht, Qg h3]; simp [h3]
        · cases hr : (ZS f x c n o).since (dstF f) with
          | none => simp [ht]
          | some b =>
            rcases XC hr with h | h
            · rw [hx] at h; cases h
            · exact absurd h.1.symm ht
  · -- acked
    change (if o = 1 ∧ x.acked (Yy c) (toC c) = none then fun u v => if u = Yy c ∧ v = toC c then some n else x.acked u v else x.acked) u v = some t at ht
    have old : x.acked u v = some t → ((ZS f x c n o).since v).isSome = true := by
      intro ht
      have := hu.ack u v t ht
      cases hx : x.since v with
      | none => rw [hx] at this; cases this
      | some b => rw [Jc hx]; rfl
    split at ht
    · rename_i ho
      simp only [] at ht
      split at ht
      · rename_i huv
        rw [huv.2]
        exact Qg (by rw [ho.1]; decide)
      · exact old ht
    · exact old ht
  · -- lost
    obtain ⟨hv1, hv2⟩ := Yb4 hv
    change a ∈ keyL (p.atts ++ [⟨n, x.frame, c, o⟩]) f.1 x.frame u v at hm
    rw [hk] at hm
    rcases List.mem_append.1 hm with hm | hm
    · exact hu.lost u v hv1 a hm
    · split at hm
      · rename_i hq
        obtain rfl := List.mem_singleton.1 hm
        simp only [onK, decide_eq_true_eq] at hq
        exact hv2 hq.2.2.2.symm
      · cases hm
  · -- bounds
    rw [if_neg (show ¬ j + 2 = 0 by omega)]
    rcases XC hb with h | h
    · have := hbd v b h; omega
    · omega
  · -- hop
    show ∃ K1, K1 <+: keyL (p.atts ++ [⟨n, x.frame, c, o⟩]) f.1 x.frame u v ∧ (∀ a ∈ K1, a.o = 3) ∧ Zv s (onP f.1 u v) ((ZS f x c n o).since v) a0 n (j + 1) ≤ K1.length
    rw [hk]
    rcases XC hs with hs | ⟨rfl, rfl, ho, hnone⟩
    · obtain ⟨K1, h1, h2, h3⟩ := ha.hop u v a0 hud hs
      change Zv s (onP f.1 u v) (x.since v) a0 n j ≤ K1.length at h3
      cases hx : x.since v with
      | some b =>
        rw [Jc hx]
        rw [hx] at h3
        exact ⟨K1, h1.trans (List.prefix_append _ _), h2, h3⟩
      | none =>
        rw [hx] at h3
        cases hr : (ZS f x c n o).since v with
        | some b =>
          rcases XC hr with h | ⟨rfl, rfl, ho, -⟩
          · rw [hx] at h; cases h
          · refine ⟨K1, h1.trans (List.prefix_append _ _), h2, Nat.le_trans ?_ h3⟩
            unfold Zv
            simp only [show n + 1 - 1 - a0 = n - a0 by omega]
            exact Nat.le_add_right _ _
        | none =>
          obtain ⟨-, hv2⟩ := Yb4 hr
          cases hq : onP f.1 u v c with
          | false => exact ⟨K1, h1.trans (List.prefix_append _ _), h2, by rw [Yap hc hq]; exact h3⟩
          | true =>
            obtain ⟨q1, q2, q3⟩ := YcN.1 hq
            have ho : o = 3 := hv2 q3.symm
            have hon : onK f.1 x.frame u v ⟨n, x.frame, c, o⟩ = true := by simp [onK, q1, q2, q3]
            rw [hon, if_pos rfl]
            refine ⟨keyL p.atts f.1 x.frame u v ++ [⟨n, x.frame, c, o⟩], List.prefix_refl _, fun a hm => ?_, ?_⟩
            · rcases List.mem_append.1 hm with hm | hm
              · exact hu.lost u v hx a hm
              · obtain rfl := List.mem_singleton.1 hm
                exact ho
            · have := Yj5 (a0 := a0) hc (onP f.1 u v) none
              have hl := h1.length_le
              rw [List.length_append]
              simp only [List.length_singleton]
              omega
    · refine ⟨[], List.nil_prefix, fun a h => by simp at h, ?_⟩
      cases hr : (ZS f x c n o).since v with
      | none => rw [Yb0 (by omega)]; exact Nat.zero_le _
      | some b =>
        have hb : b ≤ n + 1 := by
          rcases XC hr with h | h
          · exact hbd v b h
          · omega
        unfold Zv
        simp only [show (b - 1 - (n + 1)).toNat = 0 by omega, cntL, List.length_nil, Nat.le_refl]
  · -- deliveries: the slot
    rcases List.mem_append.1 hm with hm | hm
    · exact Jc (ha.dlv.1 d hm h1 h2)
    · obtain ⟨rfl, ho, ht, hd⟩ := hdel d hm
      have hx : x.since (dstF f) = none := by
        have := hu.done
        rw [hd] at this
        cases hx : x.since (dstF f) with
        | none => rfl
        | some b => rw [hx] at this; cases this
      cases hr : (ZS f x c n o).since (dstF f) with
      | none =>
        have := Qg (f := f) (x := x) (c := c) (n := n) ho
        rw [ht, hr] at this; cases this
      | some b =>
        rcases XC hr with h | h
        · rw [hx] at h; cases h
        · show some b = some (n + 1); rw [h.2.1]
  · -- there is one
    show (f.1, x.frame, b - 1) ∈ p.dels ++ delS f x c n o
    rcases XC hb with h | ⟨h1, h2, h3, h4⟩
    · exact List.mem_append.2 (.inl (ha.dlv.2 b h))
    · have hd : x.done = false := by rw [hu.done, h4]; rfl
      refine List.mem_append.2 (.inr ?_)
      unfold delS
      rw [if_pos ⟨h3, h1.symm, hd⟩, h2]
      simp
  · -- the frames before
    change k' < x.frame at h2
    obtain ⟨since, hk'⟩ := h.old k' h1 h2
    refine ⟨since, hk'.mono (fun u v => by rw [hk]; exact List.prefix_append _ _) (fun d d1 d2 => ?_)⟩
    show d ∈ p.dels ++ delS f x c n o ↔ d ∈ p.dels
    rw [List.mem_append]
    refine ⟨fun hm => hm.elim id fun hm => ?_, .inl⟩
    obtain ⟨rfl, -⟩ := hdel d hm
    change x.frame = k' at d2
    omega
theorem YiI {s : Sch} {f : Flw} {x : StM} {n : Int} {p : PlM} {ds : List (Int × Int × Int)} (h : JN s f x n ((atE s n).length + 1) p) (hds : ds.Perm p.dels) : JN s f x (n + 1) 0 ⟨p.st, p.atts, ds⟩ := by
  have hfr : x.frame = JW f n := by
    have := h.frame
    rwa [if_neg (by omega)] at this
  refine ⟨by rw [if_pos rfl, show n + 1 - 1 = n by omega]; exact hfr, h.none_a, fun d hm hq => h.none_d d (hds.mem_iff.1 hm) hq, fun h0 => ?_, fun k h1 h2 => ?_⟩
  · obtain ⟨hu, ha⟩ := h.cur h0
    have hbd : ∀ v b, x.since v = some b → b ≤ n + 1 := fun v b hb => by
      have := hu.bd v b hb
      rw [if_neg (by omega)] at this
      omega
    refine ⟨⟨hu.done, hu.ack, hu.lost, fun v b hb => by have := hbd v b hb; simp only [if_true]; omega⟩, ⟨ha.src, fun u v a0 hud hs => ?_, fun d hm h1 h2 => ha.dlv.1 d (hds.mem_iff.1 hm) h1 h2, fun b hb => hds.mem_iff.2 (ha.dlv.2 b hb)⟩⟩
    obtain ⟨K1, h1, h2, h3⟩ := ha.hop u v a0 hud hs
    refine ⟨K1, h1, h2, Nat.le_trans ?_ h3⟩
    cases x.since v with
    | some b => exact Nat.le_refl _
    | none =>
      unfold Zv
      simp only [Nat.zero_sub, List.take_zero, List.filter_nil, List.length_nil, ite_self, Nat.add_zero, Nat.add_sub_cancel]
      have hle := hbd u a0 hs
      by_cases h : a0 ≤ n
      · rw [if_pos h, List.take_length, show (n + 1 - a0).toNat = (n - a0).toNat + 1 by omega, Ybw, show a0 + ((n - a0).toNat : Int) = n by omega]
        exact Nat.le_refl _
      · rw [show (n + 1 - a0).toNat = 0 by omega]
        exact Nat.zero_le _
  · obtain ⟨since, ha⟩ := h.old k h1 h2
    exact ⟨since, ha.mono (fun u v => List.prefix_refl _) (fun d _ _ => hds.mem_iff)⟩
theorem Yli {l : List Flw} {s : Sch} (hok : ∀ f ∈ l, FlOk f) (hid : l.Pairwise fun a b => a.1 ≠ b.1) {n : Int} {J : Nat} {p : PlM} (h : Pl l s n J p) : 0 ≤ n ∧ p.st.length = l.length ∧ ∀ (i : Nat) f x, l[i]? = some f → p.st[i]? = some x → JN s f x n J p := by
  induction h with
  | start =>
    refine ⟨Int.le_refl _, by simp, fun i f x hf hx => ?_⟩
    have hx : x = YfP := by
      rw [List.getElem?_map, hf] at hx
      exact (Option.some.inj hx).symm
    subst hx
    have hp := (hok f (List.mem_of_getElem? hf)).pha
    refine ⟨by unfold JW; rw [if_pos rfl, if_pos (by omega)]; rfl, fun a h => by simp at h, fun a h => by simp at h, fun h => absurd h (by decide), fun k h1 h2 => ?_⟩
    change k < -1 at h2
    omega
  | rel st hp hl hst ih =>
    obtain ⟨h1, h2, h3⟩ := ih
    refine ⟨h1, hl, fun i f x hf hx => ?_⟩
    have hi : i < l.length := (List.getElem?_eq_some_iff.1 hf).1
    obtain ⟨y, hy⟩ : ∃ y, _ = some y := ⟨_, List.getElem?_eq_getElem (by rw [h2]; exact hi)⟩
    have := hst i f y hf hy
    change st[i]? = some x at hx
    rw [hx] at this
    obtain rfl := Option.some.inj this
    exact YjZ (hok f (List.mem_of_getElem? hf)) (h3 i f y hf hy)
  | skip hp hc hn ih =>
    obtain ⟨h1, h2, h3⟩ := ih
    exact ⟨h1, h2, fun i f x hf hx => YiJ (h3 i f x hf hx) hc (hn i f x hf hx)⟩
  | @att n j i p c f x o hp hc hf hx hg hn ih =>
    obtain ⟨h1, h2, h3⟩ := ih
    refine ⟨h1, by simp [h2], fun i' f' x' hf' hx' => ?_⟩
    change (p.st.set i _)[i']? = some x' at hx'
    by_cases hi : i = i'
    · subst hi
      rw [hf] at hf'
      obtain rfl := Option.some.inj hf'
      have hlt : i < p.st.length := (List.getElem?_eq_some_iff.1 hx).1
      rw [List.getElem?_set_self hlt] at hx'
      obtain rfl := Option.some.inj hx'
      exact YjY (h3 i f x hf hx) hc hn
    · rw [List.getElem?_set_ne hi] at hx'
      refine Yg6 (g := f) (h3 i' f' x' hf' hx') hc hg ?_ (fun d hd => ?_)
      · obtain ⟨hlt, e1⟩ := List.getElem?_eq_some_iff.1 hf
        obtain ⟨hlt', e2⟩ := List.getElem?_eq_some_iff.1 hf'
        rw [← e1, ← e2]
        rcases Nat.lt_or_gt_of_ne hi with h | h
        · exact fun e => (List.pairwise_iff_getElem.1 hid i i' hlt hlt' h) e.symm
        · exact List.pairwise_iff_getElem.1 hid i' i hlt' hlt h
      · unfold delS at hd
        split at hd
        · rw [List.mem_singleton.1 hd]
        · cases hd
  | next ds hp hd ih =>
    obtain ⟨h1, h2, h3⟩ := ih
    exact ⟨by omega, h2, fun i f x hf hx => YiI (h3 i f x hf hx) hd⟩
theorem YfD {len : Int} {C : Lk → List Cel} {endd : Int} : ∀ {ls : List Lk} {a : Int} {z : Cel × Int}, z ∈ runP len C endd ls a → a ≤ z.2
  | [], a, z, h => by cases h
  | l :: ls, a, z, h => by
    rw [runP] at h
    have h1 : ∀ z ∈ hopP len (C l) (endd - a).toNat (YJ l) a, a ≤ z.2 := fun z hz => (Uz hz).1
    split at h
    · exact h1 z h
    · rcases List.mem_append.1 h with h | h
      · exact h1 z h
      · have h2 := YfD h
        have h3 : a ≤ Yv (hopP len (C l) (endd - a).toNat (YJ l) a) a := by
          unfold Yv
          cases e : (hopP len (C l) (endd - a).toNat (YJ l) a).getLast? with
          | none => exact Int.le_refl _
          | some y => have := h1 y (List.mem_of_getLast? e); simp only []; omega
        omega
def brO (loss : Int) : List Int → Nat → Bool
  | [], _ => false
  | o :: os, r => if o = 1 then brO loss os 0 else if loss < (r : Int) + 1 then true else brO loss os (r + 1)
theorem YdD {loss : Int} : ∀ (os more : List Int) (r : Nat), (∀ o ∈ os, o = 3) → 1 ≤ os.length → loss < (r : Int) + os.length → brO loss (os ++ more) r = true
  | [], _, _, _, h, _ => by simp at h
  | o :: os, more, r, h3, _, hl => by
    rw [List.cons_append, brO, h3 o (by simp), if_neg (by decide)]
    split
    · rfl
    · rename_i hno
      rw [List.length_cons] at hl
      exact YdD os more (r + 1) (fun o ho => h3 o (by simp [ho])) (by omega) (by omega)
theorem Yjf {s : Sch} {q : Cel → Bool} {a : Int} (h0 : 0 ≤ a) (hs : Y6 s = true) : ∀ k : Nat, (Y4 s.len a (s.cells.filter q) k).length ≤ ((atE s a).filter q).length := by
  intro k
  unfold atE
  rw [if_neg (by rintro (h | h); rw [hs] at h; cases h; omega), List.filter_filter]
  generalize s.cells = L
  induction L generalizing k with
  | nil => simp [Y4]
  | cons c L ih =>
    by_cases hq : q c = true
    · rw [List.filter_cons, if_pos hq, Y4]
      by_cases hc : c.1 = a.tmod s.len
      · have e : (List.filter (fun a_1 => q a_1 && decide (a_1.1 = a.tmod s.len)) (c :: L)).length = (List.filter (fun a_1 => q a_1 && decide (a_1.1 = a.tmod s.len)) L).length + 1 := by
          rw [List.filter_cons, if_pos (by simp [hq, hc]), List.length_cons]
        rw [e]
        split
        · rw [List.length_cons]; have := ih (k - 1); omega
        · have := ih k; omega
      · rw [if_neg (fun h => hc h.1), List.filter_cons, if_neg (by simp [hc])]
        exact ih k
    · rw [List.filter_cons, if_neg hq, List.filter_cons, if_neg (by simp [hq])]
      exact ih k
theorem QA {x y : List (Cel × Int)} {a : Int} (hy : y ≠ []) : Yv (x ++ y) a = Yv y a := by
  unfold Yv
  rw [List.getLast?_append]
  cases h : y.getLast? with
  | none => exact absurd (List.getLast?_eq_none_iff.1 h) hy
  | some z => rfl
theorem Ybn {y : List (Cel × Int)} (hy : y ≠ []) (a b : Int) : Yv y a = Yv y b := by
  unfold Yv
  cases h : y.getLast? with
  | none => exact absurd (List.getLast?_eq_none_iff.1 h) hy
  | some z => rfl
theorem Wh {y : List (Cel × Int)} {a lo : Int} (hy : y ≠ []) (h : ∀ z ∈ y, lo ≤ z.2) : lo + 1 ≤ Yv y a := by
  unfold Yv
  cases e : y.getLast? with
  | none => exact absurd (List.getLast?_eq_none_iff.1 e) hy
  | some z => have := h z (List.mem_of_getLast? e); simp only []; omega
theorem Ygn {s : Sch} {q : Cel → Bool} (hs : Y6 s = true) : ∀ (f k : Nat) (a : Int), 0 ≤ a → (hopP s.len (s.cells.filter q) f k a).length ≤ cntL s q (Yv (hopP s.len (s.cells.filter q) f k a) a - a).toNat a
  | 0, _, _, _ => Nat.zero_le _
  | f + 1, k, a, h0 => by
    rw [hopP]
    have h1 := Yjf (q := q) h0 hs k
    generalize hx : Y4 s.len a (s.cells.filter q) k = x at *
    have ih := Ygn (q := q) hs f (k - x.length) (a + 1) (by omega)
    have hsnd : ∀ z ∈ hopP s.len (s.cells.filter q) f (k - x.length) (a + 1), a + 1 ≤ z.2 := fun z hz => (Uz hz).1
    generalize hopP s.len (s.cells.filter q) f (k - x.length) (a + 1) = y at *
    by_cases hy : y = []
    · subst hy
      rw [List.append_nil]
      by_cases hx0 : x = []
      · subst hx0; exact Nat.zero_le _
      · have : Yv x a = a + 1 := by
          unfold Yv
          cases e : x.getLast? with
          | none => exact absurd (List.getLast?_eq_none_iff.1 e) hx0
          | some z =>
            have hz := List.mem_of_getLast? e
            rw [← hx] at hz
            simp only [Um hz]
        rw [this, show (a + 1 - a).toNat = 0 + 1 by omega, cntL]
        omega
    · rw [QA hy, Ybn hy a (a + 1)]
      have hlt := Wh (a := a + 1) hy hsnd
      rw [show (Yv y (a + 1) - a).toNat = (Yv y (a + 1) - (a + 1)).toNat + 1 by omega, cntL, List.length_append]
      omega
def Yc5 (d : Int) : Int → List Lk → Prop
  | u, [] => u = d
  | u, l :: ls => u = l.1 ∧ u ≠ d ∧ Yc5 d l.2.1 ls
theorem YiE {s : Sch} {f : Flw} {k n : Int} {p : PlM} {since : Int → Option Int} (ha : Arch s f k n 0 p since) {u v a0 a a' : Int} (hu : u ≠ dstF f) (hs : since u = some a0) (hle : a0 ≤ a) {m : Nat} (hm : m ≤ cntL s (onP f.1 u v) (a' - a).toNat a) (hn : a' ≤ n)
    (hno : ∀ K1, K1 <+: keyL p.atts f.1 k u v → (∀ x ∈ K1, x.o = 3) → K1.length < m) : ∃ b, since v = some b ∧ b ≤ a' := by
  obtain ⟨K1, h1, h2, h3⟩ := ha.hop u v a0 hu hs
  have h4 := hno K1 h1 h2
  cases hv : since v with
  | none =>
    exfalso
    rw [hv] at h3
    unfold Zv at h3
    simp only [List.take_zero, List.filter_nil, List.length_nil, ite_self, Nat.add_zero] at h3
    have := Ybv s (onP f.1 u v) hle hn
    omega
  | some b =>
    refine ⟨b, rfl, Int.not_lt.1 fun hlt => ?_⟩
    rw [hv] at h3
    change cntL s (onP f.1 u v) (b - 1 - a0).toNat a0 ≤ K1.length at h3
    have := Ybv s (onP f.1 u v) hle (show a' ≤ b - 1 by omega)
    omega
theorem YeO {s : Sch} (hs : Y6 s = true) {f : Flw} {k n : Int} {p : PlM} {since : Int → Option Int} (ha : Arch s f k n 0 p since) (endd : Int) : ∀ (ls : List Lk) (u a0 a : Int), Yc5 (dstF f) u ls → since u = some a0 → a0 ≤ a → 0 ≤ a → (∀ l ∈ ls, 0 ≤ l.2.2) →
    (∀ l ∈ ls, brO l.2.2 ((keyL p.atts f.1 k l.1 l.2.1).map AttM.o) 0 = false) →
    Y7 ls ≤ (runP s.len (Xk s f.1) endd ls a).length → Yv (runP s.len (Xk s f.1) endd ls a) a ≤ n → ∃ b, since (dstF f) = some b ∧ b ≤ Yv (runP s.len (Xk s f.1) endd ls a) a
  | [], u, a0, a, hc, hsu, hle, _, _, _, _, _ => by
    change u = dstF f at hc
    refine ⟨a0, by rw [← hc]; exact hsu, ?_⟩
    simpa [runP, Yv] using hle
  | l :: ls, u, a0, a, hc, hsu, hle, h0, hl0, hbr, hfull, hn => by
    obtain ⟨hc1, hc2, hc3⟩ := hc
    have hlen := Wr s.len (Xk s f.1 l) (endd - a).toNat (YJ l) a
    have hcnt := Ygn (q := onP f.1 l.1 l.2.1) hs (endd - a).toNat (YJ l) a h0
    have hsnd : ∀ z ∈ hopP s.len (Xk s f.1 l) (endd - a).toNat (YJ l) a, a ≤ z.2 := fun z hz => (Uz hz).1
    change (hopP s.len (Xk s f.1 l) (endd - a).toNat (YJ l) a).length ≤ cntL s (onP f.1 l.1 l.2.1) (Yv (hopP s.len (Xk s f.1 l) (endd - a).toNat (YJ l) a) a - a).toNat a at hcnt
    rw [runP] at hfull hn ⊢
    generalize hopP s.len (Xk s f.1 l) (endd - a).toNat (YJ l) a = x at *
    have hneed : Y7 (l :: ls) = YJ l + Y7 ls := by simp [Y7]
    have h1 : 1 ≤ YJ l := by have := hl0 l (by simp); unfold YJ; omega
    by_cases hx : x.length < YJ l
    · rw [if_pos hx] at hfull
      omega
    · rw [if_neg hx] at hfull hn ⊢
      have hxl : x.length = YJ l := by omega
      have hxne : x ≠ [] := by rintro rfl; simp at hxl; omega
      have hafter : a + 1 ≤ Yv x a := Wh hxne hsnd
      have hrl := Qi s.len (Xk s f.1) endd ls (Yv x a)
      rw [List.length_append] at hfull
      have hzn : Yv x a ≤ n ∧ Yv (x ++ runP s.len (Xk s f.1) endd ls (Yv x a)) a = Yv (runP s.len (Xk s f.1) endd ls (Yv x a)) (Yv x a) := by
        by_cases hr : runP s.len (Xk s f.1) endd ls (Yv x a) = []
        · rw [hr, List.append_nil] at hn ⊢
          exact ⟨hn, by simp [Yv]⟩
        · rw [QA hr, Ybn hr a (Yv x a)] at hn ⊢
          refine ⟨?_, rfl⟩
          have := Wh (a := Yv x a) (lo := Yv x a) hr (fun z hz => (YfD hz))
          omega
      obtain ⟨b, hb, hbl⟩ := YiE ha (v := l.2.1) hc2 hsu hle (m := YJ l) (by rw [hc1]; omega) hzn.1 (fun K1 k1 k2 => by
        apply Nat.lt_of_not_le
        intro hge
        rw [hc1] at k1
        obtain ⟨more, hm⟩ := k1
        have := hbr l (by simp)
        rw [← hm, List.map_append] at this
        rw [YdD (K1.map AttM.o) (more.map AttM.o) 0 (fun o ho => by obtain ⟨z, hz, rfl⟩ := List.mem_map.1 ho; exact k2 z hz) (by rw [List.length_map]; omega) (by rw [List.length_map]; unfold YJ at hge; omega)] at this
        cases this)
      rw [hzn.2] at hn ⊢
      exact YeO hs ha endd ls l.2.1 b (Yv x a) hc3 hb hbl (by omega) (fun z hz => hl0 z (by simp [hz])) (fun z hz => hbr z (by simp [hz])) (by omega) hn
theorem YjO {s : Sch} {f : Flw} {x : StM} {n : Int} {p : PlM} (hf : FlOk f) (h : JN s f x n 0 p) {k : Int} (h0 : 0 ≤ k) (hk : Yx f k < n) : ∃ m since, Arch s f k m 0 p since ∧ ∀ z, z ≤ n → z ≤ Yx f k + perF f → z ≤ m := by
  have hp := hf.per
  have hpha := hf.pha
  have hfr : x.frame = JW f (n - 1) := h.frame
  have hk0 : 0 ≤ k * perF f := Int.mul_nonneg h0 (by omega)
  have hge : k ≤ x.frame := by
    rw [hfr]
    unfold Yx at hk
    unfold JW
    rw [if_neg (by omega)]
    exact (Int.le_ediv_iff_mul_le (by omega)).2 (by omega)
  by_cases hlt : k < x.frame
  · obtain ⟨since, ha⟩ := h.old k h0 hlt
    exact ⟨_, since, ha, fun z _ h2 => h2⟩
  · obtain rfl : k = x.frame := by omega
    exact ⟨n, x.since, (h.cur h0).2, fun z h1 _ => h1⟩
def shP (d : Int) (y : Cel × Int) : Cel × Int := (y.1, y.2 + d)
theorem U7 {len a z : Int} (hz : 0 ≤ z) (hl : 1 ≤ len) (ha : 0 ≤ a) : ∀ (cs : List Cel) (k : Nat), Y4 len (a + z * len) cs k = (Y4 len a cs k).map (shP (z * len))
  | [], _ => rfl
  | c :: cs, k => by
    have e : (a + z * len).tmod len = a.tmod len := by
      have h1 : 0 ≤ z * len := Int.mul_nonneg hz (by omega)
      rw [Int.tmod_eq_emod_of_nonneg (by omega), Int.tmod_eq_emod_of_nonneg ha, Int.add_mul_emod_self_right]
    rw [Y4, Y4, e]
    split
    · rw [List.map_cons, U7 hz hl ha cs (k - 1)]; rfl
    · exact U7 hz hl ha cs k
theorem YbN {len z : Int} (hz : 0 ≤ z) (hl : 1 ≤ len) (cs : List Cel) : ∀ (f k : Nat) (a : Int), 0 ≤ a → hopP len cs f k (a + z * len) = (hopP len cs f k a).map (shP (z * len))
  | 0, _, _, _ => rfl
  | f + 1, k, a, ha => by
    rw [hopP, hopP, U7 hz hl ha, List.length_map, List.map_append, show a + z * len + 1 = a + 1 + z * len by omega, YbN hz hl cs f _ (a + 1) (by omega)]
theorem Oo (x : List (Cel × Int)) (a d : Int) : Yv (x.map (shP d)) (a + d) = Yv x a + d := by
  unfold Yv
  rw [List.getLast?_map]
  cases x.getLast? with
  | none => rfl
  | some y => simp only [Option.map_some, shP]; omega
theorem Yil {x : List (Cel × Int)} {a : Int} (h : ∀ z ∈ x, a ≤ z.2) : a ≤ Yv x a := by
  unfold Yv
  cases e : x.getLast? with
  | none => exact Int.le_refl _
  | some y => have := h y (List.mem_of_getLast? e); simp only []; omega
theorem Yb5 {len z : Int} (hz : 0 ≤ z) (hl : 1 ≤ len) (C : Lk → List Cel) (endd : Int) : ∀ (ls : List Lk) (a : Int), 0 ≤ a → runP len C (endd + z * len) ls (a + z * len) = (runP len C endd ls a).map (shP (z * len))
  | [], _, _ => rfl
  | l :: ls, a, ha => by
    rw [runP, runP, show endd + z * len - (a + z * len) = endd - a by omega, YbN hz hl _ _ _ _ ha, List.length_map, Oo]
    split
    · rfl
    · rw [List.map_append, Yb5 hz hl C endd ls _ (by
        have := Yil (x := hopP len (C l) (endd - a).toNat (YJ l) a) (a := a) (fun z hz => (Uz hz).1)
        omega)]
theorem YdB {S : Int → Option (List Int)} {len per : Int} (hp : 1 ≤ per) {r : Int × Int × List Int} : ∀ {fuel : Nat} {rel : Int} {b : Int × Int × List Int}, VH S len per fuel rel b = some r →
    b.1 ≤ r.1 ∧ ∀ i : Nat, i < fuel → rel + i * per < len → ∃ l, S (rel + i * per) = some l ∧ ZN l - (rel + i * per) + 1 ≤ r.1
  | 0, rel, b, h => by
    obtain rfl := Option.some.inj (show some b = some r from h)
    exact ⟨Int.le_refl _, fun i hi => absurd hi (Nat.not_lt_zero _)⟩
  | fuel + 1, rel, b, h => by
    rw [VH] at h
    split at h
    · rename_i hle
      obtain rfl := Option.some.inj h
      refine ⟨Int.le_refl _, fun i _ hi => ?_⟩
      have : 0 ≤ (i : Int) * per := Int.mul_nonneg (by omega) (by omega)
      omega
    · cases hS : S rel with
      | none => rw [hS] at h; cases h
      | some l =>
        rw [hS] at h
        obtain ⟨h1, h2⟩ := YdB hp h
        have h3 : b.1 ≤ r.1 ∧ ZN l - rel + 1 ≤ r.1 := by
          split at h1
          · rename_i hlt
            simp only [] at h1
            omega
          · omega
        refine ⟨h3.1, fun i hi hlt => ?_⟩
        cases i with
        | zero => exact ⟨l, by simpa using hS, by simpa using h3.2⟩
        | succ i =>
          have e : rel + ((i + 1 : Nat) : Int) * per = rel + per + (i : Int) * per := by
            rw [show ((i + 1 : Nat) : Int) = (i : Int) + 1 by omega, Int.add_mul]; omega
          rw [e] at hlt ⊢
          exact h2 i (by omega) hlt
theorem Yfq {x : List (Cel × Int)} {a : Int} (hx : x ≠ []) : ZN (x.map Prod.snd) + 1 = Yv x a := by
  unfold ZN Yv
  rw [List.getD_eq_getElem?_getD, ← List.getLast?_eq_getElem?, List.getLast?_map]
  cases h : x.getLast? with
  | none => exact absurd (List.getLast?_eq_none_iff.1 h) hx
  | some y => rfl
theorem Yg2 {len per pha : Int} {C : Lk → List Cel} {ls : List Lk} {b : Int × Int × List Int} (hl : 1 ≤ len) (hp : 1 ≤ per) (h0 : 0 ≤ pha) (h1 : pha < per) (hm : len.tmod per = 0) (hne : 1 ≤ Y7 ls)
    (hb : VH (fun a => runR len C (a + per) ls a) len per len.toNat pha (0, 0, []) = some b) {k : Int} (hk : 0 ≤ k) :
    Y7 ls ≤ (runP len C (pha + k * per + per) ls (pha + k * per)).length ∧ Yv (runP len C (pha + k * per + per) ls (pha + k * per)) (pha + k * per) ≤ pha + k * per + b.1 := by
  rw [Int.tmod_eq_emod_of_nonneg (by omega)] at hm
  have hq : len = per * (len / per) := by have := Int.mul_ediv_add_emod len per; omega
  generalize len / per = q at hq
  have hq1 : 1 ≤ q := by
    apply Int.not_lt.1
    intro hlt
    have := Int.mul_le_mul_of_nonneg_left (show q ≤ 0 by omega) (show 0 ≤ per by omega)
    rw [Int.mul_zero] at this
    omega
  have e1 := Int.mul_ediv_add_emod k q
  have b1 := Int.emod_nonneg k (show q ≠ 0 by omega)
  have b2 := Int.emod_lt_of_pos k (show 0 < q by omega)
  have b3 : 0 ≤ k / q := Int.ediv_nonneg hk (by omega)
  generalize k / q = z at *
  generalize hi : k % q = i at *
  have hrel : pha + i * per < len := by
    have := Int.mul_le_mul_of_nonneg_right (show i ≤ q - 1 by omega) (show 0 ≤ per by omega)
    rw [Int.sub_mul, Int.one_mul, Int.mul_comm q per] at this
    omega
  have hfirst : pha + k * per = pha + i * per + z * len := by
    rw [hq, ← e1, Int.add_mul, Int.mul_comm q z, Int.mul_assoc, Int.mul_comm q per]
    omega
  have hi0 : 0 ≤ i * per := Int.mul_nonneg b1 (by omega)
  obtain ⟨-, h2⟩ := YdB hp hb
  have hle : i ≤ i * per := by
    have := Int.mul_le_mul_of_nonneg_left hp b1
    rw [Int.mul_one] at this
    omega
  obtain ⟨l, h3, h4⟩ := h2 i.toNat (by omega) (by rw [Int.toNat_of_nonneg b1]; exact hrel)
  rw [Int.toNat_of_nonneg b1] at h3 h4
  rw [YcX] at h3
  split at h3
  · cases h3
  rename_i hfull
  obtain rfl := Option.some.inj h3
  have hne' : runP len C (pha + i * per + per) ls (pha + i * per) ≠ [] := by
    intro e
    rw [e] at hfull
    simp only [List.length_nil] at hfull
    omega
  have h5 := Yfq (a := pha + i * per) hne'
  rw [hfirst, show pha + i * per + z * len + per = pha + i * per + per + z * len by omega, Yb5 b3 hl C _ ls _ (by omega), List.length_map, Oo]
  refine ⟨by omega, ?_⟩
  omega
theorem Yg8 {l : List Flw} {s : Sch} (hok : ∀ f ∈ l, FlOk f) (hid : l.Pairwise fun a b => a.1 ≠ b.1) {n : Int} {p : PlM} (h : Pl l s n 0 p) {f : Flw} (hf : f ∈ l) (hs : Y6 s = true) (hl : 1 ≤ s.len) (hpp : phaF f < perF f) (hm : s.len.tmod (perF f) = 0)
    {ls : List Lk} (hne : ls ≠ []) (hch : Yc5 (dstF f) f.2.1 ls) (hloss : ∀ x ∈ ls, 0 ≤ x.2.2) {b : Int × Int × List Int} (hb : VH (fun a => runR s.len (Xk s f.1) (a + perF f) ls a) s.len (perF f) s.len.toNat (phaF f) (0, 0, []) = some b)
    {k : Int} (hk : 0 ≤ k) (hn : Yx f k + b.1 ≤ n) (hbr : ∀ x ∈ ls, brO x.2.2 ((keyL p.atts f.1 k x.1 x.2.1).map AttM.o) 0 = false) :
    ∃ t, (f.1, k, t) ∈ p.dels ∧ t - Yx f k + 1 ≤ b.1 ∧ ∀ d ∈ p.dels, d.1 = f.1 → d.2.1 = k → d.2.2 = t := by
  obtain ⟨-, hst, hinv⟩ := Yli hok hid h
  obtain ⟨i, hi⟩ := List.mem_iff_getElem?.1 hf
  have hil : i < l.length := (List.getElem?_eq_some_iff.1 hi).1
  obtain ⟨x, hx⟩ : ∃ x, p.st[i]? = some x := ⟨_, List.getElem?_eq_getElem (by rw [hst]; exact hil)⟩
  have hI := hinv i f x hi hx
  have hfo := hok f hf
  have hp := hfo.per
  have hneed : 1 ≤ Y7 ls := by
    cases ls with
    | nil => exact absurd rfl hne
    | cons y ys =>
      have := hloss y (by simp)
      unfold Y7
      rw [List.map_cons, List.sum_cons]
      unfold YJ
      omega
  obtain ⟨h1, h2⟩ := Yg2 hl hfo.per hfo.pha hpp hm hneed hb hk
  change Y7 ls ≤ (runP s.len (Xk s f.1) (Yx f k + perF f) ls (Yx f k)).length at h1
  change Yv (runP s.len (Xk s f.1) (Yx f k + perF f) ls (Yx f k)) (Yx f k) ≤ Yx f k + b.1 at h2
  have hk0 : 0 ≤ Yx f k := by
    have := hfo.pha
    have := Int.mul_nonneg hk (show 0 ≤ perF f by omega)
    unfold Yx; omega
  have hne' : runP s.len (Xk s f.1) (Yx f k + perF f) ls (Yx f k) ≠ [] := by
    intro e; rw [e] at h1; simp only [List.length_nil] at h1; omega
  have h3 := Wh (a := Yx f k) (lo := Yx f k) hne' (fun z hz => YfD hz)
  have h4 : Yv (runP s.len (Xk s f.1) (Yx f k + perF f) ls (Yx f k)) (Yx f k) ≤ Yx f k + perF f := by
    unfold Yv
    cases e : (runP s.len (Xk s f.1) (Yx f k + perF f) ls (Yx f k)).getLast? with
    | none => simp only []; omega
    | some z => have := (Qj (by omega) (List.mem_of_getLast? e)).2; simp only []; omega
  obtain ⟨m, since, ha, hm'⟩ := YjO hfo hI hk (by omega)
  obtain ⟨t, ht, htl⟩ := YeO hs ha (Yx f k + perF f) ls f.2.1 (Yx f k) (Yx f k) hch ha.src (Int.le_refl _) hk0 hloss hbr h1 (hm' _ (by omega) h4)
  refine ⟨t - 1, ha.dlv.2 t ht, by omega, fun d hd d1 d2 => ?_⟩
  have := ha.dlv.1 d hd d1 d2
  rw [ht] at this
  have := Option.some.inj this
  omega
open Go.RowKit Go.Eng Go.Nw Go.Rt
theorem V5 (f : Flw) (hf : YW 32 f = 0) {B : Nat} {w0 : World} {H : List HP} {w : World} (hw : St B w0 H w) :
    Calls Tryz.prog 100 [flwV f].toArray w (Post B w0 fun v K => v = .int .i64 0 ∧ K = H) := by
  refine Yc Tryz.func100 Tryz.ntmps100 rfl rfl hw ?_
  have p1 := fun {H' : List HP} {w : World} (hw : St B w0 H' w) => V6 32 f hw
  rw [hf] at p1
  unfold flwV at p1 ⊢
  repeat' (first | ((first | apply Ya UK | apply Yb UK); exact za; exact rfl; exact fun _ hw => (p1 hw)) | refine zgc ?_ | (refine zgh ?_; intro _) | fail)
  apply Yi H
  · exact zk
  apply Yd; exact rfl; exact rfl
  exact ⟨rfl, rfl⟩
theorem Xm {f : Flw} (hf : YW 32 f = 0) : (1 ≤ f.2.2.2.1 ∧ f.2.2.2.1 ≤ 512) ∧ (0 ≤ f.2.2.2.2.1 ∧ f.2.2.2.2.1 < f.2.2.2.1) ∧ f.2.1 ≠ f.2.2.1 ∧ (1 ≤ f.2.2.2.2.2 ∧ f.2.2.2.2.2 ≤ f.2.2.2.1) := by
  unfold YW at hf
  split at hf
  · cases hf
  split at hf
  · cases hf
  split at hf
  · cases hf
  refine ⟨by omega, by omega, by assumption, by omega⟩
theorem YjV {f : Flw} (hf : YW 32 f = 0) : FlOk f := by
  obtain ⟨h1, h2, h3, h4⟩ := Xm hf
  exact ⟨h1.1, h2.1, h3⟩
set_option maxRecDepth 10000 in
set_option maxHeartbeats 2000000 in
theorem YcA (f : Flw) (n : Int) (hf : YW 32 f = 0) (hn : 0 ≤ n ∧ n ≤ 1000000) {B : Nat} {w0 : World} {H : List HP} {w : World} (hw : St B w0 H w) :
    Calls Tryz.prog 211 [flwV f, .int .i64 n].toArray w (Post B w0 fun v K => v = .tuple #[.int .i64 (if n < f.2.2.2.2.1 then 0 else (n - f.2.2.2.2.1) / f.2.2.2.1), .bool (decide (f.2.2.2.2.1 ≤ n))] ∧ K = H) := by
  refine Yc Tryz.func211 Tryz.ntmps211 rfl rfl hw ?_
  obtain ⟨h1, h2, -, -⟩ := Xm hf
  have p1 := fun {H' : List HP} {w : World} (hw : St B w0 H' w) => V5 f hf hw
  unfold flwV at p1 ⊢
  by_cases hlt : n < f.2.2.2.2.1
  · rw [if_pos hlt, decide_eq_false (by omega)]
    repeat' (first | ((first | apply Ya Ow | apply Yb Ow); exact za; exact rfl; exact fun _ hw => (p1 hw)) | refine zgc ?_ | (refine zge ?_ ?_ <;> intro _ <;> try (exfalso; omega)) | (refine zgh ?_; intro _) | fail)
    apply Yi H
    · exact zk
    apply Yr; exact rfl; exact rfl; exact rfl
    exact ⟨rfl, rfl⟩
  · rw [if_neg hlt, decide_eq_true (by omega)]
    repeat' (first | ((first | apply Ya Ow | apply Yb Ow); exact za; exact rfl; exact fun _ hw => (p1 hw)) | refine zgd ?_ | (refine zge ?_ ?_ <;> intro _ <;> try (exfalso; omega)) | (refine zgh ?_; intro _) | fail)
    apply Yi H
    · exact zk
    apply Yr; exact rfl; exact rfl; exact rfl
    exact ⟨rfl, rfl⟩
theorem YdZ {f : Flw} {k : Int} (hf : YW 32 f = 0) (hk : 0 ≤ k ∧ k ≤ 1000000) : 0 ≤ k * f.2.2.2.1 ∧ k * f.2.2.2.1 ≤ 512000000 := by
  obtain ⟨h1, -, -, -⟩ := Xm hf
  have a := Int.mul_nonneg hk.1 (show 0 ≤ f.2.2.2.1 by omega)
  have b := Int.mul_le_mul hk.2 h1.2 (by omega) (by omega)
  exact ⟨a, by omega⟩
set_option maxRecDepth 10000 in
set_option maxHeartbeats 2000000 in
theorem Ybc (f : Flw) (k : Int) (hf : YW 32 f = 0) (hk : 0 ≤ k ∧ k ≤ 1000000) {B : Nat} {w0 : World} {H : List HP} {w : World} (hw : St B w0 H w) :
    Calls Tryz.prog 102 [flwV f, .int .i64 k].toArray w (Post B w0 fun v K => v = .tuple #[.int .i64 (Yx f k), .int .i64 0] ∧ K = H) := by
  refine Yc Tryz.func102 Tryz.ntmps102 rfl rfl hw ?_
  obtain ⟨h1, h2, -, -⟩ := Xm hf
  have h3 := YdZ hf hk
  have p1 := fun {H' : List HP} {w : World} (hw : St B w0 H' w) => V5 f hf hw
  unfold Yx phaF perF
  unfold flwV at p1 ⊢
  repeat' (first | ((first | apply Ya Ow | apply Yb Ow); exact za; exact rfl; exact fun _ hw => (p1 hw)) | refine zgd ?_ | (refine zge ?_ ?_ <;> intro _ <;> try (exfalso; omega)) | (refine zgh ?_; intro _) | fail)
  apply Yi H
  · exact zk
  apply Yr; exact rfl; exact rfl; exact rfl
  exact ⟨rfl, rfl⟩
set_option maxRecDepth 10000 in
set_option maxHeartbeats 2000000 in
theorem YeQ (f : Flw) (k : Int) (hf : YW 32 f = 0) (hk : 0 ≤ k ∧ k ≤ 1000000) {B : Nat} {w0 : World} {H : List HP} {w : World} (hw : St B w0 H w) :
    Calls Tryz.prog 41 [flwV f, .int .i64 k].toArray w (Post B w0 fun v K => v = .tuple #[.int .i64 (Yx f k), .int .i64 (Yx f k + f.2.2.2.1 - 1), .int .i64 0] ∧ K = H) := by
  refine Yc Tryz.func41 Tryz.ntmps41 rfl rfl hw ?_
  obtain ⟨h1, h2, -, -⟩ := Xm hf
  have h3 := YdZ hf hk
  have h4 : 0 ≤ Yx f k ∧ Yx f k ≤ 600000000 := by unfold Yx phaF perF; omega
  have p1 := fun {H' : List HP} {w : World} (hw : St B w0 H' w) => Ybc f k hf hk hw
  generalize Yx f k = z at *
  unfold flwV at p1 ⊢
  repeat' (first | ((first | apply Ya Ykx | apply Yb Ykx); exact za; exact rfl; exact fun _ hw => (p1 hw)) | refine zgd ?_ | (refine zge ?_ ?_ <;> intro _ <;> try (exfalso; omega)) | (refine zgh ?_; intro _) | fail)
  apply Yi H
  · exact zk
  apply XV; exact rfl; exact rfl; exact rfl; exact rfl
  exact ⟨rfl, rfl⟩
open Go.RowKit Go.Eng Go.Nw Go.Rt
structure RuM where
  f : Int
  u : Int
  v : Int
  k : Int
  A : Option Addr
  cap : Nat
  os : List Int
def ruF (r : RuM) : List Value := [.int .i64 r.f, .int .i64 r.u, .int .i64 r.v, .int .i64 r.k, .slice r.A r.os.length r.cap]
def ruV (r : RuM) : Value := .agg #[.int .i64 r.f, .int .i64 r.u, .int .i64 r.v, .int .i64 r.k, .slice r.A r.os.length r.cap]
structure RuM.In (B : Nat) (w0 : World) (H : List HP) (r : RuM) : Prop where
  rd : Rd B w0 H r.A (r.os.flatMap numF)
  ln : r.os.length ≤ 9223372036854775807
structure XIn (B : Nat) (w0 : World) (H : List HP) (A : Option Addr) (xs : List RuM) : Prop where
  rd : Rd B w0 H A (xs.flatMap ruF)
  x : ∀ r ∈ xs, r.In B w0 H
theorem RuM.In.mono {B : Nat} {w0 : World} {H K : List HP} {r : RuM} (h : r.In B w0 H) (hop : ∀ w, St B w0 K w → St B w0 H w) : r.In B w0 K := ⟨h.rd.mono hop, h.ln⟩
theorem XIn.mono {B : Nat} {w0 : World} {H K : List HP} {A : Option Addr} {xs : List RuM} (h : XIn B w0 H A xs) (hop : ∀ w, St B w0 K w → St B w0 H w) : XIn B w0 K A xs := ⟨h.rd.mono hop, fun r hr => (h.x r hr).mono hop⟩
def cmpR (a b : RuM) : Int := YU [cmpI a.f b.f, cmpI a.k b.k, cmpI a.u b.u, cmpI a.v b.v]
theorem YaD (a b : RuM) {B : Nat} {w0 : World} {H : List HP} {w : World} (hw : St B w0 H w) :
    Calls Tryz.prog 210 [ruV a, ruV b].toArray w (Post B w0 fun v K => v = .int .i64 (cmpR a b) ∧ K = H) := by
  refine Yc Tryz.func210 Tryz.ntmps210 rfl rfl hw ?_
  unfold ruV
  repeat' (first | refine zga ?_ | (refine zgh ?_; intro _) | fail)
  apply YZ [0, 1, 2, 3, 5, 6, 7, 8, 10, 11, 12, 13, 15, 16, 17, 18, 4, 9, 14, 19, 20, 21, 22] [] [true, true]
  kernel_rfl
  kernel_rfl
  exact zy
  (simp only [Yj, nthO]; rfl)
  exact rfl
  repeat' (first | ((first | apply Ya en99 | apply Yb en99); exact za; exact rfl; exact fun _ hw => (V2 _ _ hw)) | (apply Yk; (repeat (first | with_reducible exact Yh | (with_reducible apply Yg; (repeat (first | with_reducible exact Yf | with_reducible apply Ye)))))) | refine zgd ?_ | (refine zgh ?_; intro _) | fail)
  rename_i g
  first | apply Ya en98 | apply Yb en98
  exact za
  exact rfl
  exact fun _ hw => (Ygt [cmpI a.f b.f, cmpI a.k b.k, cmpI a.u b.u, cmpI a.v b.v] (by simp) (Rd.blk (g := g) (cs := #[.int .i64 (cmpI a.f b.f), .int .i64 (cmpI a.k b.k), .int .i64 (cmpI a.u b.u), .int .i64 (cmpI a.v b.v)]) zm) hw)
  repeat' (first | (apply Yk; (repeat (first | with_reducible exact Yh | (with_reducible apply Yg; (repeat (first | with_reducible exact Yf | with_reducible apply Ye)))))) | refine zgd ?_ | fail)
  apply Yi H
  · exact zk
  apply Yd; exact rfl; exact rfl
  exact ⟨rfl, rfl⟩
set_option maxRecDepth 10000 in
set_option maxHeartbeats 1000000 in
theorem YcY (l : List RuM) (c : RuM) (hlen : l.length ≤ 1000000000) {A : Option Addr} {cap B : Nat} {w0 : World} {H : List HP} {w : World} (hr : Rd B w0 H A (l.flatMap ruF)) (hw : St B w0 H w) :
    Calls Tryz.prog 252 [.slice A l.length cap, ruV c, .func (.func 210) #[] #[]].toArray w (Post B w0 fun v K =>
      (∃ (i : Nat) (b : Bool), v = .tuple #[.int .i64 (i : Nat), .bool b] ∧ (b = true → i < l.length)) ∧ K = H) := by
  refine Yc Tryz.func252 Tryz.ntmps252 rfl rfl hw ?_
  have p1 := fun (a b : RuM) {H' : List HP} {w : World} (hw : St B w0 H' w) => YaD a b hw
  unfold ruV at p1 ⊢
  (apply Zx; apply XH; apply Xv; exact rfl; exact rfl; intro g)
  repeat' (first | refine zgb ?_ | fail)
  have hr := hr.cons (X := blk g (.cells #[.int .i64 c.f, .int .i64 c.u, .int .i64 c.v, .int .i64 c.k, .slice c.A c.os.length c.cap] 257 (0, 0)))
  refine Yc9 (fun (lo hi : Nat) => [(9, .int .i64 lo), (10, .int .i64 hi), (8, .int .i64 l.length), (0, .slice A l.length cap), (2, .func (.func 210) #[] #[]), (4, .pointer (some ⟨g, 0, none⟩))]) (fun _ _ => blk g (.cells #[.int .i64 c.f, .int .i64 c.u, .int .i64 c.v, .int .i64 c.k, .slice c.A c.os.length c.cap] 257 (0, 0)) :: H)
    (fun lo hi => lo ≤ hi ∧ hi ≤ l.length) (fun lo hi => hi - lo) 0 l.length ⟨by omega, by omega⟩ ?_ (fun w hw => hw) ?_
  · exact zu
  rintro lo hi ⟨h1, h2⟩ K hK
  by_cases hlt : lo < hi
  · obtain ⟨b, hb⟩ : ∃ b, l[(((lo : Int) + hi) / 2).toNat]? = some b := ⟨_, List.getElem?_eq_getElem (by omega)⟩
    repeat' (first | ((first | apply YC (cs := []) | apply Y1 (cs := [])); exact rfl; exact Ygh; exact za; exact rfl; exact fun _ hw => (p1 b c hw)) | (apply zg28; refine zs84 ?_) | refine zgd ?_ | (refine zge ?_ ?_ <;> intro _ <;> try (exfalso; omega)) | fail)
    · apply hK ((lo + hi) / 2 + 1) hi
      · exact ⟨by omega, by omega⟩
      · omega
      · exact zu
      · exact fun w hw => hw
    · apply hK lo ((lo + hi) / 2)
      · exact ⟨by omega, by omega⟩
      · omega
      · exact zu
      · exact fun w hw => hw
  · obtain rfl : lo = hi := by omega
    by_cases hl : lo < l.length
    · obtain ⟨b, hb⟩ : ∃ b, l[lo]? = some b := ⟨_, List.getElem?_eq_getElem hl⟩
      repeat' (first | ((first | apply YC (cs := []) | apply Y1 (cs := [])); exact rfl; exact Ygh; exact za; exact rfl; exact fun _ hw => (p1 b c hw)) | (apply zg28; refine zs84 ?_) | refine zgd ?_ | (refine zgf ?_ ?_ <;> intro _ <;> try (exfalso; omega)) | fail)
      all_goals (apply Yp; apply Yr; exact rfl; exact rfl; exact rfl; exact ⟨⟨lo, _, rfl, fun _ => hl⟩, rfl⟩)
    · repeat' (first | (apply zg28; refine zs84 ?_) | refine zgd ?_ | (refine zge ?_ ?_ <;> intro _ <;> try (exfalso; omega)) | fail)
      apply Yp; apply Yr; exact rfl; exact rfl; exact rfl
      exact ⟨⟨lo, _, rfl, fun h => by cases h⟩, rfl⟩
theorem Yfl (x m : Int) {B : Nat} {w0 : World} {H : List HP} {w : World} (hw : St B w0 H w) :
    Calls Tryz.prog 250 [.int .i64 x, .int .i64 m].toArray w (Post B w0 fun v K => v = .bool (decide (0 ≤ x) && decide (x ≤ m)) ∧ K = H) := by
  refine Yc Tryz.func250 Tryz.ntmps250 rfl rfl hw ?_
  by_cases h1 : 0 ≤ x
  · by_cases h2 : x ≤ m
    · rw [decide_eq_true h1, decide_eq_true h2]
      repeat' (first | refine zgc ?_ | (refine zgf ?_ ?_ <;> intro _ <;> try (exfalso; omega)) | fail)
      apply Yd; exact rfl; exact rfl; exact ⟨rfl, rfl⟩
    · rw [decide_eq_true h1, decide_eq_false h2]
      repeat' (first | refine zgc ?_ | (refine zgf ?_ ?_ <;> intro _ <;> try (exfalso; omega)) | fail)
      apply Yd; exact rfl; exact rfl; exact ⟨rfl, rfl⟩
  · rw [decide_eq_false h1, Bool.false_and]
    repeat' (first | refine zgc ?_ | (refine zgf ?_ ?_ <;> intro _ <;> try (exfalso; omega)) | fail)
    apply Yd; exact rfl; exact rfl; exact ⟨rfl, rfl⟩
def outB (o : Int) : Bool := decide (o < 1) || decide (3 < o)
theorem Yem (o : Int) {B : Nat} {w0 : World} {H : List HP} {w : World} (hw : St B w0 H w) :
    Calls Tryz.prog 251 [.int .i64 o].toArray w (Post B w0 fun v K => v = .bool (outB o) ∧ K = H) := by
  refine Yc Tryz.func251 Tryz.ntmps251 rfl rfl hw ?_
  unfold outB
  by_cases h1 : o < 1
  · rw [decide_eq_true h1, Bool.true_or]
    repeat' (first | refine zgc ?_ | (refine zge ?_ ?_ <;> intro _ <;> try (exfalso; omega)) | fail)
    apply Yd; exact rfl; exact rfl; exact ⟨rfl, rfl⟩
  · by_cases h2 : 3 < o
    · rw [decide_eq_false h1, decide_eq_true h2]
      repeat' (first | refine zgc ?_ | (refine zge ?_ ?_ <;> intro _ <;> try (exfalso; omega)) | fail)
      apply Yd; exact rfl; exact rfl; exact ⟨rfl, rfl⟩
    · rw [decide_eq_false h1, decide_eq_false h2]
      repeat' (first | refine zgc ?_ | (refine zge ?_ ?_ <;> intro _ <;> try (exfalso; omega)) | fail)
      apply Yd; exact rfl; exact rfl; exact ⟨rfl, rfl⟩
set_option maxRecDepth 10000 in
set_option maxHeartbeats 2000000 in
theorem Yeu (r : RuM) {B : Nat} {w0 : World} {H : List HP} {w : World} (hr : r.In B w0 H) (hw : St B w0 H w) :
    Calls Tryz.prog 209 [ruV r].toArray w (Post B w0 fun v K => (∃ b, v = .bool b) ∧ K = H) := by
  refine Yc Tryz.func209 Tryz.ntmps209 rfl rfl hw ?_
  have hl := hr.ln
  have hrd := hr.rd
  unfold ruV
  repeat' (first | ((first | apply Zz (cs := []) | apply Zy (cs := [])); exact rfl; exact Yl7; exact za; exact rfl; exact fun _ hw => (Yfl _ _ hw); all_goals (intro hB; (try simp only [decide_eq_true_eq, decide_eq_false_iff_not] at hB); try (exfalso; omega))) | ((first | apply XJ YbB | apply XI YbB); exact za; exact rfl; exact fun _ hw => (ZC (fun o => Value.int .i64 o) outB r.os 251 [] Yl8 (by omega) zr (fun o _ w hw => Yem o hw) hw); all_goals (intro hB; (try simp only [decide_eq_true_eq, decide_eq_false_iff_not] at hB); try (exfalso; omega))) | refine zgd ?_ | (refine zge ?_ ?_ <;> intro _ <;> try (exfalso; omega)) | (refine zgh ?_; intro _) | fail)
  all_goals (
    apply Yi H
    · exact zk
    apply Yd; exact rfl; exact rfl
    exact ⟨⟨_, rfl⟩, rfl⟩)
set_option maxRecDepth 10000 in
set_option maxHeartbeats 2000000 in
theorem YeS (xs : List RuM) (hlen : xs.length ≤ 1000000) {A : Option Addr} {cap B : Nat} {w0 : World} {H : List HP} {w : World} (hx : XIn B w0 H A xs) (hw : St B w0 H w) :
    Calls Tryz.prog 150 [.slice A xs.length cap].toArray w (Post B w0 fun v K => (∃ i e : Int, v = .tuple #[.int .i64 i, .int .i64 e]) ∧ K = H) := by
  refine Yc Tryz.func150 Tryz.ntmps150 rfl rfl hw ?_
  have hop : ∀ w, St B w0 [many H] w → St B w0 H w := fun w hw => hw.perm (.openT H)
  have hx := hx.mono hop
  refine VR [many H] (fun w hw => hw.perm (.closeT H)) ?_
  have hrd := hx.rd
  have leaf : ∀ {i e : Int} {K : List HP} {v : Value}, v = .tuple #[.int .i64 i, .int .i64 e] → K = H → (∃ i e : Int, v = .tuple #[.int .i64 i, .int .i64 e]) ∧ K = H := fun h1 h2 => ⟨⟨_, _, h1⟩, h2⟩
  by_cases hbig : 1024 < xs.length
  · repeat' (first | refine zgb ?_ | (refine zge ?_ ?_ <;> intro _ <;> try (exfalso; omega)) | fail)
    apply Yi H
    · intro w hw
      refine hop w ?_
      revert w
      exact zk
    apply Yr; exact rfl; exact rfl; exact rfl; exact leaf rfl rfl
  repeat' (first | refine zgb ?_ | (refine zge ?_ ?_ <;> intro _ <;> try (exfalso; omega)) | fail)
  refine Yl (fun k : Nat => [(11, .int .i64 (k : Nat)), (10, .int .i64 xs.length), (9, .slice A xs.length cap), (0, .slice A xs.length cap)]) (fun _ => [many H]) (fun k => k ≤ xs.length) (fun k => xs.length - k) 0 (Nat.zero_le _) ?_ (fun w hw => hw) ?_
  · exact zu
  rintro k hk K hK
  by_cases hlt : k < xs.length
  rotate_left
  · clear hK
    repeat' (first | refine zgc ?_ | (refine zge ?_ ?_ <;> intro _ <;> try (exfalso; omega)) | fail)
    apply Yi H
    · intro w hw
      refine hop w ?_
      revert w
      exact zk
    apply Yr; exact rfl; exact rfl; exact rfl; exact leaf rfl rfl
  obtain ⟨r, hr⟩ : ∃ r, xs[k]? = some r := ⟨_, List.getElem?_eq_getElem hlt⟩
  have hri := hx.x r (List.mem_of_getElem? hr)
  have p1 := fun {H' : List HP} {w : World} (hr : r.In B w0 H') (hw : St B w0 H' w) => Yeu r hr hw
  have p2 := fun (a b : RuM) {H' : List HP} {w : World} (hw : St B w0 H' w) => YaD a b hw
  unfold ruV at p1 p2
  repeat' (first | refine zgd ?_ | (refine zge ?_ ?_ <;> intro _ <;> try (exfalso; omega)) | (refine zgh ?_; intro _) | fail)
  apply Yo _ Yl0
  exact za
  exact rfl
  exact fun _ hw => (p1 (hri.mono zk) (hw))
  rintro _ _ ⟨⟨b, rfl⟩, hK0⟩
  rw [hK0]
  cases b with
  | false =>
    repeat' (first | refine zgd ?_ | fail)
    apply Yi H
    · intro w hw
      refine hop w ?_
      revert w
      exact zk
    apply Yr; exact rfl; exact rfl; exact rfl; exact leaf rfl rfl
  | true =>
  by_cases hk0 : 0 < k
  rotate_left
  · repeat' (first | (apply zg28; refine zs84 ?_) | refine zgd ?_ | (refine zge ?_ ?_ <;> intro _ <;> try (exfalso; omega)) | fail)
    apply hK (k + 1)
    · show k + 1 ≤ _
      omega
    · omega
    · exact zu
    · exact zk
  obtain ⟨q, hq⟩ : ∃ q, xs[k - 1]? = some q := ⟨_, List.getElem?_eq_getElem (by omega)⟩
  have hq2 : xs[((k : Int) - 1).toNat]? = some q := by rw [show ((k : Int) - 1).toNat = k - 1 by omega]; exact hq
  repeat' (first | ((first | apply Ya Ygh | apply Yb Ygh); exact za; exact rfl; exact fun _ hw => (p2 q r hw)) | (apply zg28; refine zs84 ?_) | refine zgd ?_ | (refine zgf ?_ ?_ <;> intro _ <;> try (exfalso; omega)) | fail)
  · apply Yi H
    · intro w hw
      refine hop w ?_
      revert w
      exact zk
    apply Yr; exact rfl; exact rfl; exact rfl; exact leaf rfl rfl
  · apply hK (k + 1)
    · show k + 1 ≤ _
      omega
    · omega
    · exact zu
    · exact zk
end Go.Proofs.YtmalhidldgfeoaaGreatDoor
namespace Go.Eng
open Go.RowKit
open Go.ChangeMaps (setBlock)
abbrev KL := List Int
def kv (k : KL) : Value := .agg (k.map fun x => Value.int .i64 x).toArray
abbrev YK := List (KL × Value × Nat)
def vE (e : KL × Value × Nat) : MapEntry := ⟨kv e.1, e.2.1, e.2.2⟩
def vobj (es : YK) (clock : Nat) : Obj := .map (es.map vE).toArray clock
def vget (es : YK) (k : KL) : Option Value := (es.find? fun e => e.1 == k).map (·.2.1)
def keyT (P : Program) (kt : TypeId) (n : Nat) : Bool :=
  match P.underlying kt with
  | some (.struct fs) => !P.stoodInHeld kt && (fs.toList.map (·.offset) == List.range n) && fs.toList.all (fun f => f.name != "_" && (match P.underlying f.type with | some (.int .i64) => true | _ => false))
  | _ => false
def Jw (P : Program) (t kt et : TypeId) (n : Nat) : Bool := (match P.underlying t with | some (.map a b) => a == kt && b == et | _ => false) && keyT P kt n
section
variable {P : Program}
theorem WZ {kt : TypeId} {n : Nat} (h : keyT P kt n = true) : ∃ fs, P.underlying kt = some (.struct fs) ∧ P.stoodInHeld kt = false ∧ fs.toList.map (·.offset) = List.range n ∧
    ∀ f ∈ fs.toList, f.name ≠ "_" ∧ P.underlying f.type = some (.int .i64) := by
  unfold keyT at h
  split at h
  · rename_i fs hu
    simp only [Bool.and_eq_true, Bool.not_eq_true', beq_iff_eq, List.all_eq_true, bne_iff_ne, ne_eq] at h
    obtain ⟨⟨h1, h2⟩, h3⟩ := h
    refine ⟨fs, hu, h1, h2, fun f hf => ⟨(h3 f hf).1, ?_⟩⟩
    have h4 := (h3 f hf).2
    split at h4
    · rename_i hq; exact hq
    · cases h4
  · cases h
theorem Xs {t kt et : TypeId} {n : Nat} (h : Jw P t kt et n = true) : P.underlying t = some (.map kt et) ∧ keyT P kt n = true := by
  unfold Jw at h
  rw [Bool.and_eq_true] at h
  obtain ⟨h1, h2⟩ := h
  refine ⟨?_, h2⟩
  split at h1
  · rename_i a b hu
    simp only [Bool.and_eq_true, beq_iff_eq] at h1
    rw [hu, h1.1, h1.2]
  · cases h1
theorem YiR {fs : Array Field} {n : Nat} (h : fs.toList.map (·.offset) = List.range n) {f : Field} (hf : f ∈ fs.toList) : f.offset < n := by
  have : f.offset ∈ fs.toList.map (·.offset) := List.mem_map.2 ⟨f, hf, rfl⟩
  rw [h] at this
  exact List.mem_range.1 this
theorem YcW (w : World) {kt : TypeId} {n : Nat} (h : keyT P kt n = true) {a b : KL} (la : a.length = n) (lb : b.length = n) : (Op.equal kt (kv a) (kv b)).run P w = .ok (a == b) w := by
  obtain ⟨fs, hu, h1, h2, h3⟩ := WZ h
  have hl : O9 P kt (a.map fun x => Value.int .i64 x) (b.map fun x => Value.int .i64 x) = true := by
    unfold O9
    simp only [hu, h1, h2, List.length_map, la, lb, Bool.not_false, beq_self_eq_true, Bool.true_and, List.all_eq_true, Bool.and_eq_true, bne_iff_ne, ne_eq]
    intro f hf
    have hlt := YiR h2 hf
    refine ⟨(h3 f hf).1, ?_⟩
    rw [List.getElem?_eq_getElem (by simp [la, hlt]), List.getElem?_eq_getElem (by simp [lb, hlt]), List.getElem_map, List.getElem_map]
    simp only [U4, (h3 f hf).2, decide_true, Bool.and_self]
  obtain ⟨r, hr, hiff⟩ := YfC w hl
  unfold kv
  rw [hr]
  have : r = (a == b) := by
    rw [Bool.eq_iff_iff, hiff, beq_iff_eq]
    exact List.map_inj_right (fun x y e => by injection e)
  rw [this]
theorem XD (w : World) {kt : TypeId} {n : Nat} (h : keyT P kt n = true) {k : KL} (lk : k.length = n) (em : Bool) : (Instr.checkKey em 10000 kt (kv k)).run P w = .ok () w := by
  obtain ⟨fs, hu, h1, h2, h3⟩ := WZ h
  have each : ∀ f ∈ fs.toList, f.name ≠ "_" ∧ P.underlying f.type = some (.int .i64) ∧ f.offset < n := fun f hf => ⟨(h3 f hf).1, (h3 f hf).2, YiR h2 hf⟩
  unfold kv
  rw [show 10000 = 9998 + 1 + 1 from rfl, Instr.checkKey]
  simp only [Sem.run_bind, run_underlying hu, Result.andThen_ok]
  rw [← Array.forIn_toList]
  clear h1 h2 h3 hu h
  generalize fs.toList = L at each
  induction L with
  | nil => simp
  | cons f L ih =>
    obtain ⟨hn, hp, hlt⟩ := each f (by simp)
    have p1 := run_part_plain (P := P) (w := w) (e := f.type) (by simp [Program.plainKey, hp]) (xs := (k.map fun x => Value.int .i64 x).toArray) (off := f.offset) (v := .int .i64 (k[f.offset]'(by omega)))
      (by rw [List.getElem?_toArray, List.getElem?_eq_getElem (by simp [lk, hlt]), List.getElem_map])
    have p2 : (Instr.checkKey em (9998 + 1) f.type (.int .i64 (k[f.offset]'(by omega)))).run P w = .ok () w := by
      unfold Instr.checkKey
      simp [run_underlying hp]
    simp only [List.forIn_cons, Sem.run_bind, hn, ne_eq, not_false_eq_true, if_true, Result.andThen_ok, p1, p2, Sem.run_pure]
    exact ih (fun y hy => each y (by simp [hy]))
theorem YeB (m : Nat) (k : KL) : Instr.sameBits (m + 1) (kv k) (kv k) = true := by
  unfold kv
  simp only [Instr.sameBits, beq_self_eq_true, Bool.true_and]
  induction k with
  | nil => rfl
  | cons x k ih =>
    simp only [List.map_cons, List.zip_cons_cons, List.all_cons, Bool.and_eq_true]
    refine ⟨?_, ih⟩
    cases m <;> simp [Instr.sameBits]
theorem WC (w : World) (k : KL) : (Instr.keyThatStays (kv k) (kv k)).run P w = .ok (kv k) w := by
  unfold Instr.keyThatStays
  rw [show 10000 = 9999 + 1 from rfl, YeB]
  simp
theorem YbK {kt : TypeId} {n : Nat} (w : World) (h : keyT P kt n = true) {k : KL} (lk : k.length = n) : ∀ (es : YK) (i : Nat), (∀ e ∈ es, e.1.length = n) → vget es k = none →
    (Instr.findAsking kt (kv k) (es.map vE) i).run P w = .ok none w
  | [], i, _, _ => by simp [Instr.findAsking]
  | e :: es, i, hok, hg => by
    unfold vget at hg
    rw [List.find?_cons] at hg
    by_cases he : e.1 = k
    · simp [he] at hg
    · have hb : (e.1 == k) = false := by simpa using he
      have hb' : (k == e.1) = false := by simpa using fun x => he x.symm
      rw [hb] at hg
      simp only [List.map_cons, Instr.findAsking, Sem.run_bind, vE, YcW w h lk (hok e (by simp)), hb', Result.andThen_ok, Bool.false_eq_true, if_false]
      exact YbK w h lk es (i + 1) (fun e he => hok e (by simp [he])) hg
theorem Ygk {kt : TypeId} {n : Nat} (w : World) (h : keyT P kt n = true) {k : KL} (lk : k.length = n) {v : Value} {b : Nat} {l2 : YK} : ∀ (l1 : YK) (i : Nat), (∀ e ∈ l1, e.1.length = n) → (∀ e ∈ l1, e.1 ≠ k) →
    (Instr.findAsking kt (kv k) ((l1 ++ (k, v, b) :: l2).map vE) i).run P w = .ok (some (i + l1.length, v)) w
  | [], i, _, _ => by
    simp only [List.nil_append, List.map_cons, Instr.findAsking, Sem.run_bind, vE, YcW w h lk lk, beq_self_eq_true, Result.andThen_ok, if_true, Sem.run_pure, List.length_nil, Nat.add_zero]
  | e :: l1, i, hok, hne => by
    have hb' : (k == e.1) = false := by simpa using fun x => hne e (by simp) x.symm
    simp only [List.cons_append, List.map_cons, Instr.findAsking, Sem.run_bind, vE, YcW w h lk (hok e (by simp)), hb', Result.andThen_ok, Bool.false_eq_true, if_false]
    have := Ygk w h lk (v := v) (b := b) (l2 := l2) l1 (i + 1) (fun e he => hok e (by simp [he])) (fun e he => hne e (by simp [he]))
    rw [show i + (e :: l1).length = i + 1 + l1.length by simp; omega]
    exact this
theorem Jv {es : YK} {k : KL} {v : Value} (h : vget es k = some v) : ∃ l1 b l2, es = l1 ++ (k, v, b) :: l2 ∧ ∀ e ∈ l1, e.1 ≠ k := by
  unfold vget at h
  induction es with
  | nil => simp at h
  | cons e es ih =>
    rw [List.find?_cons] at h
    by_cases he : e.1 = k
    · simp only [he, beq_self_eq_true, Option.map_some, Option.some.injEq] at h
      exact ⟨[], e.2.2, es, by rw [← he, ← h]; rfl, by simp⟩
    · have hb : (e.1 == k) = false := by simpa using he
      rw [hb] at h
      obtain ⟨l1, b, l2, rfl, hne⟩ := ih h
      exact ⟨e :: l1, b, l2, rfl, by
        intro x hx
        rcases List.mem_cons.1 hx with rfl | hx
        · exact he
        · exact hne x hx⟩
theorem YbU {kt : TypeId} {n : Nat} (h : keyT P kt n = true) : (match P.underlying kt with | some (.array _ _) | some (.struct _) => true | _ => false) = true := by
  obtain ⟨fs, hu, _⟩ := WZ h
  rw [hu]
theorem Wu {kt : TypeId} {n : Nat} (w : World) (h : keyT P kt n = true) {k : KL} (lk : k.length = n) {es : YK} (hok : ∀ e ∈ es, e.1.length = n) (hg : vget es k = none) :
    (Instr.findKey kt (kv k) (es.map vE)).run P w = .ok none w := by
  rw [run_findKey_eq w (YbU h)]
  exact YbK w h lk es 0 hok hg
theorem Yfp {kt : TypeId} {n : Nat} (w : World) (h : keyT P kt n = true) {k : KL} (lk : k.length = n) {v : Value} {b : Nat} {l1 l2 : YK} (hok : ∀ e ∈ l1, e.1.length = n) (hne : ∀ e ∈ l1, e.1 ≠ k) :
    (Instr.findKey kt (kv k) ((l1 ++ (k, v, b) :: l2).map vE)).run P w = .ok (some (l1.length, v)) w := by
  rw [run_findKey_eq w (YbU h)]
  have := Ygk w h lk (v := v) (b := b) (l2 := l2) l1 0 hok hne
  rwa [Nat.zero_add] at this
theorem Yd7 {kt : TypeId} {n : Nat} (w : World) (h : keyT P kt n = true) {k : KL} (lk : k.length = n) {v : Value} {es : YK} (hok : ∀ e ∈ es, e.1.length = n) (hg : vget es k = some v) :
    ∃ i, (Instr.findKey kt (kv k) (es.map vE)).run P w = .ok (some (i, v)) w := by
  obtain ⟨l1, b, l2, rfl, hne⟩ := Jv hg
  exact ⟨_, Yfp w h lk (fun e he => hok e (by simp [he])) hne⟩
end
section
variable {P : Program} {n : Shp} {B : Nat} {w0 : World} {Q : Exit → Act → World → Prop} {env : Env} {H : List HP} {m : Mode} {ops : Array Oper} {rest : List Oper} {d : Nat} {ty : TypeId} {pos : String} {after : Array Edge}
theorem Ydk {t : TypeId} (hn : Nat.ble (d + 1) n.k = true) (h : ∀ g, VL P none n B w0 ops Q rest ((d, .map (some g)) :: env) (blk g (vobj [] 0) :: H)) : VL P none n B w0 ops Q (⟨some d, .makeMap t none, ty, pos, after, none⟩ :: rest) env H :=
  Xw (fun v K => ∃ g, v = .map (some g) ∧ K = blk g (vobj [] 0) :: H) rfl rfl hn
    (fun a w _ hw => ⟨_, _, w.alloc (vobj [] 0), by simp [execOp, Instr.makeMap, newObj, Sem.run, vobj], hw.alloc _, w.heap.size, rfl, rfl⟩)
    (by rintro _ _ ⟨g, rfl, rfl⟩; exact h g)
theorem Xy {t kt et g clock : Nat} {N : Nat} {es : YK} {x y : Operand} (k : KL) {v : Value} (hx : evo env x = some (.map (some g))) (hy : evo env y = some (kv k)) (hm : blk g (vobj es clock) ∈ H) (ht : Jw P t kt et N = true) (lk : k.length = N) (hok : ∀ e ∈ es, e.1.length = N) (hn : Nat.ble (d + 1) n.k = true) (hk : vget es k = some v)
    (h : VL P m n B w0 ops Q rest ((d, v) :: env) H) : VL P m n B w0 ops Q (⟨some d, .lookup t x y false, ty, pos, after, none⟩ :: rest) env H := by
  obtain ⟨h1, h2⟩ := Xs ht
  refine Yw rfl rfl hn rfl (fun a w ha hw => ?_) h
  have hb := (hw.blk hm).1
  unfold vobj at hb
  obtain ⟨i, e3⟩ := Yd7 w h2 lk hok hk
  simp [execOp, ha.eval hx, ha.eval hy, Instr.lookup, run_underlying h1, getObj, Sem.run, hb, XD _ h2 lk, e3]
theorem ZM {t kt et g clock : Nat} {N : Nat} {es : YK} {x y : Operand} (k : KL) {z : Value} (hx : evo env x = some (.map (some g))) (hy : evo env y = some (kv k)) (hm : blk g (vobj es clock) ∈ H) (ht : Jw P t kt et N = true) (lk : k.length = N) (hok : ∀ e ∈ es, e.1.length = N) (hn : Nat.ble (d + 1) n.k = true) (hk : vget es k = none) (hz : ∀ w, (zeroValue et).run P w = .ok z w)
    (h : VL P m n B w0 ops Q rest ((d, z) :: env) H) : VL P m n B w0 ops Q (⟨some d, .lookup t x y false, ty, pos, after, none⟩ :: rest) env H := by
  obtain ⟨h1, h2⟩ := Xs ht
  refine Yw rfl rfl hn rfl (fun a w ha hw => ?_) h
  have hb := (hw.blk hm).1
  unfold vobj at hb
  simp [execOp, ha.eval hx, ha.eval hy, Instr.lookup, run_underlying h1, getObj, Sem.run, hb, XD _ h2 lk, Wu w h2 lk hok hk, hz]
theorem XT {t kt et g clock : Nat} {N : Nat} {es : YK} {x y : Operand} (k : KL) {v : Value} (hx : evo env x = some (.map (some g))) (hy : evo env y = some (kv k)) (hm : blk g (vobj es clock) ∈ H) (ht : Jw P t kt et N = true) (lk : k.length = N) (hok : ∀ e ∈ es, e.1.length = N) (hn : Nat.ble (d + 1) n.k = true) (hk : vget es k = some v)
    (h : VL P m n B w0 ops Q rest ((d, .tuple #[v, .bool true]) :: env) H) : VL P m n B w0 ops Q (⟨some d, .lookup t x y true, ty, pos, after, none⟩ :: rest) env H := by
  obtain ⟨h1, h2⟩ := Xs ht
  refine Yw rfl rfl hn rfl (fun a w ha hw => ?_) h
  have hb := (hw.blk hm).1
  unfold vobj at hb
  obtain ⟨i, e3⟩ := Yd7 w h2 lk hok hk
  simp [execOp, ha.eval hx, ha.eval hy, Instr.lookup, run_underlying h1, getObj, Sem.run, hb, XD _ h2 lk, e3]
theorem XS {t kt et g clock : Nat} {N : Nat} {es : YK} {x y : Operand} (k : KL) {z : Value} (hx : evo env x = some (.map (some g))) (hy : evo env y = some (kv k)) (hm : blk g (vobj es clock) ∈ H) (ht : Jw P t kt et N = true) (lk : k.length = N) (hok : ∀ e ∈ es, e.1.length = N) (hn : Nat.ble (d + 1) n.k = true) (hk : vget es k = none) (hz : ∀ w, (zeroValue et).run P w = .ok z w)
    (h : VL P m n B w0 ops Q rest ((d, .tuple #[z, .bool false]) :: env) H) : VL P m n B w0 ops Q (⟨some d, .lookup t x y true, ty, pos, after, none⟩ :: rest) env H := by
  obtain ⟨h1, h2⟩ := Xs ht
  refine Yw rfl rfl hn rfl (fun a w ha hw => ?_) h
  have hb := (hw.blk hm).1
  unfold vobj at hb
  simp [execOp, ha.eval hx, ha.eval hy, Instr.lookup, run_underlying h1, getObj, Sem.run, hb, XD _ h2 lk, Wu w h2 lk hok hk, hz]
theorem Ydq {t kt et g clock : Nat} {N : Nat} {es : YK} {x y : Operand} (k : KL) {v : Value} (hx : evo env x = some (.map (some g))) (hy : evo env y = some (kv k)) (hm : blk g (vobj es clock) ∈ H) (ht : Jw P t kt et N = true) (lk : k.length = N) (hok : ∀ e ∈ es, e.1.length = N) (hn : Nat.ble (d + 1) n.k = true)
    (hk : vget es k = some v ∨ (vget es k = none ∧ ∀ w, (zeroValue et).run P w = .ok v w))
    (h : VL P m n B w0 ops Q rest ((d, v) :: env) H) : VL P m n B w0 ops Q (⟨some d, .lookup t x y false, ty, pos, after, none⟩ :: rest) env H := by
  rcases hk with hk | ⟨hk, hz⟩
  · exact Xy k hx hy hm ht lk hok hn hk h
  · exact ZM k hx hy hm ht lk hok hn hk hz h
theorem Ydp {t kt et g clock : Nat} {N : Nat} {es : YK} {x y : Operand} (k : KL) {v : Value} {b : Bool} (hx : evo env x = some (.map (some g))) (hy : evo env y = some (kv k)) (hm : blk g (vobj es clock) ∈ H) (ht : Jw P t kt et N = true) (lk : k.length = N) (hok : ∀ e ∈ es, e.1.length = N) (hn : Nat.ble (d + 1) n.k = true)
    (hk : (vget es k = some v ∧ b = true) ∨ (vget es k = none ∧ b = false ∧ ∀ w, (zeroValue et).run P w = .ok v w))
    (h : VL P m n B w0 ops Q rest ((d, .tuple #[v, .bool b]) :: env) H) : VL P m n B w0 ops Q (⟨some d, .lookup t x y true, ty, pos, after, none⟩ :: rest) env H := by
  rcases hk with ⟨hk, rfl⟩ | ⟨hk, rfl, hz⟩
  · exact XT k hx hy hm ht lk hok hn hk h
  · exact XS k hx hy hm ht lk hok hn hk hz h
theorem UT {t kt et g clock : Nat} {N : Nat} {es : YK} {x y u : Operand} (k : KL) {v : Value} {K : List HP} (hx : evo env x = some (.map (some g))) (hy : evo env y = some (kv k)) (hv : evo env u = some v) (ht : Jw P t kt et N = true) (lk : k.length = N) (hok : ∀ e ∈ es, e.1.length = N)
    (hu : Upd (blk g (vobj es clock)) (blk g (vobj (es ++ [(k, v, clock)]) (clock + 1))) H K) (hk : vget es k = none)
    (h : VL P none n B w0 ops Q rest env K) : VL P none n B w0 ops Q (⟨none, .mapUpdate t x y u, ty, pos, after, none⟩ :: rest) env H := by
  obtain ⟨h1, h2⟩ := Xs ht
  refine Z5 rfl rfl (fun a w ha hw => ⟨setBlock w g (vobj (es ++ [(k, v, clock)]) (clock + 1)), ?_, hw.setBlock hu⟩) h
  have hb : w.heap[g]? = some (vobj es clock) := by
    obtain ⟨L1, L2, rfl, _⟩ := hu
    exact (hw.blk (by simp)).1
  unfold vobj at hb
  simp [execOp, ha.eval hx, ha.eval hy, ha.eval hv, Instr.mapUpdate, run_underlying h1, getObj, Sem.run, hb, XD _ h2 lk, Wu w h2 lk hok hk, MapKept.run_setObj_map _ hb, setBlock, vobj, vE]
theorem Ye0 {t kt et g clock b : Nat} {N : Nat} {l1 l2 : YK} {x y u : Operand} (k : KL) {v v0 : Value} {K : List HP} (hx : evo env x = some (.map (some g))) (hy : evo env y = some (kv k)) (hv : evo env u = some v) (ht : Jw P t kt et N = true) (lk : k.length = N) (hok : ∀ e ∈ l1, e.1.length = N)
    (hu : Upd (blk g (vobj (l1 ++ (k, v0, b) :: l2) clock)) (blk g (vobj (l1 ++ (k, v, b) :: l2) clock)) H K) (hk : ∀ e ∈ l1, e.1 ≠ k)
    (h : VL P none n B w0 ops Q rest env K) : VL P none n B w0 ops Q (⟨none, .mapUpdate t x y u, ty, pos, after, none⟩ :: rest) env H := by
  obtain ⟨h1, h2⟩ := Xs ht
  refine Z5 rfl rfl (fun a w ha hw => ⟨setBlock w g (vobj (l1 ++ (k, v, b) :: l2) clock), ?_, hw.setBlock hu⟩) h
  have hb : w.heap[g]? = some (vobj (l1 ++ (k, v0, b) :: l2) clock) := by
    obtain ⟨L1, L2, rfl, _⟩ := hu
    exact (hw.blk (by simp)).1
  unfold vobj at hb
  have hf := Yfp w h2 lk (v := v0) (b := b) (l2 := l2) hok hk
  have hsz : (l1 ++ (k, v0, b) :: l2).map vE = l1.map vE ++ vE (k, v0, b) :: l2.map vE := by simp
  have hget : ((List.map vE (l1 ++ (k, v0, b) :: l2)).toArray)[l1.length]? = some (vE (k, v0, b)) := by rw [hsz]; simp
  have hmod : ((List.map vE (l1 ++ (k, v0, b) :: l2)).toArray).modify l1.length (fun e => { e with key := kv k, val := v }) = (List.map vE (l1 ++ (k, v, b) :: l2)).toArray := by
    rw [hsz, List.modify_toArray, show l1.length = (l1.map vE).length by simp, U6]; simp [vE]
  have hks := WC (P := P) w k
  have hkey : (Option.map (fun x : MapEntry => x.key) (some (vE (k, v0, b)))).getD (kv k) = kv k := rfl
  have hrun : (Instr.mapUpdate t (.map (some g)) (kv k) v).run P w = .ok () (setBlock w g (vobj (l1 ++ (k, v, b) :: l2) clock)) := by
    simp only [Instr.mapUpdate, Sem.run_bind, run_underlying h1, getObj, Sem.run, hb, XD _ h2 lk, hf, hget, hkey, hks, hmod, Result.andThen, MapKept.run_setObj_map _ hb, setBlock, vobj]
  simp [execOp, ha.eval hx, ha.eval hy, ha.eval hv, hrun]
theorem Qv {t kt et g clock : Nat} {N : Nat} {es : YK} {x y : Operand} (k : KL) {z : Value} {K : List HP} (hx : evo env x = some (.map (some g))) (hy : evo env y = some (kv k)) (ht : Jw P t kt et N = true) (lk : k.length = N) (hok : ∀ e ∈ es, e.1.length = N) (hn : Nat.ble (d + 1) n.k = true)
    (hu : Upd (blk g (vobj es clock)) (blk g (vobj (es ++ [(k, z, clock)]) (clock + 1))) H K) (hk : vget es k = none) (hz : ∀ w, (zeroValue et).run P w = .ok z w)
    (h : VL P none n B w0 ops Q rest ((d, .tuple #[z, goInt clock]) :: env) K) : VL P none n B w0 ops Q (⟨some d, .mapEntry t x y, ty, pos, after, none⟩ :: rest) env H := by
  obtain ⟨h1, h2⟩ := Xs ht
  refine Xw (fun v K' => v = .tuple #[z, goInt clock] ∧ K' = K) rfl rfl hn (fun a w ha hw => ?_) (by rintro _ _ ⟨rfl, rfl⟩; exact h)
  refine ⟨_, K, setBlock w g (vobj (es ++ [(k, z, clock)]) (clock + 1)), ?_, hw.setBlock hu, rfl, rfl⟩
  have hb : w.heap[g]? = some (vobj es clock) := by
    obtain ⟨L1, L2, rfl, _⟩ := hu
    exact (hw.blk (by simp)).1
  unfold vobj at hb
  simp [execOp, ha.eval hx, ha.eval hy, Instr.mapEntry, run_underlying h1, getObj, Sem.run, hb, XD _ h2 lk, Wu w h2 lk hok hk, hz, MapKept.run_setObj_map _ hb, setBlock, vobj, vE]
theorem Qw {t kt et g clock b : Nat} {N : Nat} {l1 l2 : YK} {x y : Operand} (k : KL) {v0 : Value} {K : List HP} (hx : evo env x = some (.map (some g))) (hy : evo env y = some (kv k)) (ht : Jw P t kt et N = true) (lk : k.length = N) (hok : ∀ e ∈ l1, e.1.length = N) (hn : Nat.ble (d + 1) n.k = true)
    (hu : Upd (blk g (vobj (l1 ++ (k, v0, b) :: l2) clock)) (blk g (vobj (l1 ++ (k, v0, b) :: l2) clock)) H K) (hk : ∀ e ∈ l1, e.1 ≠ k)
    (h : VL P none n B w0 ops Q rest ((d, .tuple #[v0, goInt b]) :: env) K) : VL P none n B w0 ops Q (⟨some d, .mapEntry t x y, ty, pos, after, none⟩ :: rest) env H := by
  obtain ⟨h1, h2⟩ := Xs ht
  refine Xw (fun v K' => v = .tuple #[v0, goInt b] ∧ K' = K) rfl rfl hn (fun a w ha hw => ?_) (by rintro _ _ ⟨rfl, rfl⟩; exact h)
  refine ⟨_, K, setBlock w g (vobj (l1 ++ (k, v0, b) :: l2) clock), ?_, hw.setBlock hu, rfl, rfl⟩
  have hb : w.heap[g]? = some (vobj (l1 ++ (k, v0, b) :: l2) clock) := by
    obtain ⟨L1, L2, rfl, _⟩ := hu
    exact (hw.blk (by simp)).1
  unfold vobj at hb
  have hf := Yfp w h2 lk (v := v0) (b := b) (l2 := l2) hok hk
  have hsz : (l1 ++ (k, v0, b) :: l2).map vE = l1.map vE ++ vE (k, v0, b) :: l2.map vE := by simp
  have hget : ((List.map vE (l1 ++ (k, v0, b) :: l2)).toArray)[l1.length]? = some (vE (k, v0, b)) := by rw [hsz]; simp
  have hmod : ((List.map vE (l1 ++ (k, v0, b) :: l2)).toArray).modify l1.length (fun e => { e with key := kv k }) = (List.map vE (l1 ++ (k, v0, b) :: l2)).toArray := by
    rw [hsz, List.modify_toArray, show l1.length = (l1.map vE).length by simp, U6]; simp [vE]
  have hks := WC (P := P) w k
  have hkey : (Option.map (fun x : MapEntry => x.key) (some (vE (k, v0, b)))).getD (kv k) = kv k := rfl
  have hrun : (Instr.mapEntry t (.map (some g)) (kv k)).run P w = .ok (.tuple #[v0, goInt b]) (setBlock w g (vobj (l1 ++ (k, v0, b) :: l2) clock)) := by
    simp only [Instr.mapEntry, Sem.run_bind, run_underlying h1, getObj, Sem.run, hb, XD _ h2 lk, hf, hget, hkey, hks, hmod, Result.andThen, MapKept.run_setObj_map _ hb, setBlock, vobj]
    rfl
  simp [execOp, ha.eval hx, ha.eval hy, hrun]
theorem Ze {t g clock b : Nat} {l1 l2 : YK} {k : KL} {x y u : Operand} {v v0 : Value} {K : List HP} (hx : evo env x = some (.map (some g))) (hy : evo env y = some (goInt b)) (hv : evo env u = some v)
    (hu : Upd (blk g (vobj (l1 ++ (k, v0, b) :: l2) clock)) (blk g (vobj (l1 ++ (k, v, b) :: l2) clock)) H K) (hk : ∀ e ∈ l1, e.2.2 ≠ b)
    (h : VL P none n B w0 ops Q rest env K) : VL P none n B w0 ops Q (⟨none, .entryStore t x y u, ty, pos, after, none⟩ :: rest) env H := by
  refine Z5 rfl rfl (fun a w ha hw => ⟨setBlock w g (vobj (l1 ++ (k, v, b) :: l2) clock), ?_, hw.setBlock hu⟩) h
  have hb : w.heap[g]? = some (vobj (l1 ++ (k, v0, b) :: l2) clock) := by
    obtain ⟨L1, L2, rfl, _⟩ := hu
    exact (hw.blk (by simp)).1
  unfold vobj at hb
  have hsz : (l1 ++ (k, v0, b) :: l2).map vE = l1.map vE ++ vE (k, v0, b) :: l2.map vE := by simp
  have hidx : ((List.map vE (l1 ++ (k, v0, b) :: l2)).toArray).findIdx? (fun e => (e.born : Int) == (b : Int)) = some l1.length := by
    rw [List.findIdx?_toArray, hsz, List.findIdx?_append]
    have h0 : (l1.map vE).findIdx? (fun e => (e.born : Int) == (b : Int)) = none := by
      rw [List.findIdx?_eq_none_iff]
      intro x hx
      obtain ⟨e, he, rfl⟩ := List.mem_map.1 hx
      have := hk e he
      simp only [vE, beq_eq_false_iff_ne, ne_eq]
      omega
    rw [h0]
    simp [vE, List.findIdx?_cons]
  have hmod : ((List.map vE (l1 ++ (k, v0, b) :: l2)).toArray).modify l1.length (fun e => { e with val := v }) = (List.map vE (l1 ++ (k, v, b) :: l2)).toArray := by
    rw [hsz, List.modify_toArray, show l1.length = (l1.map vE).length by simp, U6]; simp [vE]
  have hi : (asInt (goInt b)).run P w = .ok (b : Int) w := by simp [asInt, asIntOf, goInt]
  have hrun : (Instr.entryStore t (.map (some g)) (goInt b) v).run P w = .ok () (setBlock w g (vobj (l1 ++ (k, v, b) :: l2) clock)) := by
    simp only [Instr.entryStore, Sem.run_bind, getObj, hi, Sem.run, hb, hidx, hmod, Result.andThen, MapKept.run_setObj_map _ hb, setBlock, vobj]
  simp [execOp, ha.eval hx, ha.eval hy, ha.eval hv, hrun]
theorem YgK {t kt et g clock N : Nat} {es : YK} {x : Operand} (hx : evo env x = some (.map (some g))) (hm : blk g (vobj es clock) ∈ H) (ht : Jw P t kt et N = true) (hn : Nat.ble (d + 1) n.k = true)
    (h : ∀ r, VL P none n B w0 ops Q rest ((d, .pointer (some ⟨r, 0, none⟩)) :: env) (blk r (.mapIter (some g) clock #[] clock) :: H)) : VL P none n B w0 ops Q (⟨some d, .range t x, ty, pos, after, none⟩ :: rest) env H := by
  obtain ⟨h1, h2⟩ := Xs ht
  refine Xw (fun v K => ∃ r, v = .pointer (some ⟨r, 0, none⟩) ∧ K = blk r (.mapIter (some g) clock #[] clock) :: H) rfl rfl hn (fun a w ha hw => ?_) (by rintro _ _ ⟨g, rfl, rfl⟩; exact h g)
  have hb := (hw.blk hm).1
  unfold vobj at hb
  refine ⟨_, _, w.alloc (.mapIter (some g) clock #[] clock), ?_, hw.alloc _, w.heap.size, rfl, rfl⟩
  simp [execOp, ha.eval hx, Instr.range, run_underlying h1, getObj, Sem.run, hb, newObj]
theorem Yid {g r clock since c0 : Nat} {seen : Array Nat} {es : YK} {x : Operand} {K : Nat → List HP} (hx : evo env x = some (.pointer (some ⟨r, 0, none⟩))) (hm : blk g (vobj es clock) ∈ H) (hn : Nat.ble (d + 1) n.k = true)
    (hu : ∀ b, Upd (blk r (.mapIter (some g) since seen c0)) (blk r (.mapIter (some g) since (seen.push b) clock)) H (K b)) (hold : ∀ e ∈ es, e.2.2 < since) (hsc : since ≤ c0)
    (h1 : (∀ e ∈ es, seen.contains e.2.2 = true) → VL P none n B w0 ops Q rest ((d, .tuple #[.bool false]) :: env) H)
    (h2 : ∀ e ∈ es, seen.contains e.2.2 = false → VL P none n B w0 ops Q rest ((d, .tuple #[.bool true, kv e.1, e.2.1]) :: env) (K e.2.2)) :
    VL P none n B w0 ops Q (⟨some d, .next x false, ty, pos, after, none⟩ :: rest) env H := by
  refine Xw (fun v K' => (v = .tuple #[.bool false] ∧ K' = H ∧ ∀ e ∈ es, seen.contains e.2.2 = true) ∨ ∃ e ∈ es, seen.contains e.2.2 = false ∧ v = .tuple #[.bool true, kv e.1, e.2.1] ∧ K' = K e.2.2) rfl rfl hn (fun a w ha hw => ?_) (by
    rintro _ _ (⟨rfl, rfl, hs⟩ | ⟨e, he, hs, rfl, rfl⟩)
    · exact h1 hs
    · exact h2 e he hs)
  have hb := (hw.blk hm).1
  unfold vobj at hb
  have hr : w.heap[r]? = some (.mapIter (some g) since seen c0) := by
    obtain ⟨L1, L2, e, _⟩ := hu 0
    exact (hw.blk (by rw [e]; simp)).1
  have hold' : ∀ x ∈ ((es.map vE).toArray).toList, x.born < since := by
    intro x hx
    obtain ⟨e, he, rfl⟩ := List.mem_map.1 hx
    exact hold e he
  have hx' : (execOp a.eval ⟨some d, .next x false, ty, pos, after, none⟩).run P w = ((Instr.next (.pointer (some ⟨r, 0, none⟩)) false ty).run P w).andThen fun v w' => .ok (.value v) w' := by
    simp [execOp, ha.eval hx]
  rcases run_next_at (P := P) w ty r g since c0 seen _ clock hr hb hold' hsc with ⟨hz, hrun⟩ | ⟨e, he, w1, hw1, hrun⟩
  · refine ⟨_, H, w, by rw [hx', hrun]; rfl, hw, .inl ⟨rfl, rfl, fun e he => ?_⟩⟩
    cases hs : seen.contains e.2.2 with
    | true => rfl
    | false =>
      exfalso
      have : vE e ∈ (leftOf (es.map vE).toArray seen).toList := by
        simp only [leftOf, Array.toList_filter, List.mem_filter, List.mem_map]
        exact ⟨⟨e, he, rfl⟩, by rw [show (vE e).born = e.2.2 from rfl, hs]; rfl⟩
      have h0 : (leftOf (es.map vE).toArray seen).toList = [] := by
        rw [Array.eq_empty_of_size_eq_zero hz]
      rw [h0] at this
      cases this
  · have hmem : e ∈ es.map vE ∧ seen.contains e.born = false := by
      have := he
      simp only [leftOf, Array.toList_filter, List.mem_filter] at this
      exact ⟨this.1, by simpa using this.2⟩
    obtain ⟨⟨e0, he0, rfl⟩, hs⟩ := (⟨List.mem_map.1 hmem.1, hmem.2⟩ : (∃ e0 ∈ es, vE e0 = e) ∧ _)
    have hw1' : St B w0 H w1 := by
      rcases hw1 with rfl | rfl
      · exact hw
      · exact hw.drew
    exact ⟨_, K e0.2.2, _, by rw [hx', hrun]; rfl, hw1'.setBlock (hu _), .inr ⟨e0, he0, hs, rfl, rfl⟩⟩
theorem YgJ {g r clock since : Nat} {seen : Array Nat} {es : YK} {x : Operand} {e : KL × Value × Nat} (hx : evo env x = some (.pointer (some ⟨r, 0, none⟩))) (hm : blk g (vobj es clock) ∈ H) (hr : blk r (.mapIter (some g) since (seen.push e.2.2) clock) ∈ H) (hn : Nat.ble (d + 1) n.k = true)
    (he : e ∈ es) (hnd : (es.map (·.2.2)).Nodup)
    (h : VL P none n B w0 ops Q rest ((d, .tuple #[kv e.1, e.2.1]) :: env) H) : VL P none n B w0 ops Q (⟨some d, .entry x, ty, pos, after, none⟩ :: rest) env H := by
  refine Yh6 rfl rfl hn (fun a w ha hw => ⟨w, ?_, hw⟩) h
  have hb := (hw.blk hm).1
  unfold vobj at hb
  have hrun := run_entry_at (P := P) w r g since seen _ clock (vE e) (hw.blk hr).1 hb (List.mem_map.2 ⟨e, he, rfl⟩) (by simpa [Function.comp_def, vE] using hnd)
  simp [execOp, ha.eval hx, hrun, vE]
end
end Go.Eng
namespace Go.Proofs.YtmalhidldgfeoaaGreatDoor
open Go.RowKit Go.Eng Go.Nw
def netN (g : Nat) (n : NetM) : HP := blk g (.cells #[.int .i64 n.nodes, .slice n.pA n.rows.length n.pcap, .int .i64 n.noise, .int .i64 n.thr, .slice n.lA n.links.length n.lcap, .slice n.mA n.margin.length n.mcap] 26 (0, 0))
set_option maxRecDepth 10000 in
set_option maxHeartbeats 2000000 in
theorem O1 (n : NetM) (l : List Flw) (s : SchM) (hck : YE n.net = 0) (hlen : l.length ≤ 1000) (hl : s.cells.length ≤ 1000000000000) {A : Option Addr} {cap B : Nat} {w0 : World} {H : List HP} {w : World} (hin : n.In B w0 H) (hrf : Rd B w0 H A (l.flatMap flwF)) (hr : Rd B w0 H s.A (s.cells.flatMap celF)) (hw : St B w0 H w) :
    Calls Tryz.prog 55 [n.val, .slice A l.length cap, s.val].toArray w (Post B w0 fun v K => v = .tuple #[.int .i64 (Ji n.net l s.sch).1, .int .i64 (Ji n.net l s.sch).2] ∧ K = H) := by
  refine Yc Tryz.func55 Tryz.ntmps55 rfl rfl hw ?_
  have e4 : s.sch.cells.length = s.cells.length := rfl
  have hE : Ji n.net l s.sch = YF (VI n.net l s.sch) s.cells.length 0 := rfl
  rw [hE]
  repeat' (first | refine zgb ?_ | (refine zgh ?_; intro _) | fail)
  rename_i gn gs
  refine Yl (fun (i : Nat) => [(13, .int .i64 i), (12, .int .i64 s.cells.length), (11, .slice s.A s.cells.length s.cap), (3, .pointer (some ⟨gn, 0, none⟩)), (5, .pointer (some ⟨gs, 0, none⟩)), (1, .slice A l.length cap)])
    (fun _ => blk gs (.cells #[.int .i64 s.len, .int .i64 s.off, .slice s.A s.cells.length s.cap] 30 (0, 0)) :: netN gn n :: H) (fun i => i ≤ s.cells.length ∧ ∀ k, k < i → VI n.net l s.sch k = 0) (fun i => s.cells.length - i) 0 ⟨Nat.zero_le _, fun k hk => absurd hk (Nat.not_lt_zero _)⟩ ?_ (fun w hw => hw) ?_
  · exact zu
  rintro i ⟨hi, hall⟩ K hK
  unfold netN
  have hrc := fun (X : HP) => ((hr.cons (X := netN gn n)).cons (X := blk gs (.cells #[.int .i64 s.len, .int .i64 s.off, .slice s.A s.cells.length s.cap] 30 (0, 0)))).cons (X := X)
  by_cases hlt : i < s.cells.length
  · have hget : s.cells[i]? = some (Ym s.sch i) := YG (s := s.sch) hlt
    have hbad : VI n.net l s.sch i ≠ 0 → YF (VI n.net l s.sch) s.cells.length 0 = ((i : Int), VI n.net l s.sch i) := fun h => Xu (fun k _ hk => hall k hk) (Nat.zero_le _) (by omega) h
    have hstep : VI n.net l s.sch i = 0 → ∀ k, k < i + 1 → VI n.net l s.sch k = 0 := fun h k hk => by
      by_cases e : k = i
      · rw [e]; exact h
      · exact hall k (by omega)
    obtain ⟨c, hc⟩ : ∃ c, Ym s.sch i = c := ⟨_, rfl⟩
    have hce : VI n.net l s.sch i = if Zm s.sch c = false then 2 else if Xa n.net (Yy c) (toC c) = false ∨ Z2 l (Xo c) < 0 then 7 else if 0 < i ∧ Z0 (Ym s.sch (i - 1)) c = false then 5 else 0 := by
      unfold VI
      rw [hc]
    rw [hc] at hget
    have hplc := fun {H' : List HP} {w : World} (hw : St B w0 H' w) => OK s c hw
    cases hp : Zm s.sch c with
    | false =>
      rw [hp] at hplc
      rw [hp, if_pos rfl] at hce
      rw [hbad (by rw [hce]; decide), hce]
      repeat' (first | ((first | apply Ya JB | apply Yb JB); exact za; exact rfl; exact fun _ hw => (hplc hw)) | refine zgd ?_ | (refine zge ?_ ?_ <;> intro _ <;> try (exfalso; omega)) | (refine zgh ?_; intro _) | fail)
      apply Yi H
      · exact zk
      apply Yr; exact rfl; exact rfl; exact rfl; exact ⟨rfl, rfl⟩
    | true =>
    rw [hp] at hplc
    rw [hp, if_neg (by decide)] at hce
    have hix := fun {H' : List HP} {w : World} (hin : n.In B w0 H') (hw : St B w0 H' w) => XZ n c.2.2.1 c.2.2.2.1 hin hw
    have hus := fun {H' : List HP} {w : World} (hin : n.In B w0 H') (hw : St B w0 H' w) => Om n (Zh n.net c.2.2.1 c.2.2.2.1) hin hw
    rw [Yjo hck] at hus
    have hfi := fun {H' : List HP} {w : World} (hr : Rd B w0 H' A (l.flatMap flwF)) (hw : St B w0 H' w) => QX l c.2.2.2.2 hlen (cap := cap) hr hw
    have hgf : Xa n.net (Yy c) (toC c) = Xa n.net c.2.2.1 c.2.2.2.1 := rfl
    have hff : Z2 l (Xo c) = Z2 l c.2.2.2.2 := rfl
    by_cases hg : Xa n.net c.2.2.1 c.2.2.2.1 = false ∨ Z2 l c.2.2.2.2 < 0
    · rw [hgf, hff, if_pos hg] at hce
      rw [hbad (by rw [hce]; decide), hce]
      cases hgd : Xa n.net c.2.2.1 c.2.2.2.1 with
      | false =>
        rw [hgd] at hus
        repeat' (first | ((first | apply Ya JB | apply Yb JB); exact za; exact rfl; exact fun _ hw => (hplc hw)) | ((first | apply Ya en95 | apply Yb en95); exact za; exact rfl; exact fun _ hw => (hix hin.cons.cons.cons hw)) | ((first | apply Ya JC | apply Yb JC); exact za; exact rfl; exact fun _ hw => (hus hin.cons.cons.cons hw)) | (apply zg28; refine zs84 ?_) | refine zgd ?_ | (refine zge ?_ ?_ <;> intro _ <;> try (exfalso; omega)) | (refine zgh ?_; intro _) | fail)
        apply Yi H
        · exact zk
        apply Yr; exact rfl; exact rfl; exact rfl; exact ⟨rfl, rfl⟩
      | true =>
        have hneg : Z2 l c.2.2.2.2 < 0 := hg.elim (fun h => by rw [hgd] at h; cases h) id
        rw [hgd] at hus
        repeat' (first | ((first | apply Ya JB | apply Yb JB); exact za; exact rfl; exact fun _ hw => (hplc hw)) | ((first | apply Ya en95 | apply Yb en95); exact za; exact rfl; exact fun _ hw => (hix hin.cons.cons.cons hw)) | ((first | apply Ya JC | apply Yb JC); exact za; exact rfl; exact fun _ hw => (hus hin.cons.cons.cons hw)) | ((first | apply Ya JD | apply Yb JD); exact za; exact rfl; exact fun _ hw => (hfi hrf.cons.cons.cons hw)) | (apply zg28; refine zs84 ?_) | refine zgd ?_ | (refine zge ?_ ?_ <;> intro _ <;> try (exfalso; omega)) | (refine zgh ?_; intro _) | fail)
        apply Yi H
        · exact zk
        apply Yr; exact rfl; exact rfl; exact rfl; exact ⟨rfl, rfl⟩
    have hgd : Xa n.net c.2.2.1 c.2.2.2.1 = true := by
      cases h : Xa n.net c.2.2.1 c.2.2.2.1 with
      | true => rfl
      | false => exact absurd (.inl h) hg
    have hpos : ¬ Z2 l c.2.2.2.2 < 0 := fun h => hg (.inr h)
    rw [hgf, hff, if_neg hg] at hce
    rw [hgd] at hus
    rcases Nat.eq_zero_or_pos i with h0 | h0
    · subst h0
      rw [if_neg (by omega)] at hce
      repeat' (first | ((first | apply Ya JB | apply Yb JB); exact za; exact rfl; exact fun _ hw => (hplc hw)) | ((first | apply Ya en95 | apply Yb en95); exact za; exact rfl; exact fun _ hw => (hix hin.cons.cons.cons hw)) | ((first | apply Ya JC | apply Yb JC); exact za; exact rfl; exact fun _ hw => (hus hin.cons.cons.cons hw)) | ((first | apply Ya JD | apply Yb JD); exact za; exact rfl; exact fun _ hw => (hfi hrf.cons.cons.cons hw)) | (apply zg28; refine zs84 ?_) | refine zgd ?_ | (refine zge ?_ ?_ <;> intro _ <;> try (exfalso; omega)) | (refine zgh ?_; intro _) | fail)
      apply hK (0 + 1)
      · exact ⟨by omega, hstep hce⟩
      · omega
      · exact zu
      · unfold netN
        exact zk
    have hget2 : s.cells[((i : Int) - 1).toNat]? = some (Ym s.sch (i - 1)) := by
      rw [show ((i : Int) - 1).toNat = i - 1 by omega]
      exact YG (s := s.sch) (show i - 1 < s.cells.length by omega)
    obtain ⟨p, hpv⟩ : ∃ p, Ym s.sch (i - 1) = p := ⟨_, rfl⟩
    rw [hpv] at hce hget2
    have hcl := Ye9 p c
    have hcm := fun {H' : List HP} {w : World} (hw : St B w0 H' w) => UJ p c hw
    obtain ⟨q, hq⟩ : ∃ q, cmpV (nums p) (nums c) = q := ⟨_, rfl⟩
    rw [hq] at hcl hcm
    by_cases hlt2 : q < 0
    · rw [hcl.1 hlt2, if_neg (by simp)] at hce
      repeat' (first | ((first | apply Ya JB | apply Yb JB); exact za; exact rfl; exact fun _ hw => (hplc hw)) | ((first | apply Ya en95 | apply Yb en95); exact za; exact rfl; exact fun _ hw => (hix hin.cons.cons.cons hw)) | ((first | apply Ya JC | apply Yb JC); exact za; exact rfl; exact fun _ hw => (hus hin.cons.cons.cons hw)) | ((first | apply Ya JD | apply Yb JD); exact za; exact rfl; exact fun _ hw => (hfi hrf.cons.cons.cons hw)) | ((first | apply Ya en62 | apply Yb en62); exact za; exact rfl; exact fun _ hw => (hcm hw)) | (apply zg28; refine zs84 ?_) | refine zgd ?_ | (refine zgf ?_ ?_ <;> intro _ <;> try (exfalso; omega)) | (refine zgh ?_; intro _) | fail)
      apply hK (i + 1)
      · exact ⟨by omega, hstep hce⟩
      · omega
      · exact zu
      · unfold netN
        exact zk
    · have hnl : Z0 p c = false := by
        cases h : Z0 p c with
        | false => rfl
        | true => exact absurd (hcl.2 h) hlt2
      rw [hnl, if_pos ⟨h0, rfl⟩] at hce
      rw [hbad (by rw [hce]; decide), hce]
      repeat' (first | ((first | apply Ya JB | apply Yb JB); exact za; exact rfl; exact fun _ hw => (hplc hw)) | ((first | apply Ya en95 | apply Yb en95); exact za; exact rfl; exact fun _ hw => (hix hin.cons.cons.cons hw)) | ((first | apply Ya JC | apply Yb JC); exact za; exact rfl; exact fun _ hw => (hus hin.cons.cons.cons hw)) | ((first | apply Ya JD | apply Yb JD); exact za; exact rfl; exact fun _ hw => (hfi hrf.cons.cons.cons hw)) | ((first | apply Ya en62 | apply Yb en62); exact za; exact rfl; exact fun _ hw => (hcm hw)) | (apply zg28; refine zs84 ?_) | refine zgd ?_ | (refine zgf ?_ ?_ <;> intro _ <;> try (exfalso; omega)) | (refine zgh ?_; intro _) | fail)
      apply Yi H
      · exact zk
      apply Yr; exact rfl; exact rfl; exact rfl; exact ⟨rfl, rfl⟩
  · repeat' (first | refine zgc ?_ | (refine zge ?_ ?_ <;> intro _ <;> try (exfalso; omega)) | fail)
    rw [show i = s.cells.length by omega] at hall
    rw [X7 fun k _ hk => hall k (by omega)]
    apply Yi H
    · exact zk
    apply Yr; exact rfl; exact rfl; exact rfl; exact ⟨rfl, rfl⟩
end Go.Proofs.YtmalhidldgfeoaaGreatDoor
namespace Go.Eng
open Go.RowKit
theorem YfY {P : Program} {B : Nat} {w0 : World} {env : Env} {H : List HP} {n : Nat} (T : Tab P) {fn : Func} {Φ : Value → List HP → Prop} {p g rt : Nat} {v : Value} {cs : Array Value} {tt : TypeId} {fr : Nat × Nat} (hr : fn.results = #[.cell p rt]) (hp : get env p = some (.pointer (some ⟨g, 0, none⟩)))
    (hm : Eng.blk g (.cells cs tt fr) ∈ H) (hv : nth cs.toList 0 = some v) (ht : Eng.look T.sc rt = some ()) {H2 : List HP} (hH : ∀ w, St B w0 H w → St B w0 H2 w) (h : Φ v H2) : VQ ⟨n, [], none⟩ B w0 (bodyPost P fn (Post B w0 Φ)) .ret env H := by
  refine ⟨fun a w ha hw => bodyPost_ret (v := v) ?_ ha.defers ⟨_, H2, rfl, hH w hw, h⟩⟩
  have hp' := ha.slot p _ hp
  rw [YcL] at hv
  have hc := Y8 (i := 0) (hw.blk hm).1
  simp [results, hr, Array.getD_eq_getD_getElem?, hp', asAddr, loadVar, XW (T.scal ht).1, hc, hv]
end Go.Eng
namespace Go.Proofs.YtmalhidldgfeoaaGreatDoor
open Go.RowKit Go.Eng Go.Nw
theorem YhM {s : Sch} {i : Nat} (hi : i < s.cells.length) (h : ∀ j ∈ inI s (Ym s i).1 s.cells.length, j < i → Uo (Ym s i) (Ym s j) = false) : Ju s i = false := by
  unfold Ju
  rw [List.any_eq_false]
  intro j hj
  have hj := List.mem_range.1 hj
  rw [Bool.and_eq_true, decide_eq_true_eq]
  rintro ⟨h1, h2⟩
  rw [h j (UA.2 ⟨by omega, h1⟩) hj] at h2
  cases h2
theorem YhN {s : Sch} {i j : Nat} (hji : j < i) (hs : (Ym s j).1 = (Ym s i).1) (ht : Uo (Ym s i) (Ym s j) = true) : Ju s i = true := by
  unfold Ju
  rw [List.any_eq_true]
  exact ⟨j, List.mem_range.2 hji, by rw [decide_eq_true hs, ht]; rfl⟩
set_option maxRecDepth 10000 in
set_option maxHeartbeats 2000000 in
theorem YfM (s : SchM) (i : Nat) (hi : i < s.cells.length) (hl : s.cells.length ≤ 1000) {B : Nat} {w0 : World} {H : List HP} {w : World} (hr : Rd B w0 H s.A (s.cells.flatMap celF)) (hw : St B w0 H w) :
    Calls Tryz.prog 56 [s.val, .int .i64 i].toArray w (Post B w0 fun v K => v = .bool (Ju s.sch i) ∧ K = H) := by
  refine XF Tryz.func56 Tryz.ntmps56 rfl rfl hw ?_
  have hget : s.cells[i]? = some (Ym s.sch i) := YG (s := s.sch) hi
  obtain ⟨c, hc⟩ : ∃ c, Ym s.sch i = c := ⟨_, rfl⟩
  rw [hc] at hget
  repeat' (first | (apply zg23; first | (refine zs52 ?_; intro _) | (refine zs53 ?_; intro _)) | refine zgd ?_ | (refine zgh ?_; intro _) | fail)
  rename_i gs gi gr gc
  apply Yo _ en59
  exact za
  exact rfl
  exact fun _ hw => (Yab s c.1 (hw))
  rintro _ _ ⟨g1, g2, rfl, rfl⟩
  repeat' (first | refine zgb ?_ | fail)
  have hr6 : Rd B w0 (intB g2 c.1 :: schB g1 s :: blk gc (.cells (celF c).toArray 40 (0, 0)) :: blk gi (.cells #[.int .i64 i] 3 (0, 0)) :: schB gs s :: H) s.A (s.cells.flatMap celF) := hr.cons.cons.cons.cons.cons
  refine XG (gf := 118) (lb := [.pointer (some ⟨g1, 0, none⟩), .pointer (some ⟨g2, 0, none⟩)]) (xs := inXs s.sch c.1) (intB g2 c.1 :: schB g1 s :: blk gc (.cells (celF c).toArray 40 (0, 0)) :: blk gi (.cells #[.int .i64 i] 3 (0, 0)) :: schB gs s :: H) (fun _ : Unit => [blk gr (.cells #[.bool false] 4 (0, 0))])
    (fun k _ => ∀ m j, m < k → (inI s.sch c.1 s.cells.length)[m]? = some j → j < i → Uo c (Ym s.sch j) = false) (fun e K => e = .ret ∧ Ju s.sch i = true ∧ K = [blk gr (.cells #[.bool true] 4 (0, 0))]) () rfl Yix (Yaa s c.1 g1 g2 hr6 (by omega) (.tail _ (.head _)) (.head _)) rfl ?_ (by kernel_rfl) (by kernel_rfl) ?_ (fun m j h => absurd h (Nat.not_lt_zero _)) ?_ ?_ ?_
  · intro args h
    obtain ⟨k, hk⟩ := List.mem_iff_getElem?.1 h
    obtain ⟨i, _, _, rfl⟩ := JY hk
    rfl
  · exact fun w hw => hw.perm (.trans (.cons _ (.cons _ (.swap _ _ _))) (.trans (.cons _ (.swap _ _ _)) (.swap _ _ _)))
  · rintro l k args R ⟨⟩ hk hI
    obtain ⟨j, hj, hlt, rfl⟩ := JY hk
    have hlt2 : j < s.cells.length := hlt
    dsimp only [Vy, List.cons_append, List.nil_append]
    have hgj : s.cells[j]? = some (Ym s.sch j) := YG (s := s.sch) hlt
    have hjs : (Ym s.sch j).1 = c.1 := (UA.1 (List.mem_of_getElem? hj)).2
    obtain ⟨d, hd⟩ : ∃ d, Ym s.sch j = d := ⟨_, rfl⟩
    rw [hd] at hgj
    have htc : Uo c d = true ↔ (c.2.2.1 = d.2.2.1 ∨ c.2.2.1 = d.2.2.2.1 ∨ c.2.2.2.1 = d.2.2.1 ∨ c.2.2.2.1 = d.2.2.2.1) := by unfold Uo Yy toC; rw [decide_eq_true_eq]
    repeat' (first | refine zga ?_ | fail)
    apply Ja Yf
    intro R'
    unfold intB schB
    have hr7 : Rd B w0 (R' :: blk gr (.cells #[.bool false] 4 (0, 0)) :: intB g2 c.1 :: schB g1 s :: blk gc (.cells (celF c).toArray 40 (0, 0)) :: blk gi (.cells #[.int .i64 i] 3 (0, 0)) :: schB gs s :: H) s.A (s.cells.flatMap celF) := hr6.cons.cons
    unfold intB schB at hr7
    clear hr6
    repeat' (first | refine zgd ?_ | (refine zgf ?_ ?_ <;> intro _ <;> try (exfalso; omega)) | (refine zgh ?_; intro _) | fail)
    all_goals first
      | (refine Qy [blk gr (.cells #[.bool true] 4 (0, 0))] ⟨rfl, ?_, rfl⟩ ?_
         · exact YhN (j := j) (by omega) (by rw [hc]; exact hjs) (by rw [hc, hd]; exact htc.2 (by omega))
         · dsimp only [List.cons_append, List.nil_append]
           exact zk
         done)
      | (refine JA () ?_ ?_
         · intro m j2 hm hj2 hji
           rcases Nat.lt_succ_iff_lt_or_eq.1 hm with h | h
           · exact hI m j2 h hj2 hji
           · subst h
             obtain rfl := Option.some.inj (hj.symm.trans hj2)
             rw [hd]
             exact Bool.eq_false_iff.2 fun h => by have := htc.1 h; omega
         · dsimp only [List.cons_append, List.nil_append]
           exact zk
         done)
  · rintro D ⟨⟩ hI
    have htw : Ju s.sch i = false := YhM hi fun j hj hji => by
      rw [hc] at hj ⊢
      obtain ⟨m, hm⟩ := List.mem_iff_getElem?.1 hj
      refine hI m j ?_ hm hji
      rw [inXs, List.length_map]
      exact (List.getElem?_eq_some_iff.1 hm).1
    rw [htw]
    dsimp only [List.cons_append, List.nil_append]
    unfold intB schB
    repeat' (first | refine zgd ?_ | fail)
    apply Zf Yf
    apply VQ_m
    apply YfY T (H2 := H); exact rfl; exact rfl; exact zm; exact rfl; exact rfl; exact zk; exact ⟨rfl, rfl⟩
  · rintro D e K ⟨rfl, htw, rfl⟩ hjmp
    rw [htw]
    dsimp only [List.cons_append, List.nil_append]
    unfold intB schB
    repeat' (first | refine zgc ?_ | fail)
    apply Zf Yf
    apply VQ_m
    apply YfY T (H2 := H); exact rfl; exact rfl; exact zm; exact rfl; exact rfl; exact zk; exact ⟨rfl, rfl⟩
open Go.RowKit Go.Eng Go.Nw
theorem UW (n : NetM) (v : Int) {B : Nat} {w0 : World} {H : List HP} {w : World} (hw : St B w0 H w) :
    Calls Tryz.prog 173 [n.val, .int .i64 v].toArray w (Post B w0 fun u K => u = .bool (insE v n.net.nodes) ∧ K = H) := by
  have e1 : n.net.nodes = n.nodes := rfl
  refine Yc Tryz.func173 Tryz.ntmps173 rfl rfl hw ?_
  repeat' (first | refine zgc ?_ | (refine zgf ?_ ?_ <;> intro _ <;> try (exfalso; omega)) | (refine zgh ?_; intro _) | fail)
  all_goals (
    apply Yi H
    · exact zk
    apply Yd; exact rfl; exact rfl
    first
      | exact ⟨by rw [show insE v n.net.nodes = true from decide_eq_true (by omega)], rfl⟩
      | exact ⟨by rw [show insE v n.net.nodes = false from decide_eq_false (by omega)], rfl⟩)
theorem Yfb (n : NetM) (c : Cel) (gn : Nat) {B : Nat} {w0 : World} {H : List HP} {w : World} (hm : blk gn (.cells #[.int .i64 n.nodes, .slice n.pA n.rows.length n.pcap, .int .i64 n.noise, .int .i64 n.thr, .slice n.lA n.links.length n.lcap, .slice n.mA n.margin.length n.mcap] 26 (0, 0)) ∈ H) (hw : St B w0 H w) :
    Calls Tryz.prog 172 [celV c, .pointer (some ⟨gn, 0, none⟩)].toArray w (Post B w0 fun v K => v = .bool (Uh n.net c) ∧ K = H) := by
  refine Yc Tryz.func172 Tryz.ntmps172 rfl rfl hw ?_
  obtain ⟨b, hb⟩ : ∃ b, Uh n.net c = b := ⟨_, rfl⟩
  rw [hb]
  unfold Uh Yy toC at hb
  repeat' (first | ((first | apply XJ Oz | apply XI Oz); exact za; exact rfl; exact fun _ hw => (UW n _ hw); all_goals (intro hB; (try simp only [decide_eq_true_eq, decide_eq_false_iff_not] at hB); try (exfalso; omega))) | refine zgd ?_ | (refine zgh ?_; intro _) | fail)
  all_goals (
    apply Yi H
    · exact zk
    apply Yd; exact rfl; exact rfl
    refine ⟨?_, rfl⟩
    rw [← hb]
    simp [*])
theorem QL (p : Cel → Bool) (l : List Cel) (f : Nat) (cs : List Value) (hen : ∀ xs w, (callFunc f xs).run Tryz.prog w = .ok (.enter f xs) w) (hlen : l.length ≤ 1000) {A : Option Addr} {cap B : Nat} {w0 : World} {H : List HP} {w : World} (hr : Rd B w0 H A (l.flatMap celF))
    (hp : ∀ a ∈ l, ∀ w, St B w0 H w → Calls Tryz.prog f ([celV a] ++ cs).toArray w (Post B w0 fun v K => v = .bool (p a) ∧ K = H)) (hw : St B w0 H w) :
    Calls Tryz.prog 174 [.slice A l.length cap, .func (.func f) #[] cs.toArray].toArray w (Post B w0 fun v K => v = .bool (l.any p) ∧ K = H) := by
  refine Yc Tryz.func174 Tryz.ntmps174 rfl rfl hw ?_
  rw [← Q9]
  repeat' (first | refine zga ?_ | fail)
  first | apply Ya YbE | apply Yb YbE
  exact za
  exact rfl
  exact fun _ hw => (Yac p l f cs hen hlen hr hp hw)
  by_cases h0 : 0 ≤ Yn p l 0
  · rw [decide_eq_true h0]
    repeat' (first | refine zga ?_ | (refine zgf ?_ ?_ <;> intro _ <;> try (exfalso; omega)) | fail)
    apply Yd; exact rfl; exact rfl
    exact ⟨rfl, rfl⟩
  · rw [decide_eq_false h0]
    repeat' (first | refine zga ?_ | (refine zgf ?_ ?_ <;> intro _ <;> try (exfalso; omega)) | fail)
    apply Yd; exact rfl; exact rfl
    exact ⟨rfl, rfl⟩
def VN (n : Net) (c : Cel) (node : Int) (m : Nat) : Int := (([c.2.2.1, c.2.2.2.1].take m).map fun e => powN n e node).sum
theorem Yhm {n : Net} {c : Cel} {node e : Int} {m : Nat} (h : [c.2.2.1, c.2.2.2.1][m]? = some e) : VN n c node (m + 1) = VN n c node m + powN n e node := by
  unfold VN
  rw [List.take_add_one, h, Option.toList_some, List.map_append, List.sum_append]
  simp
theorem Yke {n : Net} (hok : Ok n) (c : Cel) (node : Int) {m : Nat} (h : m ≤ 2) : 0 ≤ VN n c node m ∧ VN n c node m ≤ 137438953472 := by
  have h1 := Vx hok c.2.2.1 node
  have h2 := Vx hok c.2.2.2.1 node
  match m, h with
  | 0, _ => simp [VN]
  | 1, _ => simp [VN]; omega
  | 2, _ => simp [VN]; omega
set_option maxRecDepth 10000 in
set_option maxHeartbeats 2000000 in
theorem Yfc (n : NetM) (l : List Cel) (j : Nat) (node : Int) (hok : Ok n.net) (hnode : 0 ≤ node ∧ node < n.nodes) (hlen : l.length ≤ 1000) {A : Option Addr} {cap B : Nat} {w0 : World} {H : List HP} {w : World} (hin : n.In B w0 H) (hr : Rd B w0 H A (l.flatMap celF)) (hw : St B w0 H w) :
    Calls Tryz.prog 175 [n.val, .slice A l.length cap, .int .i64 j, .int .i64 node].toArray w (Post B w0 fun v K => v = .int .i64 (XY n.net l j node l.length) ∧ K = H) := by
  refine Yc Tryz.func175 Tryz.ntmps175 rfl rfl hw ?_
  have e1 : n.net.nodes = n.nodes := rfl
  repeat' (first | refine zgb ?_ | (refine zgh ?_; intro _) | fail)
  rename_i gn
  refine Yl (fun (k : Nat) => [(16, .int .i64 k), (15, .int .i64 l.length), (14, .slice A l.length cap), (9, .int .i64 (XY n.net l j node k)), (4, .pointer (some ⟨gn, 0, none⟩)), (2, .int .i64 j), (3, .int .i64 node)]) (fun _ => netN gn n :: H) (fun k => k ≤ l.length) (fun k => l.length - k) 0 (Nat.zero_le _) ?_ (fun w hw => hw) ?_
  · exact zu
  rintro k hk K hK
  have hbd := Yf6 hok l j node k
  have hrc := hr.cons (X := netN gn n)
  by_cases hlt : k < l.length
  · obtain ⟨c, hc⟩ : ∃ c, l[k]? = some c := ⟨_, List.getElem?_eq_getElem hlt⟩
    have hcl : celL l k = c := by unfold celL; rw [List.getD_eq_getElem?_getD, hc]; rfl
    have hst : XY n.net l j node (k + 1) = XY n.net l j node k + if k = j then 0 else powN n.net c.2.2.1 node + powN n.net c.2.2.2.1 node := by
      rw [XY, hcl]; rfl
    by_cases hkj : k = j
    · rw [if_pos hkj, Int.add_zero] at hst
      repeat' (first | refine zgd ?_ | (refine zgf ?_ ?_ <;> intro _ <;> try (exfalso; omega)) | (refine zgh ?_; intro _) | fail)
      apply hK (k + 1)
      · show k + 1 ≤ _
        omega
      · omega
      · rw [hst]
        exact zu
      · exact zk
    rw [if_neg hkj] at hst
    repeat' (first | refine zgd ?_ | (refine zgf ?_ ?_ <;> intro _ <;> try (exfalso; omega)) | (refine zgh ?_; intro _) | fail)
    rename_i gc _ ge
    refine Yl (fun (m : Nat) => [(30, .int .i64 m), (29, .int .i64 ((2 : Nat) : Int)), (28, .slice (some ⟨ge, 0, none⟩) ([c.2.2.1, c.2.2.2.1] : List Int).length 2), (9, .int .i64 (XY n.net l j node k + VN n.net c node m)), (16, .int .i64 k), (15, .int .i64 l.length), (14, .slice A l.length cap), (4, .pointer (some ⟨gn, 0, none⟩)), (2, .int .i64 j), (3, .int .i64 node)]) (fun _ => blk ge (.cells #[.int .i64 c.2.2.1, .int .i64 c.2.2.2.1] 3 (0, 0)) :: netN gn n :: H) (fun m => m ≤ 2) (fun m => 2 - m) 0 (Nat.zero_le _) ?_ ?_ ?_
    · rw [show VN n.net c node 0 = 0 from rfl, Int.add_zero]
      exact zu
    · exact zk
    rintro m hm K2 hK2
    have hpb := Yke hok c node hm
    have hre : Rd B w0 (blk ge (.cells #[.int .i64 c.2.2.1, .int .i64 c.2.2.2.1] 3 (0, 0)) :: netN gn n :: H) (some ⟨ge, 0, none⟩) (([c.2.2.1, c.2.2.2.1] : List Int).flatMap numF) := Rd.blk (cs := #[.int .i64 c.2.2.1, .int .i64 c.2.2.2.1]) (.head _)
    clear hrc
    unfold netN at hre ⊢
    by_cases hlt2 : m < 2
    · obtain ⟨e, he⟩ : ∃ e, [c.2.2.1, c.2.2.2.1][m]? = some e := ⟨_, List.getElem?_eq_getElem hlt2⟩
      have hst2 := Yhm (n := n.net) (node := node) he
      have hcn := fun {H' : List HP} {w : World} (hw : St B w0 H' w) => UW n e hw
      have hl2 : ([c.2.2.1, c.2.2.2.1] : List Int).length = 2 := rfl
      cases hie : insE e n.net.nodes with
      | false =>
        rw [hie] at hcn
        rw [show powN n.net e node = 0 by unfold powN; rw [hie]; simp, Int.add_zero] at hst2
        repeat' (first | ((first | apply Ya Oz | apply Yb Oz); exact za; exact rfl; exact fun _ hw => (hcn hw)) | refine zgd ?_ | (refine zge ?_ ?_ <;> intro _ <;> try (exfalso; omega)) | fail)
        apply hK2 (m + 1)
        · show m + 1 ≤ 2
          omega
        · omega
        · rw [hst2]
          exact zu
        · unfold netN
          exact zk
      | true =>
        rw [hie] at hcn
        have he2 : 0 ≤ e ∧ e < n.net.nodes := of_decide_eq_true hie
        have hp0 : (n.rows.length : Int) = n.net.nodes := by
          have := hok.p0
          rwa [show n.net.power = n.rows.map RowM.xs from rfl, List.length_map] at this
        obtain ⟨r, hrw⟩ : ∃ r, n.rows[e.toNat]? = some r := ⟨_, List.getElem?_eq_getElem (by omega)⟩
        have hrm := List.mem_of_getElem? hrw
        have hrl : (r.xs.length : Int) = n.net.nodes := hok.p1 r.xs (List.mem_map.2 ⟨r, hrm, rfl⟩)
        obtain ⟨q, hq⟩ : ∃ q, r.xs[node.toNat]? = some q := ⟨_, List.getElem?_eq_getElem (by omega)⟩
        have hpw : powN n.net e node = q := by
          unfold powN
          rw [if_pos ⟨hie, decide_eq_true (by omega)⟩]
          exact Yeq (n := n.net) (r := r.xs) (by simp [NetM.net, hrw]) hq
        have hqb := Vx hok e node
        rw [hpw] at hqb hst2
        have hpd := hin.pw
        have hrd := hin.rw_ r hrm
        have hs1 := hin.s1
        have hs2 := hin.s2 r hrm
        repeat' (first | ((first | apply Ya Oz | apply Yb Oz); exact za; exact rfl; exact fun _ hw => (hcn hw)) | refine zgd ?_ | (refine zge ?_ ?_ <;> intro _ <;> try (exfalso; omega)) | fail)
        apply hK2 (m + 1)
        · show m + 1 ≤ 2
          omega
        · omega
        · rw [hst2]
          exact zu
        · unfold netN
          exact zk
    · obtain rfl : m = 2 := by omega
      have hp2 : XY n.net l j node (k + 1) = XY n.net l j node k + VN n.net c node 2 := by
        rw [hst]
        simp [VN]
      repeat' (first | refine zgc ?_ | (refine zge ?_ ?_ <;> intro _ <;> try (exfalso; omega)) | fail)
      apply hK (k + 1)
      · show k + 1 ≤ _
        omega
      · omega
      · rw [hp2]
        exact zu
      · unfold netN
        exact zk
  · repeat' (first | refine zgc ?_ | (refine zge ?_ ?_ <;> intro _ <;> try (exfalso; omega)) | fail)
    apply Yi H
    · exact zk
    apply Yd; exact rfl; exact rfl
    rw [show k = l.length by omega]
    exact ⟨rfl, rfl⟩
set_option maxRecDepth 10000 in
set_option maxHeartbeats 1000000 in
theorem JS (n : NetM) (l : List Cel) (j : Nat) (node : Int) (hck : YE n.net = 0) (hnode : 0 ≤ node ∧ node < n.nodes) (hj : j < l.length) (hlen : l.length ≤ 1000) (hno : l.any (Uh n.net) = false) {A : Option Addr} {cap B : Nat} {w0 : World} {H : List HP} {w : World} (hin : n.In B w0 H) (hr : Rd B w0 H A (l.flatMap celF)) (hw : St B w0 H w) :
    Calls Tryz.prog 116 [n.val, .slice A l.length cap, .int .i64 j, .int .i64 node].toArray w (Post B w0 fun v K => v = .int .i64 (V3 n.net l j node) ∧ K = H) := by
  refine Yc Tryz.func116 Tryz.ntmps116 rfl rfl hw ?_
  have e1 : n.net.nodes = n.nodes := rfl
  have hins : insE node n.net.nodes = true := decide_eq_true hnode
  have hd : V3 n.net l j node = XY n.net l j node l.length := by
    unfold V3
    rw [if_neg (by rw [hck, hins, hno]; simp; omega), Int.toNat_natCast]
  rw [hd]
  have hchk := fun {H' : List HP} {w : World} (hin : n.In B w0 H') (hw : St B w0 H' w) => YS n hin hw
  rw [hck] at hchk
  have hcn := fun {H' : List HP} {w : World} (hw : St B w0 H' w) => UW n node hw
  rw [hins] at hcn
  (apply Zx; apply XH; apply Xv; exact rfl; exact rfl; intro g)
  have hct := fun {H' : List HP} {w : World} (hm : blk g (.cells #[.int .i64 n.nodes, .slice n.pA n.rows.length n.pcap, .int .i64 n.noise, .int .i64 n.thr, .slice n.lA n.links.length n.lcap, .slice n.mA n.margin.length n.mcap] 26 (0, 0)) ∈ H') (hr : Rd B w0 H' A (l.flatMap celF)) (hw : St B w0 H' w) => QL (Uh n.net) l 172 [.pointer (some ⟨g, 0, none⟩)] YlV hlen (cap := cap) hr (fun c _ w hw => Yfb n c g hm hw) hw
  rw [hno] at hct
  repeat' (first | ((first | apply Ya en50 | apply Yb en50); exact za; exact rfl; exact fun _ hw => (hchk hin.cons hw)) | ((first | apply Ya Oz | apply Yb Oz); exact za; exact rfl; exact fun _ hw => (hcn hw)) | ((first | apply Ya YkI | apply Yb YkI); exact za; exact rfl; exact fun _ hw => (hct zm hr.cons hw)) | ((first | apply Ya YkJ | apply Yb YkJ); exact za; exact rfl; exact fun _ hw => (Yfc n l j node (Xe hck) hnode hlen hin.cons hr.cons hw)) | (apply zg29; (apply Yq; exact za ; exact rfl)) | refine zgc ?_ | (refine zgf ?_ ?_ <;> intro _ <;> try (exfalso; omega)) | fail)
  apply Yi H
  · exact zk
  apply Yd; exact rfl; exact rfl; exact ⟨rfl, rfl⟩
open Go.RowKit Go.Eng Go.Nw
theorem Yg5 {s : Sch} {slot : Int} {j n : Nat} (h : (Ym s j).1 = slot) (hj : j < n) : ∃ R, inI s slot n = inI s slot j ++ j :: R ∧ ∀ x ∈ R, j < x := by
  obtain ⟨m, rfl⟩ : ∃ m, n = j + (m + 1) := ⟨n - j - 1, by omega⟩
  have e : inI s slot (j + (m + 1)) = inI s slot j ++ ((List.range (m + 1)).map (j + ·)).filter fun i => decide ((Ym s i).1 = slot) := by
    unfold inI; rw [List.range_add, List.filter_append]
  rw [e, List.range_succ_eq_map, List.map_cons, List.filter_cons, if_pos (by simpa using h)]
  refine ⟨_, rfl, fun x hx => ?_⟩
  obtain ⟨y, hy, rfl⟩ := List.mem_map.1 (List.mem_filter.1 hx).1
  obtain ⟨z, _, rfl⟩ := List.mem_map.1 hy
  omega
theorem YiH {s : Sch} {slot : Int} {n k j : Nat} (h : (inI s slot n)[k]? = some j) : (inI s slot n).take k = inI s slot j := by
  have hm := UA.1 (List.mem_of_getElem? h)
  obtain ⟨R, hR, hRx⟩ := Yg5 hm.2 hm.1
  rw [hR] at h ⊢
  have hk : k = (inI s slot j).length := by
    rcases Nat.lt_trichotomy k (inI s slot j).length with h1 | h1 | h1
    · rw [List.getElem?_append_left h1] at h
      have := (UA.1 (List.mem_of_getElem? h)).1
      omega
    · exact h1
    · rw [List.getElem?_append_right (by omega)] at h
      obtain ⟨q, hq⟩ : ∃ q, k - (inI s slot j).length = q + 1 := ⟨k - (inI s slot j).length - 1, by omega⟩
      rw [hq, List.getElem?_cons_succ] at h
      have := hRx j (List.mem_of_getElem? h)
      omega
  rw [hk, List.take_left' rfl]
theorem YcF {α : Type} {p : α → Bool} {l : List α} {i : Nat} {x : α} (h : l[i]? = some x) : (l.take (i + 1)).filter p = (l.take i).filter p ++ if p x = true then [x] else [] := by
  rw [List.take_add_one, h, Option.toList_some, List.filter_append]
  cases hp : p x <;> simp [hp]
def Uj (s : Sch) (c : Cel) (l : List Nat) : List Cel := (l.filter fun j => decide ((Ym s j).2.1 = c.2.1)).map (Ym s)
theorem W8 {s : Sch} {c : Cel} : ∀ {m : Nat}, m ≤ s.cells.length → Uj s c (inI s c.1 m) = (s.cells.take m).filter (Xn c)
  | 0, _ => by simp [Uj, inI]
  | m + 1, h => by
    have ih := W8 (s := s) (c := c) (m := m) (by omega)
    have hg := YG (s := s) (i := m) (by omega)
    rw [YcF hg, ← ih]
    have hp : Xn c (Ym s m) = true ↔ (Ym s m).1 = c.1 ∧ (Ym s m).2.1 = c.2.1 := by unfold Xn; rw [decide_eq_true_eq]
    by_cases h1 : (Ym s m).1 = c.1
    · rw [Ygo h1]
      unfold Uj
      rw [List.filter_append, List.map_append]
      by_cases h2 : (Ym s m).2.1 = c.2.1
      · rw [if_pos (hp.2 ⟨h1, h2⟩)]
        simp [h2]
      · rw [if_neg fun h => h2 (hp.1 h).2]
        simp [h2]
    · rw [YiG h1, if_neg fun h => h1 (hp.1 h).1, List.append_nil]
theorem Yep (s : Sch) (c : Cel) (l : List Nat) (j : Nat) : Uj s c (l ++ [j]) = Uj s c l ++ if (Ym s j).2.1 = c.2.1 then [Ym s j] else [] := by
  unfold Uj
  rw [List.filter_append, List.map_append]
  by_cases h : (Ym s j).2.1 = c.2.1
  · rw [if_pos h]; simp [h]
  · rw [if_neg h]; simp [h]
structure DsM where
  A : Option Addr
  cap : Nat
  M : List Cel
  a : Int
set_option maxRecDepth 10000 in
set_option maxHeartbeats 4000000 in
theorem QT (n : NetM) (s : SchM) (i : Nat) (hck : YE n.net = 0) (hgood : ∀ c ∈ s.cells, Xa n.net (Yy c) (toC c) = true) (hi : i < s.cells.length) (hl : s.cells.length ≤ 1000) {B : Nat} {w0 : World} {H : List HP} {w : World} (hin : n.In B w0 H) (hr : Rd B w0 H s.A (s.cells.flatMap celF)) (hw : St B w0 H w) :
    Calls Tryz.prog 57 [n.val, s.val, .int .i64 i].toArray w (Post B w0 fun v K => v = .bool (Jl n.net s.sch i) ∧ K = H) := by
  refine XF Tryz.func57 Tryz.ntmps57 rfl rfl hw ?_
  have hget : s.cells[i]? = some (Ym s.sch i) := YG (s := s.sch) hi
  obtain ⟨c, hc⟩ : ∃ c, Ym s.sch i = c := ⟨_, rfl⟩
  rw [hc] at hget
  have hrm : Rd B w0 [many H] s.A (s.cells.flatMap celF) := hr.tail
  clear hr
  refine VR [many H] (fun w hw => hw.perm (.closeT H)) ?_
  repeat' (first | (apply zg23; first | (refine zs52 ?_; intro _) | (refine zs53 ?_; intro _)) | refine zgd ?_ | (refine zgh ?_; intro _) | fail)
  rename_i gn gs gi g7 g8
  apply YZ [0, 1, 2, 3, 4, 5, 6] [7] [false, false, true, true, false, true]
  kernel_rfl
  kernel_rfl
  exact zy
  (simp only [Yj, nthO]; rfl)
  (simp only [Yj, nthO]; rfl)
  repeat' (first | refine zgd ?_ | fail)
  apply Yo _ en59
  exact za
  exact rfl
  exact fun _ hw => (Yab s c.1 (hw))
  rintro _ _ ⟨g1, g2, rfl, rfl⟩
  repeat' (first | refine zgd ?_ | fail)
  obtain ⟨L, hL⟩ : ∃ L, inI s.sch c.1 s.cells.length = L := ⟨_, rfl⟩
  have hiL : i ∈ L := by
    rw [← hL]
    exact UA.2 ⟨hi, by rw [hc]⟩
  have hr7 : Rd B w0 (intB g2 c.1 :: schB g1 s :: blk gi (.cells #[.int .i64 i] 3 (0, 0)) :: schB gs s :: netN gn n :: [many H]) s.A (s.cells.flatMap celF) := hrm.cons.cons.cons.cons.cons
  rw [show (Value.slice none 0 0).cells = #[Value.slice none 0 0] from rfl]
  refine ZL 40 5 ?_
  refine XG (gf := 118) (lb := [.pointer (some ⟨g1, 0, none⟩), .pointer (some ⟨g2, 0, none⟩)]) (xs := inXs s.sch c.1) (intB g2 c.1 :: schB g1 s :: blk gi (.cells #[.int .i64 i] 3 (0, 0)) :: schB gs s :: netN gn n :: [many H]) (fun x : DsM => [blk g7 (.cells #[.slice x.A x.M.length x.cap] 28 (0, 0)), cels x.A x.cap x.M, blk g8 (.cells #[.int .i64 x.a] 3 (0, 0))])
    (fun k x => x.M = Uj s.sch c (L.take k) ∧ x.a = if i ∈ L.take k then (Xf s.sch i : Int) else 0) (fun _ _ => False) ⟨none, 0, [], 0⟩ rfl Yix (Yaa s c.1 g1 g2 hr7 (by omega) (.tail _ (.head _)) (.head _)) rfl ?_ (by kernel_rfl) (by kernel_rfl) ?_ ⟨by simp [Uj], by simp⟩ ?_ ?_ (fun _ _ _ h => h.elim)
  · intro args h
    obtain ⟨k, hk⟩ := List.mem_iff_getElem?.1 h
    obtain ⟨i, _, _, rfl⟩ := JY hk
    rfl
  · unfold schB intB cels netN
    simp only [List.cons_append, List.nil_append, List.length_nil, List.flatMap_nil]
    exact zk
  · rintro l k args R ⟨A, cap, M, a⟩ hk ⟨hM, ha⟩
    obtain ⟨j, hj, hlt, rfl⟩ := JY hk
    have hlt2 : j < s.cells.length := hlt
    have hj : L[k]? = some j := by rw [← hL]; exact hj
    dsimp only at hM ha ⊢
    dsimp only [Vy, List.cons_append, List.nil_append]
    have hgj : s.cells[j]? = some (Ym s.sch j) := YG (s := s.sch) hlt
    have htj : L.take k = inI s.sch c.1 j := by
      rw [← hL] at hj ⊢
      exact YiH hj
    have htk : L.take (k + 1) = L.take k ++ [j] := by rw [List.take_add_one, hj, Option.toList_some]
    have hMf : M = (s.cells.take j).filter (Xn c) := by
      rw [hM, htj]
      exact W8 (s := s.sch) (by show j ≤ s.cells.length; omega)
    have hMl : M.length ≤ s.cells.length := by
      rw [hMf]
      have h1 := List.length_filter_le (Xn c) (s.cells.take j)
      rw [List.length_take] at h1
      omega
    have hps := Yep s.sch c (L.take k) j
    rw [← htk, ← hM] at hps
    obtain ⟨d, hd⟩ : ∃ d, Ym s.sch j = d := ⟨_, rfl⟩
    rw [hd] at hgj hps
    repeat' (first | refine zga ?_ | fail)
    apply Ja Yf
    intro R'
    unfold intB schB netN cels
    clear hr7
    by_cases hoff : d.2.1 = c.2.1
    rotate_left
    · have hij : i ≠ j := by
        rintro rfl
        rw [hc] at hd
        subst hd
        exact hoff rfl
      repeat' (first | refine zgd ?_ | (refine zge ?_ ?_ <;> intro _ <;> try (exfalso; omega)) | fail)
      all_goals (
        apply JA ⟨A, cap, M, a⟩
        · refine ⟨?_, ?_⟩
          · show M = _
            rw [hps, if_neg hoff, List.append_nil]
          · show a = _
            rw [ha, htk]
            simp [hij]
        · dsimp only [List.cons_append, List.nil_append]
          exact zk)
    by_cases hji : j = i
    · obtain rfl := hji
      obtain rfl : d = c := hd.symm.trans hc
      have hsa : (M.length : Int) = (Xf s.sch j : Int) := by
        rw [hMf]
        unfold Xf
        rw [hc]
        rfl
      repeat' (first | refine zgd ?_ | (refine zgf ?_ ?_ <;> intro _ <;> try (exfalso; omega)) | fail)
      apply JO [0, 1, 2, 3, 4, 5, 6] [7, 8] [false, true, false, false, false, false, false, true, false, true]
      kernel_rfl
      kernel_rfl
      exact zy
      (simp only [Yj, nthO]; rfl)
      (simp only [Yj, nthO]; rfl)
      repeat' (first | (apply Qt T; exact rfl; exact zm; exact rfl; exact rfl; exact rfl) | (apply Yk; (repeat (first | with_reducible exact Yh | (with_reducible apply Yg; (repeat (first | with_reducible exact Yf | with_reducible apply Ye)))))) | refine zgd ?_ | (refine zgh ?_; intro _) | (refine zgi ?_; intro _ _) | fail)
      rename_i A9 cap9
      apply JA ⟨A9, cap9, M ++ [d], (M.length : Int)⟩
      · refine ⟨?_, ?_⟩
        · show M ++ [d] = _
          rw [hps, if_pos hoff]
        · show (M.length : Int) = _
          rw [htk, if_pos (by simp), hsa]
      · dsimp only [List.cons_append, List.nil_append]
        intro w hw
        rw [UV, Yaj M d] at hw
        unfold cels at hw
        revert w
        exact zk
    · have hji2 : i ≠ j := fun e => hji e.symm
      repeat' (first | refine zgd ?_ | (refine zgf ?_ ?_ <;> intro _ <;> try (exfalso; omega)) | fail)
      apply JO [0, 1, 2, 3, 4, 5, 6] [7, 8] [false, true, false, false, false, false, false, true, false, true]
      kernel_rfl
      kernel_rfl
      exact zy
      (simp only [Yj, nthO]; rfl)
      (simp only [Yj, nthO]; rfl)
      repeat' (first | (apply Qt T; exact rfl; exact zm; exact rfl; exact rfl; exact rfl) | (apply Yk; (repeat (first | with_reducible exact Yh | (with_reducible apply Yg; (repeat (first | with_reducible exact Yf | with_reducible apply Ye)))))) | refine zgd ?_ | (refine zgh ?_; intro _) | (refine zgi ?_; intro _ _) | fail)
      rename_i A9 cap9
      apply JA ⟨A9, cap9, M ++ [d], a⟩
      · refine ⟨?_, ?_⟩
        · show M ++ [d] = _
          rw [hps, if_pos hoff]
        · show a = _
          rw [ha, htk]
          simp [hji2]
      · dsimp only [List.cons_append, List.nil_append]
        intro w hw
        rw [UV, Yaj M d] at hw
        unfold cels at hw
        revert w
        exact zk
  · rintro D ⟨A, cap, M, a⟩ ⟨hM, ha⟩
    have hLl : (inXs s.sch c.1).length = L.length := by rw [inXs, List.length_map]; exact congrArg List.length hL
    dsimp only at hM ha ⊢
    rw [hLl, List.take_length] at hM ha
    rw [if_pos hiL] at ha
    subst ha
    have hMS : M = Of s.sch i := by
      rw [hM, ← hL]
      have h1 := W8 (s := s.sch) (c := c) (Nat.le_refl _)
      rw [List.take_length] at h1
      rw [show s.cells.length = s.sch.cells.length from rfl, h1]
      unfold Of
      rw [hc]
    have hMl : M.length ≤ 1000 := by
      rw [hMS]
      have h1 := List.length_filter_le (Xn (Ym s.sch i)) s.sch.cells
      exact Nat.le_trans h1 hl
    have hgM : M[((Xf s.sch i : Nat) : Int).toNat]? = some c := by rw [hMS, Int.toNat_natCast, Yje (s := s.sch) hi, hc]
    have hal : Xf s.sch i < M.length := (List.getElem?_eq_some_iff.1 hgM).1
    have hok := Xe hck
    have hcm : c ∈ s.cells := List.mem_of_getElem? hget
    have hgd := hgood c hcm
    obtain ⟨⟨f0, f1⟩, ⟨t0, t1⟩, _, k1, k2⟩ : (0 ≤ c.2.2.1 ∧ c.2.2.1 < n.net.nodes) ∧ (0 ≤ c.2.2.2.1 ∧ c.2.2.2.1 < n.net.nodes) ∧ c.2.2.1 ≠ c.2.2.2.1 ∧ 0 ≤ YB n.net c.2.2.1 c.2.2.2.1 ∧ 0 ≤ YB n.net c.2.2.2.1 c.2.2.1 := UZ hok hgd
    have hno : M.any (Uh n.net) = false := by
      rw [List.any_eq_false]
      intro x hx
      have hxm : x ∈ s.cells := by
        rw [hMS] at hx
        exact (List.mem_filter.1 hx).1
      obtain ⟨h1, h2, _⟩ := UZ hok (hgood x hxm)
      unfold Uh
      rw [show insE (Yy x) n.net.nodes = true from decide_eq_true h1, show insE (toC x) n.net.nodes = true from decide_eq_true h2]
      simp
    have hinm : n.In B w0 [many H] := ⟨hin.pw.tail, fun r hr => (hin.rw_ r hr).tail, hin.lk.tail, hin.mg.tail, hin.s1, hin.s2, hin.s3, hin.s4⟩
    have hmg := hinm.mg
    have hs4 := hin.s4
    have hml : n.margin.length = n.net.links.length := hok.k1
    have x1 := ZJ k1
    have x2 := ZJ k2
    have hix : ∀ u v : Int, Zh n.net u v = YB n.net u v := fun u v => by unfold Zh; rw [if_neg (by omega)]
    have p1 := fun {H' : List HP} {w : World} (hin : n.In B w0 H') (hw : St B w0 H' w) => XZ n c.2.2.1 c.2.2.2.1 hin hw
    have p2 := fun {H' : List HP} {w : World} (hin : n.In B w0 H') (hw : St B w0 H' w) => XZ n c.2.2.2.1 c.2.2.1 hin hw
    rw [hix] at p1 p2
    obtain ⟨i1, hi1⟩ : ∃ z, YB n.net c.2.2.1 c.2.2.2.1 = z := ⟨_, rfl⟩
    obtain ⟨i2, hi2⟩ : ∃ z, YB n.net c.2.2.2.1 c.2.2.1 = z := ⟨_, rfl⟩
    rw [hi1] at p1 k1 x1
    rw [hi2] at p2 k2 x2
    have hm1 : n.margin[i1.toNat]? = some (mar n.net i1.toNat) := by
      unfold mar
      rw [List.getD_eq_getElem?_getD, show n.net.margin = n.margin from rfl, List.getElem?_eq_getElem (by omega)]; rfl
    have hm2 : n.margin[i2.toNat]? = some (mar n.net i2.toNat) := by
      unfold mar
      rw [List.getD_eq_getElem?_getD, show n.net.margin = n.margin from rfl, List.getElem?_eq_getElem (by omega)]; rfl
    have q1 := fun {H' : List HP} {w : World} (hin : n.In B w0 H') (hr : Rd B w0 H' A (M.flatMap celF)) (hw : St B w0 H' w) => JS n M (Xf s.sch i) c.2.2.2.1 hck ⟨t0, t1⟩ hal hMl hno (cap := cap) hin hr hw
    have q2 := fun {H' : List HP} {w : World} (hin : n.In B w0 H') (hr : Rd B w0 H' A (M.flatMap celF)) (hw : St B w0 H' w) => JS n M (Xf s.sch i) c.2.2.1 hck ⟨f0, f1⟩ hal hMl hno (cap := cap) hin hr hw
    have r1 := fun {H' : List HP} {w : World} (hin : n.In B w0 H') (hw : St B w0 H' w) => Qo n (mar n.net i1.toNat) (V3 n.net M (Xf s.sch i) c.2.2.2.1) hin hw
    have r2 := fun {H' : List HP} {w : World} (hin : n.In B w0 H') (hw : St B w0 H' w) => Qo n (mar n.net i2.toNat) (V3 n.net M (Xf s.sch i) c.2.2.1) hin hw
    have hres : Jl n.net s.sch i = (!(Ub n.net (mar n.net i1.toNat) (V3 n.net M (Xf s.sch i) c.2.2.2.1)) || !(Ub n.net (mar n.net i2.toNat) (V3 n.net M (Xf s.sch i) c.2.2.1))) := by
      unfold Jl
      rw [hc, ← hMS]
      unfold Yy toC
      rw [hi1, hi2]
    obtain ⟨b1, hb1⟩ : ∃ b, Ub n.net (mar n.net i1.toNat) (V3 n.net M (Xf s.sch i) c.2.2.2.1) = b := ⟨_, rfl⟩
    obtain ⟨b2, hb2⟩ : ∃ b, Ub n.net (mar n.net i2.toNat) (V3 n.net M (Xf s.sch i) c.2.2.1) = b := ⟨_, rfl⟩
    rw [hb1] at r1 hres
    rw [hb2] at r2 hres
    rw [hres]
    dsimp only [List.cons_append, List.nil_append]
    unfold cels intB schB netN
    cases b1 with
    | false =>
      repeat' (first | (apply zg28; refine zs84 ?_) | refine zgd ?_ | (refine zgh ?_; intro _) | fail)
      first | apply Ya en95 | apply Yb en95
      exact za
      exact rfl
      exact fun _ hw => (p1 (by repeat (first | exact hinm | apply NetM.In.cons)) hw)
      repeat' (first | refine zgc ?_ | fail)
      first | apply Ya en95 | apply Yb en95
      exact za
      exact rfl
      exact fun _ hw => (p2 (by repeat (first | exact hinm | apply NetM.In.cons)) hw)
      repeat' (first | (apply zg28; refine zs84 ?_) | refine zgd ?_ | fail)
      first | apply Ya UM | apply Yb UM
      exact za
      exact rfl
      exact fun _ hw => (q1 (by repeat (first | exact hinm | apply NetM.In.cons)) (Rd.sl zm) hw)
      repeat' (first | fail)
      first | apply Ya UL | apply Yb UL
      exact za
      exact rfl
      exact fun _ hw => (r1 (by repeat (first | exact hinm | apply NetM.In.cons)) hw)
      repeat' (first | refine zgd ?_ | fail)
      apply Zf
      · (repeat (first | with_reducible exact Yf | with_reducible apply Ye))
      apply VQ_m
      apply Yi H
      · intro w hw
        have h5 : St B w0 [many H] w := by
          revert w
          exact zk
        exact h5.perm (.openT H)
      apply Yd; exact rfl; exact rfl; exact ⟨rfl, rfl⟩
    | true =>
      cases b2 with
      | false =>
        repeat' (first | (apply zg28; refine zs84 ?_) | refine zgd ?_ | (refine zgh ?_; intro _) | fail)
        first | apply Ya en95 | apply Yb en95
        exact za
        exact rfl
        exact fun _ hw => (p1 (by repeat (first | exact hinm | apply NetM.In.cons)) hw)
        repeat' (first | refine zgc ?_ | fail)
        first | apply Ya en95 | apply Yb en95
        exact za
        exact rfl
        exact fun _ hw => (p2 (by repeat (first | exact hinm | apply NetM.In.cons)) hw)
        repeat' (first | (apply zg28; refine zs84 ?_) | refine zgd ?_ | fail)
        first | apply Ya UM | apply Yb UM
        exact za
        exact rfl
        exact fun _ hw => (q1 (by repeat (first | exact hinm | apply NetM.In.cons)) (Rd.sl zm) hw)
        repeat' (first | fail)
        first | apply Ya UL | apply Yb UL
        exact za
        exact rfl
        exact fun _ hw => (r1 (by repeat (first | exact hinm | apply NetM.In.cons)) hw)
        repeat' (first | refine zgd ?_ | fail)
        first | apply Ya UM | apply Yb UM
        exact za
        exact rfl
        exact fun _ hw => (q2 (by repeat (first | exact hinm | apply NetM.In.cons)) (Rd.sl zm) hw)
        repeat' (first | refine zgb ?_ | fail)
        first | apply Ya UL | apply Yb UL
        exact za
        exact rfl
        exact fun _ hw => (r2 (by repeat (first | exact hinm | apply NetM.In.cons)) hw)
        repeat' (first | refine zgd ?_ | fail)
        apply Zf
        · (repeat (first | with_reducible exact Yf | with_reducible apply Ye))
        apply VQ_m
        apply Yi H
        · intro w hw
          have h5 : St B w0 [many H] w := by
            revert w
            exact zk
          exact h5.perm (.openT H)
        apply Yd; exact rfl; exact rfl; exact ⟨rfl, rfl⟩
      | true =>
        repeat' (first | (apply zg28; refine zs84 ?_) | refine zgd ?_ | (refine zgh ?_; intro _) | fail)
        first | apply Ya en95 | apply Yb en95
        exact za
        exact rfl
        exact fun _ hw => (p1 (by repeat (first | exact hinm | apply NetM.In.cons)) hw)
        repeat' (first | refine zgc ?_ | fail)
        first | apply Ya en95 | apply Yb en95
        exact za
        exact rfl
        exact fun _ hw => (p2 (by repeat (first | exact hinm | apply NetM.In.cons)) hw)
        repeat' (first | (apply zg28; refine zs84 ?_) | refine zgd ?_ | fail)
        first | apply Ya UM | apply Yb UM
        exact za
        exact rfl
        exact fun _ hw => (q1 (by repeat (first | exact hinm | apply NetM.In.cons)) (Rd.sl zm) hw)
        repeat' (first | fail)
        first | apply Ya UL | apply Yb UL
        exact za
        exact rfl
        exact fun _ hw => (r1 (by repeat (first | exact hinm | apply NetM.In.cons)) hw)
        repeat' (first | refine zgd ?_ | fail)
        first | apply Ya UM | apply Yb UM
        exact za
        exact rfl
        exact fun _ hw => (q2 (by repeat (first | exact hinm | apply NetM.In.cons)) (Rd.sl zm) hw)
        repeat' (first | refine zgb ?_ | fail)
        first | apply Ya UL | apply Yb UL
        exact za
        exact rfl
        exact fun _ hw => (r2 (by repeat (first | exact hinm | apply NetM.In.cons)) hw)
        repeat' (first | refine zgd ?_ | fail)
        apply Zf
        · (repeat (first | with_reducible exact Yf | with_reducible apply Ye))
        apply VQ_m
        apply Yi H
        · intro w hw
          have h5 : St B w0 [many H] w := by
            revert w
            exact zk
          exact h5.perm (.openT H)
        apply Yd; exact rfl; exact rfl; exact ⟨rfl, rfl⟩
open Go.RowKit Go.Eng Go.Nw
theorem Ye4 {n : Net} {l : List Flw} {s : Sch} (h1 : (Ji n l s).2 = 0) : ∀ c ∈ s.cells, Xa n (Yy c) (toC c) = true := by
  have k1 := Y2.1 h1
  intro c hc
  obtain ⟨i, hi⟩ := List.mem_iff_getElem?.1 hc
  have hl := (List.getElem?_eq_some_iff.1 hi).1
  have := k1 i (Nat.zero_le _) (by omega)
  unfold VI at this
  rw [ZB hi] at this
  cases hg : Xa n (Yy c) (toC c) with
  | true => rfl
  | false =>
    rw [hg] at this
    split at this
    · omega
    · rw [if_pos (.inl rfl)] at this; omega
theorem Yg0 {nodes : Int} {l : List Flw} (h : (YO nodes l).2 = 0) : l.length ≤ 16 := by
  unfold YO at h
  split at h
  · cases h
  split at h
  · cases h
  · omega
set_option maxRecDepth 10000 in
set_option maxHeartbeats 4000000 in
theorem Ybf (n : NetM) (l : List Flw) (s : SchM) (hlf : l.length ≤ 9223372036854775807) (hl : s.cells.length ≤ 1000000000000) {A : Option Addr} {cap B : Nat} {w0 : World} {H : List HP} {w : World} (hin : n.In B w0 H) (hrf : Rd B w0 H A (l.flatMap flwF)) (hr : Rd B w0 H s.A (s.cells.flatMap celF)) (hw : St B w0 H w) :
    Calls Tryz.prog 13 [n.val, .slice A l.length cap, s.val].toArray w (Post B w0 fun v K => v = .tuple #[.int .i64 (schE n.net l s.sch).1, .int .i64 (schE n.net l s.sch).2] ∧ K = H) := by
  refine Yc Tryz.func13 Tryz.ntmps13 rfl rfl hw ?_
  have e4 : s.sch.cells.length = s.cells.length := rfl
  have e5 : s.sch.len = s.len := rfl
  have hchk := fun {H' : List HP} {w : World} (hin : n.In B w0 H') (hw : St B w0 H' w) => YS n hin hw
  have hsz := fun {H' : List HP} {w : World} (hw : St B w0 H' w) => YaK s hw
  by_cases h1 : YE n.net = 0
  rotate_left
  · have hS : schE n.net l s.sch = (-1, 1) := by
      have hw1 : Zq n.net l s.sch = 1 := by unfold Zq; rw [if_pos h1]
      unfold schE; rw [hw1]; rfl
    rw [hS]
    repeat' (first | ((first | apply Ya en50 | apply Yb en50); exact za; exact rfl; exact fun _ hw => (hchk hin.cons.cons hw)) | refine zgc ?_ | (refine zge ?_ ?_ <;> intro _ <;> try (exfalso; omega)) | (refine zgh ?_; intro _) | fail)
    apply Yi H
    · exact zk
    apply Yr; exact rfl; exact rfl; exact rfl; exact ⟨rfl, rfl⟩
  rw [h1] at hchk
  by_cases h2 : (YO n.nodes l).2 = 0
  rotate_left
  · have hS : schE n.net l s.sch = (-1, 1) := by
      have hw1 : Zq n.net l s.sch = 1 := by unfold Zq; rw [if_neg (by omega)]; exact if_pos h2
      unfold schE; rw [hw1]; rfl
    rw [hS]
    repeat' (first | ((first | apply Ya en50 | apply Yb en50); exact za; exact rfl; exact fun _ hw => (hchk hin.cons.cons hw)) | ((first | apply Ya en51 | apply Yb en51); exact za; exact rfl; exact fun _ hw => (YT n.nodes l hlf hrf.cons.cons hw)) | refine zgd ?_ | (refine zge ?_ ?_ <;> intro _ <;> try (exfalso; omega)) | (refine zgh ?_; intro _) | fail)
    apply Yi H
    · exact zk
    apply Yr; exact rfl; exact rfl; exact rfl; exact ⟨rfl, rfl⟩
  have hl16 := Yg0 h2
  have hper := YbL h2
  cases h3 : ZZ s.sch with
  | false =>
    rw [h3] at hsz
    have hS : schE n.net l s.sch = (-1, 2) := by
      have hw1 : Zq n.net l s.sch = 2 := by unfold Zq; rw [if_neg (by omega), if_neg (fun h => h h2), if_pos h3]
      unfold schE; rw [hw1]; rfl
    rw [hS]
    repeat' (first | ((first | apply Ya en50 | apply Yb en50); exact za; exact rfl; exact fun _ hw => (hchk hin.cons.cons hw)) | ((first | apply Ya en51 | apply Yb en51); exact za; exact rfl; exact fun _ hw => (YT n.nodes l hlf hrf.cons.cons hw)) | ((first | apply Ya en52 | apply Yb en52); exact za; exact rfl; exact fun _ hw => (hsz hw)) | refine zgd ?_ | (refine zge ?_ ?_ <;> intro _ <;> try (exfalso; omega)) | (refine zgh ?_; intro _) | fail)
    apply Yi H
    · exact zk
    apply Yr; exact rfl; exact rfl; exact rfl; exact ⟨rfl, rfl⟩
  | true =>
  rw [h3] at hsz
  have hsl : 1 ≤ s.len ∧ s.len ≤ 512 := by
    have := of_decide_eq_true h3
    exact ⟨this.1, this.2.1⟩
  obtain ⟨b, hb⟩ : ∃ b, (l.any fun f => decide (s.len.tmod f.2.2.2.1 ≠ 0)) = b := ⟨_, rfl⟩
  have hw0 : Zq n.net l s.sch = if b = true then 11 else if 512 < s.cells.length then 8 else 0 := by
    unfold Zq
    rw [if_neg (by omega), if_neg (fun h => h h2), h3, if_neg (by decide), e5, hb]
    rfl
  have hcf := fun {H' : List HP} {w : World} (gs : Nat) (hm : blk gs (.cells #[.int .i64 s.len, .int .i64 s.off, .slice s.A s.cells.length s.cap] 30 (0, 0)) ∈ H') (hr : Rd B w0 H' A (l.flatMap flwF)) (hw : St B w0 H' w) => QM (fun f => decide (s.len.tmod f.2.2.2.1 ≠ 0)) l 54 [.pointer (some ⟨gs, 0, none⟩)] en54 (by omega) (cap := cap) hr (fun f hf w hw => YcS s f gs hsl ⟨(hper f hf).2.2.1, (hper f hf).2.2.2⟩ hm hw) hw
  rw [hb] at hcf
  cases b with
  | true =>
    rw [if_pos rfl] at hw0
    have hS : schE n.net l s.sch = (-1, 11) := by unfold schE; rw [hw0]; rfl
    rw [hS]
    repeat' (first | ((first | apply Ya en50 | apply Yb en50); exact za; exact rfl; exact fun _ hw => (hchk hin.cons.cons hw)) | ((first | apply Ya en51 | apply Yb en51); exact za; exact rfl; exact fun _ hw => (YT n.nodes l hlf hrf.cons.cons hw)) | ((first | apply Ya en52 | apply Yb en52); exact za; exact rfl; exact fun _ hw => (hsz hw)) | ((first | apply Ya en53 | apply Yb en53); exact za; exact rfl; exact fun _ hw => (hcf _ zm hrf.cons.cons hw)) | (apply zg29; (apply Yq; exact za ; exact rfl)) | refine zgd ?_ | (refine zge ?_ ?_ <;> intro _ <;> try (exfalso; omega)) | (refine zgh ?_; intro _) | fail)
    apply Yi H
    · exact zk
    apply Yr; exact rfl; exact rfl; exact rfl; exact ⟨rfl, rfl⟩
  | false =>
  rw [if_neg (by decide)] at hw0
  by_cases h5 : 512 < s.cells.length
  · rw [if_pos h5] at hw0
    have hS : schE n.net l s.sch = (-1, 8) := by unfold schE; rw [hw0]; rfl
    rw [hS]
    repeat' (first | ((first | apply Ya en50 | apply Yb en50); exact za; exact rfl; exact fun _ hw => (hchk hin.cons.cons hw)) | ((first | apply Ya en51 | apply Yb en51); exact za; exact rfl; exact fun _ hw => (YT n.nodes l hlf hrf.cons.cons hw)) | ((first | apply Ya en52 | apply Yb en52); exact za; exact rfl; exact fun _ hw => (hsz hw)) | ((first | apply Ya en53 | apply Yb en53); exact za; exact rfl; exact fun _ hw => (hcf _ zm hrf.cons.cons hw)) | (apply zg29; (apply Yq; exact za ; exact rfl)) | refine zgd ?_ | (refine zge ?_ ?_ <;> intro _ <;> try (exfalso; omega)) | (refine zgh ?_; intro _) | fail)
    apply Yi H
    · exact zk
    apply Yr; exact rfl; exact rfl; exact rfl; exact ⟨rfl, rfl⟩
  rw [if_neg h5] at hw0
  have hS : schE n.net l s.sch = if (Ji n.net l s.sch).2 ≠ 0 then Ji n.net l s.sch else if (VE s.sch).2 ≠ 0 then VE s.sch else Ybx n.net s.sch := by
    unfold schE; rw [hw0]; rfl
  rw [hS]
  have hcc := fun {H' : List HP} {w : World} (hin : n.In B w0 H') (hrf : Rd B w0 H' A (l.flatMap flwF)) (hr : Rd B w0 H' s.A (s.cells.flatMap celF)) (hw : St B w0 H' w) => O1 n l s h1 (by omega) hl (cap := cap) hin hrf hr hw
  obtain ⟨⟨c1, c2⟩, hcv⟩ : ∃ R, Ji n.net l s.sch = R := ⟨_, rfl⟩
  rw [hcv] at hcc ⊢
  dsimp only at hcc ⊢
  by_cases h6 : c2 ≠ 0
  · rw [if_pos h6]
    repeat' (first | ((first | apply Ya en50 | apply Yb en50); exact za; exact rfl; exact fun _ hw => (hchk hin.cons.cons hw)) | ((first | apply Ya en51 | apply Yb en51); exact za; exact rfl; exact fun _ hw => (YT n.nodes l hlf hrf.cons.cons hw)) | ((first | apply Ya en52 | apply Yb en52); exact za; exact rfl; exact fun _ hw => (hsz hw)) | ((first | apply Ya en53 | apply Yb en53); exact za; exact rfl; exact fun _ hw => (hcf _ zm hrf.cons.cons hw)) | ((first | apply Ya en55 | apply Yb en55); exact za; exact rfl; exact fun _ hw => (hcc hin.cons.cons hrf.cons.cons hr.cons.cons hw)) | (apply zg29; (apply Yq; exact za ; exact rfl)) | refine zgd ?_ | (refine zge ?_ ?_ <;> intro _ <;> try (exfalso; omega)) | (refine zgh ?_; intro _) | fail)
    apply Yi H
    · exact zk
    apply Yr; exact rfl; exact rfl; exact rfl; exact ⟨rfl, rfl⟩
  obtain rfl : c2 = 0 := Decidable.not_not.1 h6
  rw [if_neg h6]
  have hgood := Ye4 (n := n.net) (l := l) (s := s.sch) (by rw [hcv])
  repeat' (first | ((first | apply Ya en50 | apply Yb en50); exact za; exact rfl; exact fun _ hw => (hchk hin.cons.cons hw)) | ((first | apply Ya en51 | apply Yb en51); exact za; exact rfl; exact fun _ hw => (YT n.nodes l hlf hrf.cons.cons hw)) | ((first | apply Ya en52 | apply Yb en52); exact za; exact rfl; exact fun _ hw => (hsz hw)) | ((first | apply Ya en53 | apply Yb en53); exact za; exact rfl; exact fun _ hw => (hcf _ zm hrf.cons.cons hw)) | ((first | apply Ya en55 | apply Yb en55); exact za; exact rfl; exact fun _ hw => (hcc hin.cons.cons hrf.cons.cons hr.cons.cons hw)) | (apply zg29; (apply Yq; exact za ; exact rfl)) | refine zgd ?_ | (refine zge ?_ ?_ <;> intro _ <;> try (exfalso; omega)) | (refine zgh ?_; intro _) | fail)
  first | (rename_i gn gs; guard_hyp gn : Nat; guard_hyp gs : Nat) | (rename_i gn gs _; guard_hyp gn : Nat; guard_hyp gs : Nat) | (rename_i gn gs _ _; guard_hyp gn : Nat; guard_hyp gs : Nat) | (rename_i gn gs _ _ _; guard_hyp gn : Nat; guard_hyp gs : Nat) | (rename_i gn gs _ _ _ _; guard_hyp gn : Nat; guard_hyp gs : Nat) | (rename_i gn gs _ _ _ _ _; guard_hyp gn : Nat; guard_hyp gs : Nat) | (rename_i gn gs _ _ _ _ _ _; guard_hyp gn : Nat; guard_hyp gs : Nat)
  refine Yl (fun (k : Nat) => [(53, .int .i64 k), (52, .int .i64 s.cells.length), (51, .slice s.A s.cells.length s.cap), (3, .pointer (some ⟨gn, 0, none⟩)), (5, .pointer (some ⟨gs, 0, none⟩))]) (fun _ => blk gs (.cells #[.int .i64 s.len, .int .i64 s.off, .slice s.A s.cells.length s.cap] 30 (0, 0)) :: netN gn n :: H) (fun k => k ≤ s.cells.length ∧ ∀ j, j < k → Ju s.sch j = false) (fun k => s.cells.length - k) 0 ⟨Nat.zero_le _, fun j hj => absurd hj (Nat.not_lt_zero _)⟩ ?_ (fun w hw => hw) ?_
  · exact zu
  rintro k ⟨hk, hall⟩ K hK
  have hF : VE s.sch = YF (fun i => if Ju s.sch i = true then 6 else 0) s.cells.length 0 := rfl
  unfold netN
  by_cases hlt : k < s.cells.length
  · have htc := fun {H' : List HP} {w : World} (hr : Rd B w0 H' s.A (s.cells.flatMap celF)) (hw : St B w0 H' w) => YfM s k hlt (by omega) hr hw
    cases htw : Ju s.sch k with
    | true =>
      rw [htw] at htc
      have hT : VE s.sch = ((k : Int), 6) := by
        rw [hF, Xu (i := k) (fun j _ hj => by simp only [hall j hj]; rfl) (Nat.zero_le _) (by omega) (by simp only [htw]; decide)]
        simp [htw]
      rw [hT, if_pos (show (6 : Int) ≠ 0 by decide)]
      repeat' (first | ((first | apply Ya en56 | apply Yb en56); exact za; exact rfl; exact fun _ hw => (htc hr.cons.cons hw)) | refine zgc ?_ | (refine zge ?_ ?_ <;> intro _ <;> try (exfalso; omega)) | fail)
      apply Yi H
      · exact zk
      apply Yr; exact rfl; exact rfl; exact rfl; exact ⟨rfl, rfl⟩
    | false =>
      rw [htw] at htc
      repeat' (first | ((first | apply Ya en56 | apply Yb en56); exact za; exact rfl; exact fun _ hw => (htc hr.cons.cons hw)) | refine zgc ?_ | (refine zge ?_ ?_ <;> intro _ <;> try (exfalso; omega)) | fail)
      apply hK (k + 1)
      · refine ⟨by omega, fun j hj => ?_⟩
        by_cases e : j = k
        · rw [e]; exact htw
        · exact hall j (by omega)
      · omega
      · exact zu
      · unfold netN
        exact zk
  have hT : (VE s.sch).2 = 0 := by
    rw [hF, Y2]
    intro j _ hj
    simp only [hall j (by omega)]
    rfl
  rw [if_neg (fun h => h hT)]
  clear hK
  repeat' (first | refine zgc ?_ | (refine zge ?_ ?_ <;> intro _ <;> try (exfalso; omega)) | fail)
  refine Yl (fun (k : Nat) => [(64, .int .i64 k), (63, .int .i64 s.cells.length), (62, .slice s.A s.cells.length s.cap), (3, .pointer (some ⟨gn, 0, none⟩)), (5, .pointer (some ⟨gs, 0, none⟩))]) (fun _ => blk gs (.cells #[.int .i64 s.len, .int .i64 s.off, .slice s.A s.cells.length s.cap] 30 (0, 0)) :: netN gn n :: H) (fun k => k ≤ s.cells.length ∧ ∀ j, j < k → Jl n.net s.sch j = false) (fun k => s.cells.length - k) 0 ⟨Nat.zero_le _, fun j hj => absurd hj (Nat.not_lt_zero _)⟩ ?_ (fun w hw => hw) ?_
  · exact zu
  rintro k ⟨hk, hall⟩ K2 hK
  have hF : Ybx n.net s.sch = YF (fun i => if Jl n.net s.sch i = true then 16 else 0) s.cells.length 0 := rfl
  unfold netN
  by_cases hlt : k < s.cells.length
  · have htc := fun {H' : List HP} {w : World} (hin : n.In B w0 H') (hr : Rd B w0 H' s.A (s.cells.flatMap celF)) (hw : St B w0 H' w) => QT n s k h1 hgood hlt (by omega) hin hr hw
    cases htw : Jl n.net s.sch k with
    | true =>
      rw [htw] at htc
      have hT : Ybx n.net s.sch = ((k : Int), 16) := by
        rw [hF, Xu (i := k) (fun j _ hj => by simp only [hall j hj]; rfl) (Nat.zero_le _) (by omega) (by simp only [htw]; decide)]
        simp [htw]
      rw [hT]
      repeat' (first | ((first | apply Ya en57 | apply Yb en57); exact za; exact rfl; exact fun _ hw => (htc hin.cons.cons hr.cons.cons hw)) | refine zgc ?_ | (refine zge ?_ ?_ <;> intro _ <;> try (exfalso; omega)) | fail)
      apply Yi H
      · exact zk
      apply Yr; exact rfl; exact rfl; exact rfl; exact ⟨rfl, rfl⟩
    | false =>
      rw [htw] at htc
      repeat' (first | ((first | apply Ya en57 | apply Yb en57); exact za; exact rfl; exact fun _ hw => (htc hin.cons.cons hr.cons.cons hw)) | refine zgc ?_ | (refine zge ?_ ?_ <;> intro _ <;> try (exfalso; omega)) | fail)
      apply hK (k + 1)
      · refine ⟨by omega, fun j hj => ?_⟩
        by_cases e : j = k
        · rw [e]; exact htw
        · exact hall j (by omega)
      · omega
      · exact zu
      · unfold netN
        exact zk
  · have hT : Ybx n.net s.sch = (-1, 0) := by
      rw [hF]
      exact X7 fun j _ hj => by simp only [hall j (by omega)]; rfl
    rw [hT]
    repeat' (first | refine zgc ?_ | (refine zge ?_ ?_ <;> intro _ <;> try (exfalso; omega)) | fail)
    apply Yi H
    · exact zk
    apply Yr; exact rfl; exact rfl; exact rfl; exact ⟨rfl, rfl⟩
open Go.RowKit Go.Eng Go.Nw Go.Rt
theorem ZF {α : Type} (f : α → HP) (l : List α) (r : α) (H : List HP) : Perm (f r :: many (l.map f) :: H) (many ((l ++ [r]).map f) :: H) := by
  have := Perm.push (f r) (l.map f) [] H
  rw [List.append_nil] at this
  rw [List.map_append]
  exact this
abbrev clsP (A : Option Addr) (cap : Nat) (C : List ClM) : HP := sl 61 5 A C.length cap (C.flatMap clF)
theorem YdO (A : Option Addr) (cap : Nat) (l : List ClM) (c : ClM) : sl 61 5 A (l.length + 1) cap (l.flatMap clF ++ #[Value.int .i64 c.flow, .slice c.rA c.rs.length c.rcap, .slice c.bA c.bs.length c.bcap, .slice c.wA c.ws.length c.wcap, .slice c.sA c.ss.length c.scap].toList) = clsP A cap (l ++ [c]) := by simp [clsP, List.flatMap_append, clF]
def OutC (H : List HP) (R : List Clm × (Int × Int)) (v : Value) (K : List HP) : Prop := ∃ A cap C, v = .tuple #[.slice A (C : List ClM).length cap, .int .i64 R.2.1, .int .i64 R.2.2] ∧ C.map ClM.clm = R.1 ∧ (∀ c ∈ C, c.lens) ∧ K = clsP A cap C :: many (C.map clQ) :: H
theorem Vr {B : Nat} {w0 w : World} {H : List HP} (h : St B w0 H w) : St B w0 (clsP none 0 [] :: many (([] : List ClM).map clQ) :: H) w := (h.perm (.noMany H)).nilSlice _ _
theorem Vv {H : List HP} {R : List Clm × (Int × Int)} {v : Value} (h1 : R.1 = []) (hv : v = .tuple #[.slice none 0 0, .int .i64 R.2.1, .int .i64 R.2.2]) : OutC H R v (clsP none 0 [] :: many (([] : List ClM).map clQ) :: H) := ⟨none, 0, [], hv, h1.symm, (fun c hc => by cases hc), rfl⟩
structure MkM where
  i : Nat
  A : Option Addr
  cap : Nat
  C : List ClM
set_option maxRecDepth 10000 in
set_option maxHeartbeats 8000000 in
theorem W4 (n : NetM) (q : List RqM) (s : SchM) {A : Option Addr} {cap B : Nat} {w0 : World} {H : List HP} {w : World} (ht : TabsB B w0) (hin : n.In B w0 H) (hq : QIn B w0 H A q) (hrs : Rd B w0 H s.A (s.cells.flatMap celF)) (hsl : s.cells.length ≤ 1000000000000) (hw : St B w0 H w) :
    Calls Tryz.prog 19 [n.val, .slice A q.length cap, s.val].toArray w (Post B w0 (OutC H (Zt n.net (q.map RqM.rq) s.sch))) := by
  refine Yc Tryz.func19 Tryz.ntmps19 rfl rfl hw ?_
  have hql := hq.ln
  have hqr := hq.rd
  have p1 := fun {H' : List HP} {w : World} (hin : n.In B w0 H') (hq : QIn B w0 H' A q) (hw : St B w0 H' w) => Ybd n q (cap := cap) hin hq hw
  have p2 := fun {H' : List HP} {w : World} (hq : QIn B w0 H' A q) (hw : St B w0 H' w) => Ou q (cap := cap) hql hq.rd hw
  have p3 := fun {A2 : Option Addr} {cap2 : Nat} {H' : List HP} {w : World} (hin : n.In B w0 H') (hf : Rd B w0 H' A2 ((RqM.fl q).flatMap flwF)) (hrs : Rd B w0 H' s.A (s.cells.flatMap celF)) (hw : St B w0 H' w) => Ybf n (RqM.fl q) s (by unfold RqM.fl; rw [List.length_map]; omega) hsl (cap := cap2) hin hf hrs hw
  have p4 := fun {H' : List HP} {w : World} (x : RqM) (h9 : x.rows.length ≤ 9) (hin : n.In B w0 H') (hrs : Rd B w0 H' s.A (s.cells.flatMap celF)) (hx : x.In B w0 H') (hw : St B w0 H' w) => Ye7 n s x ht hin hrs hsl hx h9 hw
  obtain ⟨R, hR⟩ : ∃ R, Zt n.net (q.map RqM.rq) s.sch = R := ⟨_, rfl⟩
  rw [hR]
  unfold Zt at hR
  rw [List.length_map] at hR
  have hrq : (rqsE n.net (q.map RqM.rq)).2 = 0 → ∀ x ∈ q, x.rows.length ≤ 9 := fun h x hx => by
    unfold rqsE at h
    split at h
    · cases h
    split at h
    · exact absurd h (by assumption)
    obtain ⟨k, hk⟩ := List.mem_iff_getElem?.1 hx
    have h1 := Y2.1 h k (Nat.zero_le _) (by rw [List.length_map]; have := (List.getElem?_eq_some_iff.1 hk).1; omega)
    rw [YaA hk] at h1
    have h2 := Ygx h1
    have h3 : x.rq.2.length = x.rows.length := by unfold RqM.rq; rw [List.length_map]
    omega
  obtain ⟨⟨ri, re⟩, hr⟩ : ∃ r, rqsE n.net (q.map RqM.rq) = r := ⟨_, rfl⟩
  obtain ⟨⟨ci, ce⟩, hc⟩ : ∃ r, schE n.net (Ua (q.map RqM.rq)) s.sch = r := ⟨_, rfl⟩
  obtain ⟨F, hF⟩ : ∃ F : Nat → Int, (fun i => if ZO n.net s.sch (rqAt (q.map RqM.rq) i) = true then 15 else 0) = F := ⟨_, rfl⟩
  rw [hr] at p1 hR hrq
  rw [YiC] at p3
  rw [hc] at p3 hR
  rw [hF] at hR
  have hFv : ∀ {k : Nat} {x : RqM}, q[k]? = some x → F k = if ZO n.net s.sch x.rq = true then 15 else 0 := fun h => by rw [← hF]; show (if ZO _ _ _ = true then _ else _) = _; rw [YaA h]
  rw [← YiC] at p3
  dsimp only at p1 p3 hR hrq
  unfold NetM.val SchM.val
  by_cases h0 : re = 0
  rotate_left
  · rw [if_pos h0] at hR
    subst hR
    repeat' (first | ((first | apply Ya en67 | apply Yb en67); exact za; exact rfl; exact fun _ hw => (p1 (hin.mono zk) (hq.mono zk) hw)) | refine zgd ?_ | (refine zge ?_ ?_ <;> intro _ <;> try (exfalso; omega)) | (refine zgh ?_; intro _) | fail)
    apply Yi (clsP none 0 [] :: many (([] : List ClM).map clQ) :: H)
    · intro w hw
      have h5 : St B w0 H w := by
        revert w
        exact zk
      exact Vr h5
    apply XV; exact rfl; exact rfl; exact rfl; exact rfl
    exact Vv rfl rfl
  subst h0
  rw [if_neg (fun e => e rfl)] at hR
  have hrq := hrq rfl
  by_cases h1 : ce = 0
  rotate_left
  · rw [if_pos h1] at hR
    subst hR
    repeat' (first | ((first | apply Ya en67 | apply Yb en67); exact za; exact rfl; exact fun _ hw => (p1 (hin.mono zk) (hq.mono zk) hw)) | refine zgd ?_ | (refine zge ?_ ?_ <;> intro _ <;> try (exfalso; omega)) | (refine zgh ?_; intro _) | fail)
    apply YZ [0, 1, 3, 2, 4, 5, 6, 7, 8, 9] [] [true, true]
    kernel_rfl
    kernel_rfl
    exact zy
    (simp only [Yj, nthO]; rfl)
    exact rfl
    repeat' (first | refine zgd ?_ | fail)
    apply Yo _ en68
    exact za
    exact rfl
    exact fun _ hw => (p2 (hq.mono zk) (hw))
    rintro _ _ ⟨A2, cap2, rfl, rfl⟩
    repeat' (first | (apply Yk; (repeat (first | with_reducible exact Yh | (with_reducible apply Yg; (repeat (first | with_reducible exact Yf | with_reducible apply Ye)))))) | refine zgd ?_ | fail)
    first | apply Ya en13 | apply Yb en13
    exact za
    exact rfl
    exact fun _ hw => (p3 (hin.mono zk) (Rd.sl zm) (hrs.mono zk) hw)
    repeat' (first | (apply Yk; (repeat (first | with_reducible exact Yh | (with_reducible apply Yg; (repeat (first | with_reducible exact Yf | with_reducible apply Ye)))))) | refine zgd ?_ | (refine zge ?_ ?_ <;> intro _ <;> try (exfalso; omega)) | fail)
    apply Yi (clsP none 0 [] :: many (([] : List ClM).map clQ) :: H)
    · intro w hw
      have h5 : St B w0 H w := by
        revert w
        exact zk
      exact Vr h5
    apply XV; exact rfl; exact rfl; exact rfl; exact rfl
    exact Vv rfl rfl
  subst h1
  rw [if_neg (fun e => e rfl)] at hR
  repeat' (first | ((first | apply Ya en67 | apply Yb en67); exact za; exact rfl; exact fun _ hw => (p1 (hin.mono zk) (hq.mono zk) hw)) | refine zgd ?_ | (refine zge ?_ ?_ <;> intro _ <;> try (exfalso; omega)) | (refine zgh ?_; intro _) | fail)
  first | (rename_i g3 g5; guard_hyp g3 : Nat; guard_hyp g5 : Nat) | (rename_i g3 g5 _; guard_hyp g3 : Nat; guard_hyp g5 : Nat) | (rename_i g3 g5 _ _; guard_hyp g3 : Nat; guard_hyp g5 : Nat)
  apply YZ [0, 1, 3, 2, 4, 5, 6, 7, 8, 9] [] [true, true]
  kernel_rfl
  kernel_rfl
  exact zy
  (simp only [Yj, nthO]; rfl)
  exact rfl
  repeat' (first | refine zgd ?_ | fail)
  apply Yo _ en68
  exact za
  exact rfl
  exact fun _ hw => (p2 (hq.mono zk) (hw))
  rintro _ _ ⟨A2, cap2, rfl, rfl⟩
  repeat' (first | (apply Yk; (repeat (first | with_reducible exact Yh | (with_reducible apply Yg; (repeat (first | with_reducible exact Yf | with_reducible apply Ye)))))) | refine zgd ?_ | fail)
  first | apply Ya en13 | apply Yb en13
  exact za
  exact rfl
  exact fun _ hw => (p3 (hin.mono zk) (Rd.sl zm) (hrs.mono zk) hw)
  repeat' (first | (apply Yk; (repeat (first | with_reducible exact Yh | (with_reducible apply Yg; (repeat (first | with_reducible exact Yf | with_reducible apply Ye)))))) | refine zgd ?_ | (refine zge ?_ ?_ <;> intro _ <;> try (exfalso; omega)) | fail)
  refine Yl (fun z : MkM => [(40, .int .i64 (z.i : Nat)), (39, .int .i64 q.length), (38, .slice A q.length cap), (13, .slice z.A z.C.length z.cap), (5, .pointer (some ⟨g5, 0, none⟩)), (3, .pointer (some ⟨g3, 0, none⟩))]) (fun z => clsP z.A z.cap z.C :: many (z.C.map clQ) :: schA g5 s :: netA g3 n :: H)
    (fun z => z.i ≤ q.length ∧ z.C.map ClM.clm = (q.take z.i).map (fun x => clmE n.net s.sch x.rq) ∧ (∀ c ∈ z.C, c.lens) ∧ ∀ j, 0 ≤ j → j < z.i → F j = 0) (fun z => q.length - z.i) ⟨0, none, 0, []⟩ ⟨Nat.zero_le _, rfl, (fun c hc => by cases hc), fun j _ h => absurd h (Nat.not_lt_zero _)⟩ ?_ ?_ ?_
  · exact zu
  · intro w hw
    have h5 : St B w0 (schA g5 s :: netA g3 n :: H) w := by
      revert w
      exact zk
    exact Vr h5
  rintro ⟨i, A3, cap3, C⟩ ⟨hi, hC, hCl, hz⟩ K hK
  dsimp only at hi hC hCl hz ⊢
  have hqr' : Rd B w0 (clsP A3 cap3 C :: many (C.map clQ) :: schA g5 s :: netA g3 n :: H) A (q.flatMap rqF) := hqr.cons.cons.cons.cons
  have hCn : C.length ≤ q.length := by
    have := congrArg List.length hC
    rw [List.length_map, List.length_map, List.length_take] at this
    omega
  by_cases hlt : i < q.length
  rotate_left
  · obtain rfl : i = q.length := by omega
    have hfe := X7 (f := F) (r := q.length) (i0 := 0) fun j h1 h2 => hz j h1 (by omega)
    rw [hfe, if_neg (fun e => e rfl)] at hR
    subst hR
    rw [List.take_length] at hC
    clear hK
    repeat' (first | refine zgc ?_ | (refine zge ?_ ?_ <;> intro _ <;> try (exfalso; omega)) | fail)
    apply Yi (clsP A3 cap3 C :: many (C.map clQ) :: H)
    · exact zk
    apply XV; exact rfl; exact rfl; exact rfl; exact rfl
    exact ⟨A3, cap3, C, rfl, by rw [hC, List.map_map]; rfl, hCl, rfl⟩
  obtain ⟨x, hx⟩ : ∃ x, q[i]? = some x := ⟨_, List.getElem?_eq_getElem hlt⟩
  have hxm := List.mem_of_getElem? hx
  have hFx := hFv hx
  have p5 := fun {H' : List HP} {w : World} (hin : n.In B w0 H') (hrs : Rd B w0 H' s.A (s.cells.flatMap celF)) (hxi : x.In B w0 H') (hw : St B w0 H' w) => p4 x (hrq x hxm) hin hrs hxi hw
  have hxi := hq.x x hxm
  cases hlb : ZO n.net s.sch x.rq with
  | true =>
    rw [hlb, if_pos rfl] at hFx
    rw [hlb] at p5
    have hfe := Xu (f := F) (r := q.length) (i0 := 0) (i := i) (fun j h1 h2 => hz j h1 h2) (Nat.zero_le _) (by omega) (by rw [hFx]; decide)
    rw [hfe, hFx] at hR
    rw [if_pos (show (15 : Int) ≠ 0 from by decide)] at hR
    subst hR
    clear hK
    repeat' (first | refine zgd ?_ | (refine zge ?_ ?_ <;> intro _ <;> try (exfalso; omega)) | (refine zgh ?_; intro _) | fail)
    apply Yo _ en69
    exact za
    exact rfl
    exact fun _ hw => (p5 (hin.mono zk) (hrs.mono zk) (hxi.mono zk) (hw))
    rintro _ _ ⟨c, rfl, _, rfl⟩
    unfold clV
    repeat' (first | refine zgd ?_ | (refine zgh ?_; intro _) | fail)
    apply Yi (clsP none 0 [] :: many (([] : List ClM).map clQ) :: H)
    · intro w hw
      have h5 : St B w0 H w := by
        revert w
        exact zk
      exact Vr h5
    apply XV; exact rfl; exact rfl; exact rfl; exact rfl
    exact Vv rfl rfl
  | false =>
    rw [hlb, if_neg (by decide)] at hFx
    rw [hlb] at p5
    repeat' (first | refine zgd ?_ | (refine zge ?_ ?_ <;> intro _ <;> try (exfalso; omega)) | (refine zgh ?_; intro _) | fail)
    apply Yo _ en69
    exact za
    exact rfl
    exact fun _ hw => (p5 (hin.mono zk) (hrs.mono zk) (hxi.mono zk) (hw))
    rintro _ _ ⟨c, rfl, hcc, rfl⟩
    obtain ⟨hcm, hcl⟩ := hcc rfl
    unfold clV
    repeat' (first | refine zgd ?_ | (refine zgh ?_; intro _) | (refine zgi ?_; intro _ _) | fail)
    first | (rename_i A4 cap4; guard_hyp A4 : Option Addr)
    rw [YdO, show C.length + 1 = (C ++ [c]).length by simp]
    apply hK ⟨i + 1, A4, cap4, C ++ [c]⟩
    · refine ⟨by show i + 1 ≤ _; omega, ?_, fun y hy => ?_, fun j h1 h2 => ?_⟩
      · show (C ++ [c]).map ClM.clm = _
        rw [List.take_add_one, hx, Option.toList_some, List.map_append, List.map_append, hC]
        simp [hcm]
      · rcases List.mem_append.1 hy with h | h
        · exact hCl y h
        · rw [List.mem_singleton.1 h]; exact hcl
      · rcases Nat.lt_succ_iff_lt_or_eq.1 h2 with h | rfl
        · exact hz j h1 h
        · exact hFx
    · dsimp only; omega
    · exact zu
    · intro w hw
      have h5 : St B w0 (clsP A4 cap4 (C ++ [c]) :: clQ c :: many (C.map clQ) :: schA g5 s :: netA g3 n :: H) w := by
        revert w
        exact zk
      exact h5.perm (.cons _ (ZF clQ C c _))
open Go.RowKit Go.Eng Go.Nw Go.Rt
def iE (es : List (Int × Int × Nat)) : Ents := es.map fun e => (e.1, Value.int .i64 e.2.1, e.2.2)
def wE (es : List (KL × Int × Nat)) : YK := es.map fun e => (e.1, Value.int .i64 e.2.1, e.2.2)
def X8 (es : List (Int × Int × Nat)) (k : Int) : Option Int := (es.find? fun e => e.1 == k).map (·.2.1)
def Zp (es : List (KL × Int × Nat)) (k : KL) : Option Int := (es.find? fun e => e.1 == k).map (·.2.1)
theorem Ygr (es : List (Int × Int × Nat)) (k : Int) : mget (iE es) k = (X8 es k).map (Value.int .i64) := by
  unfold mget iE X8
  rw [List.find?_map, Option.map_map, Option.map_map]
  rfl
theorem Ykp (es : List (KL × Int × Nat)) (k : KL) : vget (wE es) k = (Zp es k).map (Value.int .i64) := by
  unfold vget wE Zp
  rw [List.find?_map, Option.map_map, Option.map_map]
  rfl
theorem Yg4 {es : List (Int × Int × Nat)} {k z : Int} {c : Nat} (h : X8 es k = none) (v : Int) : X8 (es ++ [(k, z, c)]) v = if v = k then some z else X8 es v := by
  unfold X8 at h ⊢
  rw [Option.map_eq_none_iff] at h
  rw [List.find?_append]
  by_cases e : v = k
  · subst e
    rw [h, if_pos rfl]
    simp
  · rw [if_neg e]
    cases List.find? (fun e => e.1 == v) es with
    | some x => rfl
    | none => simp [Ne.symm e]
theorem YhO {es : List (KL × Int × Nat)} {k : KL} {z : Int} {c : Nat} (h : Zp es k = none) (v : KL) : Zp (es ++ [(k, z, c)]) v = if v = k then some z else Zp es v := by
  unfold Zp at h ⊢
  rw [Option.map_eq_none_iff] at h
  rw [List.find?_append]
  by_cases e : v = k
  · subst e
    rw [h, if_pos rfl]
    simp
  · rw [if_neg e]
    cases List.find? (fun e => e.1 == v) es with
    | some x => rfl
    | none => simp [Ne.symm e]
structure SM where
  frame : Int
  g : Option (Nat × Nat × Nat)
  es : List (Int × Int × Nat)
  ce : Nat
  ts : YK
  ct : Nat
  ak : List (KL × Int × Nat)
  ca : Nat
  done : Bool
def smF (x : SM) : List Value := [.int .i64 x.frame, .map (x.g.map (·.1)), .map (x.g.map (·.2.1)), .map (x.g.map (·.2.2)), .bool x.done]
def smP (x : SM) : List HP := match x.g with
  | none => []
  | some (a, b, c) => [blk a (mobj (iE x.es) x.ce), blk b (vobj x.ts x.ct), blk c (vobj (wE x.ak) x.ca)]
def smQ (x : SM) : HP := many (smP x)
def SM.st (x : SM) : StM := ⟨x.frame, X8 x.es, fun u v => Zp x.ak [u, v], x.done⟩
structure VOk (N : Nat) (es : YK) (ct : Nat) : Prop where
  len : ∀ e ∈ es, e.1.length = N
  lt : ∀ e ∈ es, e.2.2 < ct
  ne : es.Pairwise fun a b => a.2.2 ≠ b.2.2
theorem VOk.nil {N ct : Nat} : VOk N [] ct := ⟨(fun e h => by cases h), (fun e h => by cases h), .nil⟩
theorem VOk.snoc {N ct : Nat} {es : YK} (h : VOk N es ct) {k : KL} (hk : k.length = N) (v : Value) : VOk N (es ++ [(k, v, ct)]) (ct + 1) := by
  refine ⟨fun e he => ?_, fun e he => ?_, ?_⟩
  · rcases List.mem_append.1 he with he | he
    · exact h.len e he
    · rw [List.mem_singleton.1 he]; exact hk
  · rcases List.mem_append.1 he with he | he
    · exact Nat.lt_succ_of_lt (h.lt e he)
    · rw [List.mem_singleton.1 he]; exact Nat.lt_succ_self _
  · refine List.pairwise_append.2 ⟨h.ne, List.pairwise_singleton _ _, fun a ha b hb => ?_⟩
    rw [List.mem_singleton.1 hb]
    exact Nat.ne_of_lt (h.lt a ha)
theorem VOk.set {N ct b : Nat} {l1 l2 : YK} {k : KL} {v0 : Value} (h : VOk N (l1 ++ (k, v0, b) :: l2) ct) (v : Value) : VOk N (l1 ++ (k, v, b) :: l2) ct := by
  have e : ∀ P : KL × Value × Nat → Prop, (∀ z : KL × Value × Nat, P z ↔ P (z.1, v, z.2.2)) → (∀ z ∈ l1 ++ (k, v0, b) :: l2, P z) → ∀ z ∈ l1 ++ (k, v, b) :: l2, P z := fun P hP hz z hm => by
    rcases List.mem_append.1 hm with hm | hm
    · exact hz z (List.mem_append.2 (.inl hm))
    · rcases List.mem_cons.1 hm with rfl | hm
      · exact (hP (k, v0, b)).1 (hz (k, v0, b) (by simp))
      · exact hz z (List.mem_append.2 (.inr (List.mem_cons_of_mem _ hm)))
  refine ⟨e (fun z => z.1.length = N) (fun _ => Iff.rfl) h.len, e (fun z => z.2.2 < ct) (fun _ => Iff.rfl) h.lt, ?_⟩
  have hp := h.ne
  rw [List.pairwise_append, List.pairwise_cons] at hp ⊢
  refine ⟨hp.1, hp.2.1, fun a ha z hz => ?_⟩
  rcases List.mem_cons.1 hz with rfl | hz
  · exact hp.2.2 a ha (k, v0, b) (by simp)
  · exact hp.2.2 a ha z (List.mem_cons_of_mem _ hz)
theorem VOk.births {N ct b : Nat} {l1 l2 : YK} {k : KL} {v0 : Value} (h : VOk N (l1 ++ (k, v0, b) :: l2) ct) : ∀ e ∈ l1, e.2.2 ≠ b := fun e he => (List.pairwise_append.1 h.ne).2.2 e he (k, v0, b) (by simp)
structure TOk (ts : YK) (ct : Nat) (b : Int) : Prop where
  ok : VOk 2 ts ct
  z : ∀ e ∈ ts, ∃ z, e.2.1 = .int .i64 z ∧ 0 ≤ z ∧ z ≤ b
theorem TOk.mono {ts : YK} {ct : Nat} {b b' : Int} (h : TOk ts ct b) (hb : b ≤ b') : TOk ts ct b' := ⟨h.ok, fun e he => by
  obtain ⟨z, h1, h2, h3⟩ := h.z e he
  exact ⟨z, h1, h2, by omega⟩⟩
structure SM.Ok (x : SM) (b : Int) : Prop where
  g : 0 ≤ x.frame → x.g.isSome = true
  ts : TOk x.ts x.ct b
  ak : ∀ e ∈ x.ak, e.1.length = 2
theorem SM.Ok.mono {x : SM} {b b' : Int} (h : x.Ok b) (hb : b ≤ b') : x.Ok b' := ⟨h.g, h.ts.mono hb, h.ak⟩
def Xc : SM := ⟨-1, none, [], 0, [], 0, [], 0, false⟩
structure PlC where
  fA : Option Addr
  fc : Nat
  l : List Flw
  s : SchM
  xA : Option Addr
  xc : Nat
  xs : List RuM
def attF (a : AttM) : List Value := [.int .i64 a.slot, .int .i64 a.frame, .int .i64 a.c.1, .int .i64 a.c.2.1, .int .i64 a.c.2.2.1, .int .i64 a.c.2.2.2.1, .int .i64 a.c.2.2.2.2, .int .i64 a.o]
def delF (d : Int × Int × Int) : List Value := [.int .i64 d.1, .int .i64 d.2.1, .int .i64 d.2.2]
abbrev plB (c : PlC) (g : Nat) (sA : Option Addr) (ns sc : Nat) (tA : Option Addr) (nt tc : Nat) (dA : Option Addr) (nd dc : Nat) : HP := blk g (.cells #[.slice c.fA c.l.length c.fc, .int .i64 c.s.len, .int .i64 c.s.off, .slice c.s.A c.s.cells.length c.s.cap, .slice c.xA c.xs.length c.xc, .slice sA ns sc, .slice tA nt tc, .slice dA nd dc] 164 (0, 0))
abbrev plS (A : Option Addr) (n cap : Nat) (ss : List SM) : HP := sl 224 5 A n cap (ss.flatMap smF)
abbrev plT (A : Option Addr) (cap : Nat) (l : List AttM) : HP := sl 167 8 A l.length cap (l.flatMap attF)
abbrev plD (A : Option Addr) (cap : Nat) (l : List (Int × Int × Int)) : HP := sl 181 3 A l.length cap (l.flatMap delF)
abbrev plL (c : PlC) (g : Nat) (sA : Option Addr) (sc : Nat) (ss : List SM) (tA : Option Addr) (tc : Nat) (atts : List AttM) (dA : Option Addr) (dc : Nat) (dels : List (Int × Int × Int)) (H : List HP) : List HP := plB c g sA c.l.length sc tA atts.length tc dA dels.length dc :: plS sA c.l.length sc ss :: plT tA tc atts :: plD dA dc dels :: many (ss.map smQ) :: H
theorem Yhg (n : Nat) (H : List HP) : Perm H (many ((List.replicate n Xc).map smQ) :: H) := by
  induction n with
  | zero => exact .noMany H
  | succ n ih =>
    have h2 : Perm (many ((List.replicate n Xc).map smQ) :: H) (smQ Xc :: many ((List.replicate n Xc).map smQ) :: H) := .noMany _
    refine .trans ih (.trans h2 ?_)
    rw [show List.replicate (n + 1) Xc = List.replicate n Xc ++ [Xc] from List.replicate_succ']
    exact ZF smQ _ Xc H
theorem Ygq {α : Type} (f : α → HP) {l : List α} {i : Nat} {x : α} (h : l[i]? = some x) (H : List HP) : Perm (many (l.map f) :: H) (f x :: many ((l.take i).map f ++ (l.drop (i + 1)).map f) :: H) := by
  obtain ⟨hi, e⟩ := List.getElem?_eq_some_iff.1 h
  have h1 : l.map f = (l.take i).map f ++ f x :: (l.drop (i + 1)).map f := by
    rw [← e, ← List.map_cons, ← List.map_append, List.getElem_cons_drop, List.take_append_drop]
  rw [h1]
  exact .pull _ _ _ _
theorem Yef {α : Type} (f : α → HP) {l : List α} {i : Nat} (h : i < l.length) (y : α) (H : List HP) : Perm (f y :: many ((l.take i).map f ++ (l.drop (i + 1)).map f) :: H) (many ((l.set i y).map f) :: H) := by
  have h1 : (l.set i y).map f = (l.take i).map f ++ f y :: (l.drop (i + 1)).map f := by
    rw [List.set_eq_take_append_cons_drop, if_pos h, List.map_append, List.map_cons]
  rw [h1]
  exact .push _ _ _ _
set_option maxRecDepth 10000 in
set_option maxHeartbeats 2000000 in
theorem Yaq (c : PlC) (hl : c.l.length ≤ 1000) {B : Nat} {w0 : World} {H : List HP} {w : World} (hw : St B w0 H w) :
    Calls Tryz.prog 93 [.slice c.fA c.l.length c.fc, c.s.val, .slice c.xA c.xs.length c.xc].toArray w (Post B w0 fun v K => ∃ g A cap, v = .pointer (some ⟨g, 0, none⟩) ∧ K = plL c g A cap (List.replicate c.l.length Xc) none 0 [] none 0 [] H) := by
  refine Yc Tryz.func93 Tryz.ntmps93 rfl rfl hw ?_
  unfold SchM.val
  repeat' (first | refine zgd ?_ | (refine zgh ?_; intro _) | fail)
  rename_i g
  refine Yl (fun (z : Nat × Option Addr × Nat) => [(15, .int .i64 (z.1 : Nat)), (14, .int .i64 c.l.length), (7, .pointer (some ⟨g, 0, none⟩))])
    (fun z => plB c g z.2.1 z.1 z.2.2 none 0 0 none 0 0 :: sl 224 5 z.2.1 z.1 z.2.2 ((List.replicate z.1 Xc).flatMap smF) :: H) (fun z => z.1 ≤ c.l.length) (fun z => c.l.length - z.1) (0, none, 0) (Nat.zero_le _) ?_ ?_ ?_
  · exact zu
  · intro w hw
    have h5 : St B w0 (plB c g none 0 0 none 0 0 none 0 0 :: H) w := by
      revert w
      exact zk
    exact (h5.nilSlice _ _).perm (.swap _ _ _)
  rintro ⟨k, A, cap⟩ hk K hK
  dsimp only at hk ⊢
  by_cases hlt : k < c.l.length
  rotate_left
  · obtain rfl : k = c.l.length := by omega
    clear hK
    repeat' (first | refine zgc ?_ | (refine zge ?_ ?_ <;> intro _ <;> try (exfalso; omega)) | fail)
    apply Yi (plL c g A cap (List.replicate c.l.length Xc) none 0 [] none 0 [] H)
    · intro w hw
      have h5 : St B w0 (plB c g A c.l.length cap none 0 0 none 0 0 :: sl 224 5 A c.l.length cap ((List.replicate c.l.length Xc).flatMap smF) :: H) w := by
        revert w
        exact zk
      have h6 : St B w0 (plD none 0 [] :: plT none 0 [] :: plB c g A c.l.length cap none 0 0 none 0 0 :: sl 224 5 A c.l.length cap ((List.replicate c.l.length Xc).flatMap smF) :: many ((List.replicate c.l.length Xc).map smQ) :: H) w := ((h5.perm (.cons _ (.cons _ (Yhg c.l.length H)))).nilSlice _ _).nilSlice _ _
      have h7 : ∀ w, St B w0 (plD none 0 [] :: plT none 0 [] :: plB c g A c.l.length cap none 0 0 none 0 0 :: sl 224 5 A c.l.length cap ((List.replicate c.l.length Xc).flatMap smF) :: many ((List.replicate c.l.length Xc).map smQ) :: H) w → St B w0 (plB c g A c.l.length cap none 0 0 none 0 0 :: sl 224 5 A c.l.length cap ((List.replicate c.l.length Xc).flatMap smF) :: plT none 0 [] :: plD none 0 [] :: many ((List.replicate c.l.length Xc).map smQ) :: H) w := by
        clear h5 h6
        exact zk
      exact h7 w h6
    apply Yd; exact rfl; exact rfl
    exact ⟨g, A, cap, rfl, rfl⟩
  repeat' (first | refine zgd ?_ | (refine zge ?_ ?_ <;> intro _ <;> try (exfalso; omega)) | (refine zgh ?_; intro _) | (refine zgi ?_; intro _ _) | fail)
  rename_i A' cap'
  have e5 : sl 224 5 A' (k + 1) cap' ((List.replicate k Xc).flatMap smF ++ #[Value.int .i64 (-1), .map none, .map none, .map none, .bool false].toList) = sl 224 5 A' (k + 1) cap' ((List.replicate (k + 1) Xc).flatMap smF) := by
    rw [List.replicate_succ', List.flatMap_append]; rfl
  rw [e5]
  apply hK ⟨k + 1, A', cap'⟩
  · dsimp only; omega
  · dsimp only; omega
  · exact zu
  · dsimp only
    exact zk
end Go.Proofs.YtmalhidldgfeoaaGreatDoor
namespace Go.Eng
open Go.RowKit Go.Sort Go.Proofs
theorem Q0 {α : Type} [Inhabited α] {enc : α → List Value} {q : Nat} (hq : ∀ x, (enc x).length = q) (h0 : 0 < q) (l : List α) : (flatK enc q l.toArray).toList = l.flatMap enc := by
  have hlen : (l.flatMap enc).length = l.length * q := Y0 hq l
  have hs : (flatK enc q l.toArray).size = l.length * q := by simp
  apply List.ext_getElem (by rw [Array.length_toList, hs, hlen])
  intro t h1 h2
  rw [hlen] at h2
  have hd : t / q < l.length := Nat.div_lt_of_lt_mul (by rw [Nat.mul_comm]; exact h2)
  have hm := Nat.mod_lt t h0
  have h3 := JT hq l (t / q) (t % q) l[t / q] (List.getElem?_eq_getElem hd) hm
  rw [Nat.mul_comm, Nat.div_add_mod] at h3
  have h4 := get_flatK enc q l.toArray t (by simpa using h2)
  rw [getElem!_pos _ t (by rw [hs]; exact h2)] at h4
  rw [Array.getElem_toList, h4]
  have h5 : l.toArray[t / q]! = l[t / q] := by rw [getElem!_pos _ _ (by simpa using hd)]; simp
  rw [h5, getElem!_pos _ _ (by rw [hq]; exact hm)]
  have h8 : (enc l[t / q])[t % q]? = some ((enc l[t / q])[t % q]'(by rw [hq]; exact hm)) := List.getElem?_eq_getElem _
  rw [h8] at h3
  obtain ⟨h6, h7⟩ := List.getElem?_eq_some_iff.1 h3
  exact h7.symm
theorem Yb9 {α : Type} [Inhabited α] {enc : α → List Value} {q : Nat} (hq : ∀ x, (enc x).length = q) (h0 : 0 < q) {l : List α} {k : Nat} (hk : k ≤ l.length) {g cap : Nat} {e : TypeId} {B : Nat} {w0 w : World} {H : List HP} (hw : St B w0 (sl e q (some ⟨g, 0, none⟩) l.length cap (l.flatMap enc) :: H) w) :
    HoldsK enc q w g (k * q) (l.drop k).toArray ∧ g < w.heap.size ∧ ∀ (d : List α) (n : Nat) (os : Array Obj), d.length = l.length - k → St B w0 (sl e q (some ⟨g, 0, none⟩) l.length cap ((l.take k ++ d).flatMap enc) :: H) (sortWorldK enc q w g (k * q) n d.toArray os) := by
  have ho := hw.sl (List.mem_cons_self)
  rcases ho.2 with ⟨h1, _⟩ | ⟨g', c, cur, h1, h2, h3, h4, h5, h6, h7⟩
  · cases h1
  injection h1 with h1 _ hc
  injection h1 with h1
  injection h1 with h1
  subst h1 hc
  have hmul : l.length * q = k * q + (l.length - k) * q := by rw [← Nat.add_mul]; congr 1; omega
  have hcq : l.length * q ≤ cap * q := Nat.mul_le_mul_right q h4
  have hg : g < w.heap.size := (Array.getElem?_eq_some_iff.1 h3).1
  refine ⟨fun j hj => ?_, hg, fun d n os hd => ?_⟩
  · have hs : (flatK enc q (l.drop k).toArray).size = (l.length - k) * q := by simp
    rw [hs] at hj
    refine ⟨?_, by simp [World.frozen?, h3]⟩
    have hcell : w.cell? ⟨g, k * q + j, none⟩ = cur[k * q + j]? := by simp [World.cell?, h3]
    rw [hcell]
    have e1 : cur[k * q + j]? = (l.flatMap enc)[k * q + j]? := by
      rw [← h7, List.getElem?_take_of_lt (by omega), Array.getElem?_toList]
    rw [e1, ← List.getElem?_drop, ← WV hq, ← Q0 hq h0, Array.getElem?_toList, Array.getElem?_eq_getElem (by rw [hs]; exact hj), getElem!_pos _ j (by rw [hs]; exact hj)]
    rfl
  · have hs : (flatK enc q d.toArray).size = (l.length - k) * q := by simp [hd]
    have hF : (flatK enc q d.toArray).toList = d.flatMap enc := Q0 hq h0 d
    have hheap : (sortWorldK enc q w g (k * q) n d.toArray os).heap[g]? = some (.cells (putCells id (k * q) (flatK enc q d.toArray) cur) e (0, 0)) := by
      unfold sortWorldK putRowK
      rw [heap_grow_old _ _ (by simpa using hg)]
      simp [putRow, mapBlock, Sort.ahead, Array.getElem?_modify, h3, onCells]
    have hgb : w.grownBy (sortWorldK enc q w g (k * q) n d.toArray os) (some g) := by
      refine ⟨rfl, rfl, rfl, by simp [sortWorldK, putRowK], fun b hb hne => ?_⟩
      unfold sortWorldK putRowK
      rw [heap_grow_old _ _ (by simpa using hb)]
      have : g ≠ b := fun e => hne (by rw [e])
      simp [putRow, mapBlock, Sort.ahead, Array.getElem?_modify, this]
    have hlen : ((l.take k ++ d).flatMap enc).length = l.length * q := by
      rw [Y0 hq, List.length_append, List.length_take, hd, Nat.min_eq_left hk]; congr 1; omega
    refine hw.upd (Upd.here H) hgb.os hgb.tape hgb.output hgb.size fun S1 hS => ⟨⟨⟨hlen, .inr ⟨g, cap, _, rfl, Nat.zero_le _, hheap, h4, h5, by simp [putCells, h6], ?_⟩⟩, hS.2⟩, fun b hb hlt => hgb.block b hlt fun e => hb ?_⟩
    · apply List.ext_getElem?
      intro j
      by_cases hj : j < l.length * q
      · rw [List.getElem?_take_of_lt hj, Array.getElem?_toList]
        have hjc : j < cur.size := by rw [h6]; omega
        have e1 : cur[j]? = (l.flatMap enc)[j]? := by rw [← h7, List.getElem?_take_of_lt hj, Array.getElem?_toList]
        rw [List.flatMap_append, JU hq]
        have hl1 : ((l.flatMap enc).take (k * q)).length = k * q := by rw [List.length_take, Y0 hq]; omega
        by_cases hjk : j < k * q
        · rw [List.getElem?_append_left (by rw [hl1]; exact hjk), List.getElem?_take_of_lt hjk, ← e1]
          simp [putCells, Array.getElem?_eq_getElem hjc, show ¬ k * q ≤ j by omega]
        · rw [List.getElem?_append_right (by rw [hl1]; omega), hl1, ← hF, Array.getElem?_toList]
          have hin : j - k * q < (flatK enc q d.toArray).size := by rw [hs]; omega
          rw [Array.getElem?_eq_getElem hin]
          have hc2 : k * q ≤ j ∧ j < k * q + (flatK enc q d.toArray).size := ⟨by omega, by rw [hs]; omega⟩
          unfold putCells
          rw [Array.getElem?_mapIdx, Array.getElem?_eq_getElem hjc]
          simp only [Option.map_some]
          rw [if_pos hc2]
          have h9 : (flatK enc q d.toArray)[j - k * q]! = (flatK enc q d.toArray)[j - k * q]'hin := getElem!_pos (flatK enc q d.toArray) (j - k * q) hin
          rw [h9]
          rfl
      · rw [List.getElem?_take_eq_none (by omega), List.getElem?_eq_none (by rw [hlen]; omega)]
    · injection e with e
      rw [e]
      exact hS.2 _ rfl
end Go.Eng
namespace Go.Proofs
open Go.Shelf
def Tryz.sortDels_ren : Go.Shelf.Ren := ⟨fun | 6 => 153 | 15 => 157 | 14 => 213 | 28 => 223 | 29 => 224 | 20 => 253 | 21 => 254 | 22 => 255 | 23 => 256 | 24 => 257 | 25 => 258 | 26 => 259 | 27 => 260 | 46 => 288 | 47 => 262 | 48 => 263 | 49 => 289 | 50 => 290 | 57 => 301 | n => n, fun | 22 => 82 | 24 => 181 | 25 => 227 | 3 => 3 | 39 => 197 | 0 => 0 | 53 => 275 | 55 => 277 | 4 => 4 | 46 => 269 | 45 => 268 | 50 => 77 | 5 => 5 | 9 => 9 | 66 => 302 | 70 => 306 | 76 => 324 | 77 => 325 | n => n, fun | n => n⟩
theorem Tryz.sortDels : Go.Proofs.SlLaysF0.n6 Tryz.prog Tryz.sortDels_ren := {
  mixed := by kernel_rfl
  f6 := ⟨Tryz.f153.name, by decide, Tryz.func153.trans (congrArg some (by kernel_rfl))⟩
  f14 := ⟨Tryz.f213.name, by decide, Tryz.func213.trans (congrArg some (by kernel_rfl))⟩
  f15 := Tryz.func157.trans (congrArg some (by kernel_rfl))
  f20 := ⟨Tryz.f253.name, by decide, Tryz.func253.trans (congrArg some (by kernel_rfl))⟩
  f21 := ⟨Tryz.f254.name, by decide, Tryz.func254.trans (congrArg some (by kernel_rfl))⟩
  f22 := ⟨Tryz.f255.name, by decide, Tryz.func255.trans (congrArg some (by kernel_rfl))⟩
  f23 := ⟨Tryz.f256.name, by decide, Tryz.func256.trans (congrArg some (by kernel_rfl))⟩
  f24 := ⟨Tryz.f257.name, by decide, Tryz.func257.trans (congrArg some (by kernel_rfl))⟩
  f25 := ⟨Tryz.f258.name, by decide, Tryz.func258.trans (congrArg some (by kernel_rfl))⟩
  f26 := ⟨Tryz.f259.name, by decide, Tryz.func259.trans (congrArg some (by kernel_rfl))⟩
  f27 := ⟨Tryz.f260.name, by decide, Tryz.func260.trans (congrArg some (by kernel_rfl))⟩
  f28 := Tryz.func223.trans (congrArg some (by kernel_rfl))
  f29 := Tryz.func224.trans (congrArg some (by kernel_rfl))
  f46 := ⟨Tryz.f288.name, by decide, Tryz.func288.trans (congrArg some (by kernel_rfl))⟩
  f47 := Tryz.func262.trans (congrArg some (by kernel_rfl))
  f48 := Tryz.func263.trans (congrArg some (by kernel_rfl))
  f49 := ⟨Tryz.f289.name, by decide, Tryz.func289.trans (congrArg some (by kernel_rfl))⟩
  f50 := ⟨Tryz.f290.name, by decide, Tryz.func290.trans (congrArg some (by kernel_rfl))⟩
  f57 := ⟨Tryz.f301.name, by decide, Tryz.func301.trans (congrArg some (by kernel_rfl))⟩
  t0 := Tryz.underlying0
  a0 := Tryz.isAgg0
  z0 := Tryz.sizeOf0
  v0 := Tryz.zeroValue0
  t3 := Tryz.underlying3
  a3 := Tryz.isAgg3
  z3 := Tryz.sizeOf3
  v3 := Tryz.zeroValue3
  t4 := Tryz.underlying4
  a4 := Tryz.isAgg4
  z4 := Tryz.sizeOf4
  v4 := Tryz.zeroValue4
  t5 := Tryz.underlying5
  a5 := Tryz.isAgg5
  z5 := Tryz.sizeOf5
  v5 := Tryz.zeroValue5
  t9 := Tryz.underlying9
  a9 := Tryz.isAgg9
  z9 := Tryz.sizeOf9
  v9 := Tryz.zeroValue9
  t22 := Tryz.underlying82
  a22 := Tryz.isAgg82
  z22 := Tryz.sizeOf82
  v22 := Tryz.zeroValue82
  t25 := Tryz.underlying227
  a25 := Tryz.isAgg227
  z25 := Tryz.sizeOf227
  v25 := Tryz.zeroValue227
  t39 := Tryz.underlying197
  a39 := Tryz.isAgg197
  z39 := Tryz.sizeOf197
  v39 := Tryz.zeroValue197
  t45 := Tryz.underlying268
  a45 := Tryz.isAgg268
  z45 := Tryz.sizeOf268
  v45 := Tryz.zeroValue268
  t46 := Tryz.underlying269
  a46 := Tryz.isAgg269
  z46 := Tryz.sizeOf269
  v46 := Tryz.zeroValue269
  t50 := Tryz.underlying77
  a50 := Tryz.isAgg77
  z50 := Tryz.sizeOf77
  v50 := Tryz.zeroValue77
  t53 := Tryz.underlying275
  a53 := Tryz.isAgg275
  z53 := Tryz.sizeOf275
  v53 := Tryz.zeroValue275
  t55 := Tryz.underlying277
  a55 := Tryz.isAgg277
  z55 := Tryz.sizeOf277
  v55 := Tryz.zeroValue277
  t66 := Tryz.underlying302
  a66 := Tryz.isAgg302
  z66 := Tryz.sizeOf302
  v66 := Tryz.zeroValue302
  t70 := Tryz.underlying306
  a70 := Tryz.isAgg306
  z70 := Tryz.sizeOf306
  v70 := Tryz.zeroValue306
  t76 := Tryz.underlying324
  a76 := Tryz.isAgg324
  z76 := Tryz.sizeOf324
  v76 := Tryz.zeroValue324
  t77 := Tryz.underlying325
  a77 := Tryz.isAgg325
  z77 := Tryz.sizeOf325
  v77 := Tryz.zeroValue325 }
def Tryz.sortBrs_ren : Go.Shelf.Ren := ⟨fun | 6 => 96 | 15 => 157 | 14 => 156 | 28 => 223 | 29 => 224 | 20 => 215 | 21 => 216 | 22 => 217 | 23 => 218 | 24 => 219 | 25 => 220 | 26 => 221 | 27 => 222 | 46 => 261 | 47 => 262 | 48 => 263 | 49 => 264 | 50 => 265 | 57 => 291 | n => n, fun | 22 => 87 | 24 => 96 | 25 => 176 | 3 => 3 | 39 => 197 | 0 => 0 | 53 => 275 | 55 => 277 | 4 => 4 | 46 => 269 | 45 => 268 | 50 => 77 | 5 => 5 | 9 => 9 | 66 => 302 | 70 => 306 | 76 => 324 | 77 => 325 | n => n, fun | n => n⟩
theorem Tryz.sortBrs : Go.Proofs.SlLaysF0.n6 Tryz.prog Tryz.sortBrs_ren := {
  mixed := by kernel_rfl
  f6 := ⟨Tryz.f96.name, by decide, Tryz.func96.trans (congrArg some (by kernel_rfl))⟩
  f14 := ⟨Tryz.f156.name, by decide, Tryz.func156.trans (congrArg some (by kernel_rfl))⟩
  f15 := Tryz.func157.trans (congrArg some (by kernel_rfl))
  f20 := ⟨Tryz.f215.name, by decide, Tryz.func215.trans (congrArg some (by kernel_rfl))⟩
  f21 := ⟨Tryz.f216.name, by decide, Tryz.func216.trans (congrArg some (by kernel_rfl))⟩
  f22 := ⟨Tryz.f217.name, by decide, Tryz.func217.trans (congrArg some (by kernel_rfl))⟩
  f23 := ⟨Tryz.f218.name, by decide, Tryz.func218.trans (congrArg some (by kernel_rfl))⟩
  f24 := ⟨Tryz.f219.name, by decide, Tryz.func219.trans (congrArg some (by kernel_rfl))⟩
  f25 := ⟨Tryz.f220.name, by decide, Tryz.func220.trans (congrArg some (by kernel_rfl))⟩
  f26 := ⟨Tryz.f221.name, by decide, Tryz.func221.trans (congrArg some (by kernel_rfl))⟩
  f27 := ⟨Tryz.f222.name, by decide, Tryz.func222.trans (congrArg some (by kernel_rfl))⟩
  f28 := Tryz.func223.trans (congrArg some (by kernel_rfl))
  f29 := Tryz.func224.trans (congrArg some (by kernel_rfl))
  f46 := ⟨Tryz.f261.name, by decide, Tryz.func261.trans (congrArg some (by kernel_rfl))⟩
  f47 := Tryz.func262.trans (congrArg some (by kernel_rfl))
  f48 := Tryz.func263.trans (congrArg some (by kernel_rfl))
  f49 := ⟨Tryz.f264.name, by decide, Tryz.func264.trans (congrArg some (by kernel_rfl))⟩
  f50 := ⟨Tryz.f265.name, by decide, Tryz.func265.trans (congrArg some (by kernel_rfl))⟩
  f57 := ⟨Tryz.f291.name, by decide, Tryz.func291.trans (congrArg some (by kernel_rfl))⟩
  t0 := Tryz.underlying0
  a0 := Tryz.isAgg0
  z0 := Tryz.sizeOf0
  v0 := Tryz.zeroValue0
  t3 := Tryz.underlying3
  a3 := Tryz.isAgg3
  z3 := Tryz.sizeOf3
  v3 := Tryz.zeroValue3
  t4 := Tryz.underlying4
  a4 := Tryz.isAgg4
  z4 := Tryz.sizeOf4
  v4 := Tryz.zeroValue4
  t5 := Tryz.underlying5
  a5 := Tryz.isAgg5
  z5 := Tryz.sizeOf5
  v5 := Tryz.zeroValue5
  t9 := Tryz.underlying9
  a9 := Tryz.isAgg9
  z9 := Tryz.sizeOf9
  v9 := Tryz.zeroValue9
  t22 := Tryz.underlying87
  a22 := Tryz.isAgg87
  z22 := Tryz.sizeOf87
  v22 := Tryz.zeroValue87
  t25 := Tryz.underlying176
  a25 := Tryz.isAgg176
  z25 := Tryz.sizeOf176
  v25 := Tryz.zeroValue176
  t39 := Tryz.underlying197
  a39 := Tryz.isAgg197
  z39 := Tryz.sizeOf197
  v39 := Tryz.zeroValue197
  t45 := Tryz.underlying268
  a45 := Tryz.isAgg268
  z45 := Tryz.sizeOf268
  v45 := Tryz.zeroValue268
  t46 := Tryz.underlying269
  a46 := Tryz.isAgg269
  z46 := Tryz.sizeOf269
  v46 := Tryz.zeroValue269
  t50 := Tryz.underlying77
  a50 := Tryz.isAgg77
  z50 := Tryz.sizeOf77
  v50 := Tryz.zeroValue77
  t53 := Tryz.underlying275
  a53 := Tryz.isAgg275
  z53 := Tryz.sizeOf275
  v53 := Tryz.zeroValue275
  t55 := Tryz.underlying277
  a55 := Tryz.isAgg277
  z55 := Tryz.sizeOf277
  v55 := Tryz.zeroValue277
  t66 := Tryz.underlying302
  a66 := Tryz.isAgg302
  z66 := Tryz.sizeOf302
  v66 := Tryz.zeroValue302
  t70 := Tryz.underlying306
  a70 := Tryz.isAgg306
  z70 := Tryz.sizeOf306
  v70 := Tryz.zeroValue306
  t76 := Tryz.underlying324
  a76 := Tryz.isAgg324
  z76 := Tryz.sizeOf324
  v76 := Tryz.zeroValue324
  t77 := Tryz.underlying325
  a77 := Tryz.isAgg325
  z77 := Tryz.sizeOf325
  v77 := Tryz.zeroValue325 }
end Go.Proofs
namespace Go.Proofs.YtmalhidldgfeoaaGreatDoor
open Go.RowKit Go.Eng Go.Nw Go.Rt Go.Sort Go.Shelf Go.Proofs
set_option maxHeartbeats 1000000 in
theorem Ylb (x y : Int × Int × Int) (W : World) : Calls Tryz.prog 154 #[.agg #[.int .i64 x.1, .int .i64 x.2.1, .int .i64 x.2.2], .agg #[.int .i64 y.1, .int .i64 y.2.1, .int .i64 y.2.2]] W fun e w' => e = .returned (.int .i64 (Lib.compareInt x.1 y.1)) ∧ ∃ q os', w' = grow (W.drewN q) os' := by
  have hcon := fun W' => Tryz.cmp_Compare_int x.1 y.1 W'
  generalize Lib.compareInt x.1 y.1 = r at hcon ⊢
  go_enter Tryz.func154, Tryz.ntmps154
  go_wp2_with (go_at_call 99; refine (hcon _).mono ?_; rintro e w' ⟨rfl, rfl⟩)
  go_ret
  exact ⟨rfl, 0, _, by rw [alloc_eq_grow, alloc_eq_grow, grow_grow]; rfl⟩
theorem YiM (x y : Int × Int × Int) : ltOf (fun x y : Int × Int × Int => Lib.compareInt x.1 y.1) x y = decide (x.1 < y.1) := by
  unfold ltOf Lib.compareInt
  by_cases h1 : x.1 < y.1
  · simp [h1]
  · by_cases h2 : y.1 < x.1 <;> simp [h1, h2]
theorem Yln : SWO (ltOf fun x y : Int × Int × Int => Lib.compareInt x.1 y.1) where
  irrefl x := by rw [YiM]; simp
  trans x y z h1 h2 := by rw [YiM] at *; simp at *; omega
  ntrans x y z h1 h2 := by rw [YiM] at *; simp at *; omega
theorem Yav {α : Type} [Inhabited α] {d d' : Array α} (h : PermIn 0 d.size d d') : d'.toList.Perm d.toList := by
  obtain ⟨h1, _, h3⟩ := h
  have e1 : d.extract 0 d.size = d := Array.extract_size
  have e2 : d'.extract 0 d.size = d' := by rw [← h1]; exact Array.extract_size
  rw [e1, e2] at h3
  exact h3
theorem Yc0 (l : List (Int × Int × Int)) (k : Nat) (hk : k ≤ l.length) (hl : l.length ≤ 100000000) {A : Option Addr} {cap B : Nat} {w0 : World} {H H0 : List HP} {w : World} (hin : ∀ w, St B w0 H0 w → St B w0 (plD A cap l :: H) w) (hw : St B w0 H0 w) :
    Calls Tryz.prog 153 [.slice (subA A k cap 3) (l.length - k : Nat) (cap - k), .func (.func 154) #[] #[]].toArray w (Post B w0 fun v K => v = .tuple #[] ∧ ∃ l', l'.Perm l ∧ K = plD A cap l' :: H) := by
  have hw := hin w hw
  by_cases h0 : l.length - k = 0
  · rw [h0]
    refine (AnyF.slices_SortFunc_none Tryz.sortDels (subA A k cap 3) (cap - k) (.func (.func 154) #[] #[]) w).mono ?_
    rintro e w' ⟨rfl, rfl⟩
    exact ⟨_, _, rfl, hw, rfl, l, List.Perm.refl _, rfl⟩
  have ho := hw.sl (List.mem_cons_self)
  obtain ⟨g, rfl, hcap⟩ : ∃ g, A = some ⟨g, 0, none⟩ ∧ l.length ≤ cap := by
    rcases ho.2 with ⟨h1, h2⟩ | ⟨g, c, cur, h1, h2, h3, h4, h5, h6, h7⟩
    · omega
    · injection h1 with e1 e2 e3
      exact ⟨g, e1, by omega⟩
  have hsub : subA (some (⟨g, 0, none⟩ : Addr)) k cap 3 = some ⟨g, k * 3, none⟩ := by
    unfold subA
    rw [if_neg (by omega)]
    simp [Addr.add]
    intro h
    omega
  rw [hsub]
  obtain ⟨hH, hg, hst⟩ := Yb9 (enc := delF) (fun _ => rfl) (by decide) hk hw
  have eg : ∀ args w, (callFunc 154 args).run Tryz.prog w = .ok (.enter 154 args) w := YlP
  have hsz : (l.drop k).toArray.size = l.length - k := by simp
  have hcon := AnyQ.slices_SortFunc Tryz.sortDels 3 Tryz.isAgg181 Tryz.sizeOf181 delF (fun _ => rfl) (fun x v hv => by simp [delF] at hv; rcases hv with rfl | rfl | rfl <;> rfl) (fun x y => Lib.compareInt x.1 y.1) Yln 154 #[] g (k * 3) (cap - k) (l.drop k).toArray w eg (fun _ _ _ _ x y => Ylb x y _) hH hg (by rw [hsz]; omega)
  rw [hsz] at hcon
  refine hcon.mono ?_
  rintro e w' ⟨rfl, d', n, os, hp, _, rfl⟩
  have hp := Yav (d := (l.drop k).toArray) (by rw [hsz]; exact hp)
  have hpl : (l.take k ++ d'.toList).Perm l := by
    have := (List.Perm.refl (l.take k)).append hp
    rwa [List.take_append_drop] at this
  have hdl : d'.toList.length = l.length - k := by rw [hp.length_eq]; simp
  have h5 := hst d'.toList n os hdl
  rw [Array.toArray_toList] at h5
  refine ⟨_, _, rfl, h5, rfl, l.take k ++ d'.toList, hpl, ?_⟩
  unfold plD
  rw [hpl.length_eq]
open Go.RowKit Go.Eng Go.Nw Go.Rt Go.Sort Go.Shelf Go.Proofs
set_option maxHeartbeats 4000000 in
theorem Ykd (a b c d : Int) (g : Nat) (W : World) (h0 : W.cell? ⟨g, 0, none⟩ = some (.int .i64 a)) (h1 : W.cell? ⟨g, 1, none⟩ = some (.int .i64 b)) (h2 : W.cell? ⟨g, 2, none⟩ = some (.int .i64 c)) (h3 : W.cell? ⟨g, 3, none⟩ = some (.int .i64 d)) :
    Calls Tryz.prog 98 #[.slice (some ⟨g, 0, none⟩) 4 4] W fun e w' => e = .returned (.int .i64 (YU [a, b, c, d])) ∧ w' = W := by
  go_enter Tryz.func98, Tryz.ntmps98
  go_wp2
  refine wp_loop_rounds 5 ?_
  rw [rounds_succ]
  go_wp2
  · rename_i hx
    have hx : a ≠ 0 := by simpa using hx
    go_ret
    exact ⟨by simp only [YU]; rw [if_pos hx]; rfl, rfl⟩
  rename_i ha
  have ha : a = 0 := by simpa using ha
  rw [rounds_succ]
  go_wp2
  · rename_i hx
    have hx : b ≠ 0 := by simpa using hx
    go_ret
    exact ⟨by simp only [YU]; rw [if_neg (by omega)]; rw [if_pos hx]; rfl, rfl⟩
  rename_i hb
  have hb : b = 0 := by simpa using hb
  rw [rounds_succ]
  go_wp2
  · rename_i hx
    have hx : c ≠ 0 := by simpa using hx
    go_ret
    exact ⟨by simp only [YU]; rw [if_neg (by omega)]; rw [if_neg (by omega)]; rw [if_pos hx]; rfl, rfl⟩
  rename_i hc
  have hc : c = 0 := by simpa using hc
  rw [rounds_succ]
  go_wp2
  · rename_i hx
    have hx : d ≠ 0 := by simpa using hx
    go_ret
    exact ⟨by simp only [YU]; rw [if_neg (by omega)]; rw [if_neg (by omega)]; rw [if_neg (by omega)]; rw [if_pos hx]; rfl, rfl⟩
  rename_i hd
  have hd : d = 0 := by simpa using hd
  rw [rounds_succ]
  go_wp2
  go_ret
  exact ⟨by simp only [YU]; rw [if_neg (by omega), if_neg (by omega), if_neg (by omega), if_neg (by omega)]; rfl, rfl⟩
structure BrM where
  f : Int
  k : Int
  u : Int
  v : Int
  A : Option Addr
  n : Nat
  cap : Nat
deriving Inhabited
def brF (x : BrM) : List Value := [.int .i64 x.f, .int .i64 x.k, .int .i64 x.u, .int .i64 x.v, .slice x.A x.n x.cap]
def cfBr (x y : BrM) : Int := YU [Lib.compareInt x.f y.f, Lib.compareInt x.k y.k, Lib.compareInt x.u y.u, Lib.compareInt x.v y.v]
set_option maxRecDepth 100000 in
set_option maxHeartbeats 4000000 in
theorem YlF (x y : BrM) (W : World) : Calls Tryz.prog 97 #[.agg #[.int .i64 x.f, .int .i64 x.k, .int .i64 x.u, .int .i64 x.v, .slice x.A x.n x.cap], .agg #[.int .i64 y.f, .int .i64 y.k, .int .i64 y.u, .int .i64 y.v, .slice y.A y.n y.cap]] W fun e w' => e = .returned (.int .i64 (cfBr x y)) ∧ ∃ q os', w' = grow (W.drewN q) os' := by
  have c1 := fun W' => Tryz.cmp_Compare_int x.f y.f W'
  have c2 := fun W' => Tryz.cmp_Compare_int x.k y.k W'
  have c3 := fun W' => Tryz.cmp_Compare_int x.u y.u W'
  have c4 := fun W' => Tryz.cmp_Compare_int x.v y.v W'
  unfold cfBr
  generalize Lib.compareInt x.f y.f = r1 at c1 ⊢
  generalize Lib.compareInt x.k y.k = r2 at c2 ⊢
  generalize Lib.compareInt x.u y.u = r3 at c3 ⊢
  generalize Lib.compareInt x.v y.v = r4 at c4 ⊢
  go_enter Tryz.func97, Tryz.ntmps97
  go_wp2
  generalize hw1 : (W.alloc (.cells #[.int .i64 x.f, .int .i64 x.k, .int .i64 x.u, .int .i64 x.v, .slice x.A x.n x.cap] 96)).alloc (.cells #[.int .i64 y.f, .int .i64 y.k, .int .i64 y.u, .int .i64 y.v, .slice y.A y.n y.cap] 96) = w1
  have hg : grow W #[.cells #[.int .i64 x.f, .int .i64 x.k, .int .i64 x.u, .int .i64 x.v, .slice x.A x.n x.cap] 96 (0, 0), .cells #[.int .i64 y.f, .int .i64 y.k, .int .i64 y.u, .int .i64 y.v, .slice y.A y.n y.cap] 96 (0, 0)] = w1 := by
    rw [← hw1, alloc_eq_grow, alloc_eq_grow, grow_grow]; rfl
  have x0 : w1.drew.cell? ⟨W.heap.size, 0, none⟩ = some (.int .i64 x.f) := by rw [← hw1]; simp
  have x1 : w1.drew.cell? ⟨W.heap.size, 1, none⟩ = some (.int .i64 x.k) := by rw [← hw1]; simp
  have x2 : w1.drew.cell? ⟨W.heap.size, 2, none⟩ = some (.int .i64 x.u) := by rw [← hw1]; simp
  have x3 : w1.drew.cell? ⟨W.heap.size, 3, none⟩ = some (.int .i64 x.v) := by rw [← hw1]; simp
  have y0 : w1.drew.cell? ⟨W.heap.size + 1, 0, none⟩ = some (.int .i64 y.f) := by rw [← hw1]; simp
  have y1 : w1.drew.cell? ⟨W.heap.size + 1, 1, none⟩ = some (.int .i64 y.k) := by rw [← hw1]; simp
  have y2 : w1.drew.cell? ⟨W.heap.size + 1, 2, none⟩ = some (.int .i64 y.u) := by rw [← hw1]; simp
  have y3 : w1.drew.cell? ⟨W.heap.size + 1, 3, none⟩ = some (.int .i64 y.v) := by rw [← hw1]; simp
  refine wp_region_still_tail 20 (by kernel_rfl) (by kernel_rfl) ?_
  have e9 : ({ w1 with drawn := w1.drawn + 1 } : World) = w1.drew := rfl
  rw [e9]
  clear e9
  generalize hw2 : w1.drew = w2 at x0 x1 x2 x3 y0 y1 y2 y3 ⊢
  simp only [List.take_succ_cons, List.take_zero, List.drop_succ_cons, List.drop_zero]
  repeat still_step
  still_call (c1 _)
  repeat still_step
  still_call (c2 _)
  repeat still_step
  still_call (c3 _)
  repeat still_step
  still_call (c4 _)
  refine wpStill_nil ?_
  clear c1 c2 c3 c4
  have hor : Calls Tryz.prog 98 #[.slice (some ⟨w2.heap.size, 0, none⟩) 4 4] (w2.alloc (.cells #[.int .i64 r1, .int .i64 r2, .int .i64 r3, .int .i64 r4] 3)) fun e w' => e = .returned (.int .i64 (YU [r1, r2, r3, r4])) ∧ w' = w2.alloc (.cells #[.int .i64 r1, .int .i64 r2, .int .i64 r3, .int .i64 r4] 3) :=
    Ykd r1 r2 r3 r4 w2.heap.size _ (by simp) (by simp) (by simp) (by simp)
  generalize YU [r1, r2, r3, r4] = r at hor ⊢
  clear x0 x1 x2 x3 y0 y1 y2 y3
  go_wp2_with (go_at_call 98; refine hor.mono ?_; rintro e w' ⟨rfl, rfl⟩)
  go_ret
  refine ⟨by first | rfl | kernel_rfl | simp, 1, #[.cells #[.int .i64 x.f, .int .i64 x.k, .int .i64 x.u, .int .i64 x.v, .slice x.A x.n x.cap] 96 (0, 0), .cells #[.int .i64 y.f, .int .i64 y.k, .int .i64 y.u, .int .i64 y.v, .slice y.A y.n y.cap] 96 (0, 0), .cells #[.int .i64 r1, .int .i64 r2, .int .i64 r3, .int .i64 r4] 3 (0, 0)], ?_⟩
  rw [← hw2, ← hw1, alloc_eq_grow]
  rfl
open Go.RowKit Go.Eng Go.Nw Go.Rt Go.Sort Go.Shelf Go.Proofs
def Yak (x y : BrM) : Prop := x.f < y.f ∨ x.f = y.f ∧ (x.k < y.k ∨ x.k = y.k ∧ (x.u < y.u ∨ x.u = y.u ∧ x.v < y.v))
instance (x y : BrM) : Decidable (Yak x y) := by unfold Yak; exact inferInstance
theorem Ygs (a b : Int) (l : List Int) : YU (Lib.compareInt a b :: l) < 0 ↔ a < b ∨ (a = b ∧ YU l < 0) := by
  rw [YU]
  unfold Lib.compareInt
  by_cases h1 : a < b
  · simp [h1]
  · by_cases h2 : a > b
    · simp [h1, h2]; omega
    · have : a = b := by omega
      simp [this]
theorem ltBr (x y : BrM) : ltOf cfBr x y = decide (Yak x y) := by
  rw [Bool.eq_iff_iff]
  unfold ltOf
  rw [decide_eq_true_eq, decide_eq_true_eq]
  unfold cfBr Yak
  rw [Ygs, Ygs, Ygs, Ygs]
  have : ¬ YU [] < 0 := by decide
  constructor
  · rintro (h | ⟨h1, h | ⟨h2, h | ⟨h3, h | ⟨h4, h5⟩⟩⟩⟩)
    · exact .inl h
    · exact .inr ⟨h1, .inl h⟩
    · exact .inr ⟨h1, .inr ⟨h2, .inl h⟩⟩
    · exact .inr ⟨h1, .inr ⟨h2, .inr ⟨h3, h⟩⟩⟩
    · exact absurd h5 this
  · rintro (h | ⟨h1, h | ⟨h2, h | ⟨h3, h4⟩⟩⟩)
    · exact .inl h
    · exact .inr ⟨h1, .inl h⟩
    · exact .inr ⟨h1, .inr ⟨h2, .inl h⟩⟩
    · exact .inr ⟨h1, .inr ⟨h2, .inr ⟨h3, .inl h4⟩⟩⟩
theorem Ymh : SWO (ltOf cfBr) where
  irrefl x := by rw [ltBr, decide_eq_false_iff_not]; unfold Yak; omega
  trans x y z h1 h2 := by rw [ltBr, decide_eq_true_eq] at *; unfold Yak at *; omega
  ntrans x y z h1 h2 := by rw [ltBr, decide_eq_false_iff_not] at *; unfold Yak at *; omega
abbrev brP (A : Option Addr) (cap : Nat) (l : List BrM) : HP := sl 96 5 A l.length cap (l.flatMap brF)
theorem YeE (l : List BrM) (hl : l.length ≤ 100000000) {A : Option Addr} {cap B : Nat} {w0 : World} {H H0 : List HP} {w : World} (hin : ∀ w, St B w0 H0 w → St B w0 (brP A cap l :: H) w) (hw : St B w0 H0 w) :
    Calls Tryz.prog 96 [.slice A l.length cap, .func (.func 97) #[] #[]].toArray w (Post B w0 fun v K => v = .tuple #[] ∧ ∃ l', l'.Perm l ∧ K = brP A cap l' :: H) := by
  have hw := hin w hw
  by_cases h0 : l.length = 0
  · rw [h0]
    refine (AnyF.slices_SortFunc_none Tryz.sortBrs A cap (.func (.func 97) #[] #[]) w).mono ?_
    rintro e w' ⟨rfl, rfl⟩
    exact ⟨_, _, rfl, hw, rfl, l, List.Perm.refl _, rfl⟩
  have ho := hw.sl (List.mem_cons_self)
  obtain ⟨g, rfl⟩ : ∃ g, A = some ⟨g, 0, none⟩ := by
    rcases ho.2 with ⟨h1, h2⟩ | ⟨g, c, cur, h1, h2, h3, h4, h5, h6, h7⟩
    · omega
    · injection h1 with e1 e2 e3
      exact ⟨g, e1⟩
  obtain ⟨hH, hg, hst⟩ := Yb9 (enc := brF) (fun _ => rfl) (by decide) (Nat.zero_le _) hw
  have eg : ∀ args w, (callFunc 97 args).run Tryz.prog w = .ok (.enter 97 args) w := en97
  rw [List.drop_zero, Nat.zero_mul] at hH
  have hsz : l.toArray.size = l.length := by simp
  have hcon := AnyQ.slices_SortFunc Tryz.sortBrs 5 Tryz.isAgg96 Tryz.sizeOf96 brF (fun _ => rfl) (fun x v hv => by simp [brF] at hv; rcases hv with rfl | rfl | rfl | rfl | rfl <;> rfl) cfBr Ymh 97 #[] g 0 cap l.toArray w eg (fun _ _ _ _ x y => YlF x y _) hH hg (by rw [hsz]; omega)
  rw [hsz] at hcon
  refine hcon.mono ?_
  rintro e w' ⟨rfl, d', n, os, hp, _, rfl⟩
  have hp : d'.toList.Perm l := Yav (d := l.toArray) (by rw [hsz]; exact hp)
  have h5 := hst d'.toList n os (by rw [hp.length_eq]; rfl)
  rw [Array.toArray_toList, Nat.zero_mul, List.take_zero, List.nil_append] at h5
  refine ⟨_, _, rfl, h5, rfl, d'.toList, hp, ?_⟩
  unfold brP
  rw [hp.length_eq]
open Go.RowKit Go.Eng Go.Nw Go.Rt
theorem Yjn {r : List Int} : U8 r = false ↔ r.Nodup := by
  unfold U8
  rw [List.any_eq_false]
  constructor
  · intro h
    refine List.pairwise_iff_getElem.2 fun i j hi hj hij e => ?_
    have h1 := h j (List.mem_range.2 hj)
    apply h1
    rw [List.contains_iff_mem, List.getD_eq_getElem?_getD, List.getElem?_eq_getElem hj, Option.getD_some, ← e]
    refine List.mem_iff_getElem?.2 ⟨i, ?_⟩
    rw [List.getElem?_take_of_lt hij, List.getElem?_eq_getElem hi]
  · intro h i hi hc
    have hi := List.mem_range.1 hi
    rw [List.contains_iff_mem, List.getD_eq_getElem?_getD, List.getElem?_eq_getElem hi, Option.getD_some] at hc
    obtain ⟨k, hk⟩ := List.mem_iff_getElem?.1 hc
    have hki : k < i := by
      have := (List.getElem?_eq_some_iff.1 hk).1
      rw [List.length_take] at this
      omega
    rw [List.getElem?_take_of_lt hki] at hk
    obtain ⟨h1, h2⟩ := List.getElem?_eq_some_iff.1 hk
    exact List.pairwise_iff_getElem.1 h k i h1 hi hki h2
theorem QI {n : Net} {b : Int} {r : List Int} (hl : r.getD (r.length - 1) 0 = b) (hnd : r.Nodup) (hk : ∀ i, i + 1 < r.length → (X0 n r i).1 = r.getD i 0 ∧ (X0 n r i).2.1 = r.getD (i + 1) 0) : ∀ (m i : Nat), i + m + 1 = r.length →
    Yc5 b (r.getD i 0) ((List.range' i m).map (X0 n r))
  | 0, i, h => by
    show r.getD i 0 = b
    rw [← hl, show r.length - 1 = i by omega]
  | m + 1, i, h => by
    rw [List.range'_succ, List.map_cons]
    obtain ⟨h1, h2⟩ := hk i (by omega)
    refine ⟨h1.symm, fun e => ?_, ?_⟩
    · rw [← hl] at e
      rw [List.getD_eq_getElem?_getD, List.getD_eq_getElem?_getD, List.getElem?_eq_getElem (show i < r.length by omega), List.getElem?_eq_getElem (show r.length - 1 < r.length by omega)] at e
      exact List.pairwise_iff_getElem.1 hnd i (r.length - 1) (by omega) (by omega) (by omega) (Option.some.inj (by simpa using e))
    · rw [h2]
      exact QI hl hnd hk m (i + 1) (by omega)
theorem OI {n : Net} {a b : Int} {r : List Int} (h : XQ n a b r = 0) : Yc5 b a (YA n r) ∧ (∀ x ∈ YA n r, 0 ≤ x.2.2) ∧ YA n r ≠ [] ∧ r.Nodup ∧
    ∀ i, i + 1 < r.length → (X0 n r i).1 = r.getD i 0 ∧ (X0 n r i).2.1 = r.getD (i + 1) 0 := by
  have h' := h
  unfold XQ at h
  by_cases h0 : Wo n a b = 0
  rotate_left
  · rw [if_pos h0] at h; exact absurd h h0
  rw [if_neg (fun e => e h0)] at h
  obtain ⟨hlen, -, ⟨hs, ht⟩, htw, -⟩ := YdX h
  obtain ⟨hck, -, hg⟩ := Vd h'
  have hok := Xe hck
  have hnd := Yjn.1 htw
  have hk : ∀ i, i + 1 < r.length → (X0 n r i).1 = r.getD i 0 ∧ (X0 n r i).2.1 = r.getD (i + 1) 0 := fun i hi => V9 (Uy (hg i hi))
  refine ⟨?_, fun x hx => ?_, ?_, hnd, hk⟩
  · have := QI ht hnd hk (r.length - 1) 0 (by omega)
    rw [hs] at this
    unfold YA
    rw [List.range_eq_range']
    exact this
  · unfold YA at hx
    obtain ⟨i, hi, rfl⟩ := List.mem_map.1 hx
    have hi := List.mem_range.1 hi
    exact (Yj2 hok (r.getD i 0) (r.getD (i + 1) 0)).1
  · intro e
    have := congrArg List.length e
    unfold YA at this
    simp at this
    omega
open Go.RowKit Go.Eng Go.Nw Go.Rt
def keyA (a : AttM) : List Int := [Xo a.c, a.frame, Yy a.c, toC a.c]
def runO : List Int → Nat → Nat
  | [], r => r
  | o :: os, r => if o = 1 then runO os 0 else runO os (r + 1)
theorem Oc (o : Int) : ∀ (os : List Int) (r : Nat), runO (os ++ [o]) r = if o = 1 then 0 else runO os r + 1
  | [], r => by simp only [List.nil_append, runO]
  | x :: os, r => by
    simp only [List.cons_append, runO, Oc o os]
    by_cases h : x = 1
    · rw [if_pos h, if_pos h]
    · rw [if_neg h, if_neg h]
theorem QE (loss o : Int) : ∀ (os : List Int) (r : Nat), brO loss (os ++ [o]) r = (brO loss os r || (decide (o ≠ 1) && decide (loss < (runO os r : Nat) + 1)))
  | [], r => by
    simp only [List.nil_append, brO, runO, Bool.false_or]
    by_cases h : o = 1
    · simp [h]
    · by_cases h2 : loss < (r : Int) + 1 <;> simp [h, h2]
  | x :: os, r => by
    simp only [List.cons_append, brO, runO, QE loss o os]
    by_cases h : x = 1
    · simp only [if_pos h]
    · simp only [if_neg h]
      by_cases h2 : loss < (r : Int) + 1
      · simp only [if_pos h2, Bool.true_or]
      · simp only [if_neg h2]
def osK (al : List AttM) (K : List Int) : List Int := (al.filter fun a => keyA a == K).map AttM.o
theorem YiW (al : List AttM) (id k u v : Int) : osK al [id, k, u, v] = (keyL al id k u v).map AttM.o := by
  unfold osK keyL
  congr 2
  funext a
  unfold keyA onK
  rw [Bool.eq_iff_iff]
  simp
theorem Yau (al : List AttM) (a : AttM) (K : List Int) : osK (al ++ [a]) K = if keyA a = K then osK al K ++ [a.o] else osK al K := by
  unfold osK
  rw [List.filter_append]
  by_cases h : keyA a = K <;> simp [h]
def BrI (loss : List Int → Option Int) (al : List AttM) (rows : List Int → Nat) (found : List Int → Bool) : Prop :=
  ∀ K b, loss K = some b → found K = true ∨ (brO b (osK al K) 0 = false ∧ rows K = runO (osK al K) 0)
theorem BrI.start (loss : List Int → Option Int) : BrI loss [] (fun _ => 0) (fun _ => false) := fun _ _ _ => .inr ⟨rfl, rfl⟩
theorem BrI.skip {loss : List Int → Option Int} {al : List AttM} {rows : List Int → Nat} {found : List Int → Bool} (h : BrI loss al rows found) {a : AttM} (ha : loss (keyA a) = none ∨ found (keyA a) = true) : BrI loss (al ++ [a]) rows found := fun K b hb => by
  by_cases e : keyA a = K
  · rcases ha with ha | ha
    · rw [e, hb] at ha; cases ha
    · exact .inl (e ▸ ha)
  · rw [Yau, if_neg e]
    exact h K b hb
theorem BrI.acked {loss : List Int → Option Int} {al : List AttM} {rows rows' : List Int → Nat} {found : List Int → Bool} (h : BrI loss al rows found) {a : AttM} (ha : a.o = 1) (h1 : rows' (keyA a) = 0) (h2 : ∀ K, K ≠ keyA a → rows' K = rows K) : BrI loss (al ++ [a]) rows' found := fun K b hb => by
  rw [Yau]
  by_cases e : keyA a = K
  · rw [if_pos e]
    rcases h K b hb with h3 | ⟨h3, _⟩
    · exact .inl h3
    · right
      rw [QE, Oc, if_pos ha, h3, ha, ← e]
      exact ⟨rfl, h1⟩
  · rw [if_neg e, h2 K (Ne.symm e)]
    exact h K b hb
theorem BrI.lost {loss : List Int → Option Int} {al : List AttM} {rows rows' : List Int → Nat} {found found' : List Int → Bool} (h : BrI loss al rows found) {a : AttM} {b : Int} (hb : loss (keyA a) = some b) (ha : a.o ≠ 1) (h1 : rows' (keyA a) = rows (keyA a) + 1) (h2 : ∀ K, K ≠ keyA a → rows' K = rows K)
    (h3 : b < (rows (keyA a) : Nat) + 1 → found' (keyA a) = true) (h4 : ∀ K, found K = true → found' K = true) : BrI loss (al ++ [a]) rows' found' := fun K b' hb' => by
  rw [Yau]
  by_cases e : keyA a = K
  · subst e
    rw [if_pos rfl]
    rw [hb] at hb'
    cases hb'
    rcases h _ b hb with h5 | ⟨h5, h6⟩
    · exact .inl (h4 _ h5)
    · by_cases h7 : b < (rows (keyA a) : Nat) + 1
      · exact .inl (h3 h7)
      · right
        rw [QE, Oc, if_neg ha, h5, h1, h6]
        refine ⟨?_, rfl⟩
        rw [h6] at h7
        rw [decide_eq_false h7, Bool.and_false, Bool.or_false]
  · rw [if_neg e, h2 K (Ne.symm e)]
    rcases h K b' hb' with h5 | h5
    · exact .inl (h4 K h5)
    · exact .inr h5
theorem BrI.all {loss : List Int → Option Int} {al : List AttM} {rows : List Int → Nat} {found : List Int → Bool} (h : BrI loss al rows found) {K : List Int} {b : Int} (hb : loss K = some b) (hbr : brO b (osK al K) 0 = true) : found K = true := by
  rcases h K b hb with h | ⟨h, _⟩
  · exact h
  · rw [hbr] at h; cases h
open Go.RowKit Go.Eng Go.Nw Go.Rt
structure RwM where
  key : KL
  A : Option Addr
  cap : Nat
  xs : List Int
  born : Nat
def rwP (r : RwM) : KL × Value × Nat := (r.key, .slice r.A r.xs.length r.cap, r.born)
abbrev rwV (R : List RwM) : YK := R.map rwP
def rwQ (r : RwM) : HP := nrs r.A r.cap r.xs
def Ul (R : List RwM) (K : KL) : Nat := ((R.find? fun r => r.key == K).map (·.xs.length)).getD 0
def Q5 (F : YK) (K : KL) : Bool := (vget F K).isSome
inductive Up (R : List RwM) (cR : Nat) (k : KL) : List RwM → Option Addr → Nat → List Int → Nat → List RwM → Nat → Prop
  | old (l1 : List RwM) (A : Option Addr) (cap : Nat) (xs : List Int) (b : Nat) (l2 : List RwM) (h : R = l1 ++ ⟨k, A, cap, xs, b⟩ :: l2) (hn : ∀ r ∈ l1, r.key ≠ k) : Up R cR k l1 A cap xs b l2 cR
  | new (hn : ∀ r ∈ R, r.key ≠ k) : Up R cR k R none 0 [] cR [] (cR + 1)
theorem Ymi (R : List RwM) (cR : Nat) (k : KL) : ∃ l1 A cap xs b l2 c', Up R cR k l1 A cap xs b l2 c' := by
  by_cases h : ∃ r ∈ R, r.key = k
  · have : ∃ l1 r l2, R = l1 ++ r :: l2 ∧ r.key = k ∧ ∀ r ∈ l1, r.key ≠ k := by
      clear cR
      induction R with
      | nil => obtain ⟨r, hr, _⟩ := h; cases hr
      | cons a R ih =>
        by_cases ha : a.key = k
        · exact ⟨[], a, R, rfl, ha, fun r hr => by cases hr⟩
        · obtain ⟨r, hr, e⟩ := h
          rcases List.mem_cons.1 hr with rfl | hr
          · exact absurd e ha
          · obtain ⟨l1, r2, l2, e1, e2, e3⟩ := ih ⟨r, hr, e⟩
            exact ⟨a :: l1, r2, l2, by rw [e1]; rfl, e2, fun y hy => by
              rcases List.mem_cons.1 hy with rfl | hy
              · exact ha
              · exact e3 y hy⟩
    obtain ⟨l1, ⟨k', A, cap, xs, b⟩, l2, e1, e2, e3⟩ := this
    obtain rfl : k' = k := e2
    exact ⟨l1, A, cap, xs, b, l2, cR, .old _ _ _ _ _ _ e1 e3⟩
  · exact ⟨R, none, 0, [], cR, [], cR + 1, .new fun r hr e => h ⟨r, hr, e⟩⟩
theorem Up.ne {R : List RwM} {cR : Nat} {k : KL} {l1 : List RwM} {A : Option Addr} {cap : Nat} {xs : List Int} {b : Nat} {l2 : List RwM} {c' : Nat} (h : Up R cR k l1 A cap xs b l2 c') : ∀ r ∈ l1, r.key ≠ k := by
  cases h with
  | old _ _ _ _ _ _ _ hn => exact hn
  | new hn => exact hn
theorem XL (l1 l2 : List RwM) (k : KL) (A : Option Addr) (cap : Nat) (xs : List Int) (b : Nat) : rwV (l1 ++ ⟨k, A, cap, xs, b⟩ :: l2) = rwV l1 ++ (k, .slice A xs.length cap, b) :: rwV l2 := by
  unfold rwV; rw [List.map_append, List.map_cons]; rfl
theorem Up.ok {R : List RwM} {cR : Nat} {k : KL} {l1 : List RwM} {A : Option Addr} {cap : Nat} {xs : List Int} {b : Nat} {l2 : List RwM} {c' : Nat} (h : Up R cR k l1 A cap xs b l2 c') (lk : k.length = 4) (hok : VOk 4 (rwV R) cR) (v : Value) : VOk 4 (rwV l1 ++ (k, v, b) :: rwV l2) c' := by
  cases h with
  | old _ _ _ _ _ _ e hn =>
    subst e
    rw [XL] at hok
    exact hok.set v
  | new hn => exact hok.snoc lk v
theorem Up.nek {R : List RwM} {cR : Nat} {k : KL} {l1 : List RwM} {A : Option Addr} {cap : Nat} {xs : List Int} {b : Nat} {l2 : List RwM} {c' : Nat} (h : Up R cR k l1 A cap xs b l2 c') : ∀ e ∈ rwV l1, e.1 ≠ k := fun e he => by
  obtain ⟨r, hr, rfl⟩ := List.mem_map.1 he
  exact h.ne r hr
theorem Yjp {l1 l2 : YK} {k : KL} {v : Value} {b : Nat} (h : ∀ e ∈ l1, e.1 ≠ k) : vget (l1 ++ (k, v, b) :: l2) k = some v := by
  unfold vget
  rw [List.find?_append, List.find?_eq_none.2 (fun e he => by simpa using h e he)]
  simp
theorem Vz {l1 l2 : List RwM} {k : KL} {A : Option Addr} {cap : Nat} {xs : List Int} {b : Nat} (h : ∀ r ∈ l1, r.key ≠ k) : Ul (l1 ++ ⟨k, A, cap, xs, b⟩ :: l2) k = xs.length := by
  unfold Ul
  rw [List.find?_append, List.find?_eq_none.2 (fun e he => by simpa using h e he)]
  simp
theorem Yfz {l1 l2 : List RwM} {k K : KL} {A A' : Option Addr} {cap cap' : Nat} {xs xs' : List Int} {b b' : Nat} (hK : K ≠ k) : Ul (l1 ++ ⟨k, A, cap, xs, b⟩ :: l2) K = Ul (l1 ++ ⟨k, A', cap', xs', b'⟩ :: l2) K := by
  unfold Ul
  rw [List.find?_append, List.find?_append, List.find?_cons, List.find?_cons]
  have : (k == K) = false := by simpa using Ne.symm hK
  simp only [this]
theorem Up.get {R : List RwM} {cR : Nat} {k : KL} {l1 : List RwM} {A : Option Addr} {cap : Nat} {xs : List Int} {b : Nat} {l2 : List RwM} {c' : Nat} (h : Up R cR k l1 A cap xs b l2 c') : Ul R k = xs.length := by
  cases h with
  | old _ _ _ _ _ _ e hn => subst e; exact Vz hn
  | new hn =>
    unfold Ul
    rw [List.find?_eq_none.2 (fun e he => by simpa using hn e he)]
    rfl
theorem Up.other {R : List RwM} {cR : Nat} {k : KL} {l1 : List RwM} {A : Option Addr} {cap : Nat} {xs : List Int} {b : Nat} {l2 : List RwM} {c' : Nat} (h : Up R cR k l1 A cap xs b l2 c') (A' : Option Addr) (cap' : Nat) (xs' : List Int) : ∀ K, K ≠ k → Ul (l1 ++ ⟨k, A', cap', xs', b⟩ :: l2) K = Ul R K := fun K hK => by
  cases h with
  | old _ _ _ _ _ _ e hn => subst e; exact Yfz hK
  | new hn =>
    unfold Ul
    rw [List.find?_append, List.find?_cons]
    have : (k == K) = false := by simpa using Ne.symm hK
    simp only [this, List.find?_nil, Option.or_none]
theorem Up.lens {R : List RwM} {cR : Nat} {k : KL} {l1 : List RwM} {A : Option Addr} {cap : Nat} {xs : List Int} {b : Nat} {l2 : List RwM} {c' : Nat} (h : Up R cR k l1 A cap xs b l2 c') {j : Nat} (hj : ∀ r ∈ R, r.xs.length ≤ j) : xs.length ≤ j ∧ ∀ (A' : Option Addr) (cap' : Nat) (xs' : List Int), xs'.length ≤ j + 1 → ∀ r ∈ l1 ++ ⟨k, A', cap', xs', b⟩ :: l2, r.xs.length ≤ j + 1 := by
  have h1 : (∀ r ∈ l1, r.xs.length ≤ j) ∧ (∀ r ∈ l2, r.xs.length ≤ j) ∧ xs.length ≤ j := by
    cases h with
    | old _ _ _ _ _ _ e hn =>
      subst e
      exact ⟨fun r hr => hj r (by simp [hr]), fun r hr => hj r (by simp [hr]), hj ⟨k, A, cap, xs, b⟩ (by simp)⟩
    | new hn => exact ⟨hj, (fun r hr => by cases hr), Nat.zero_le _⟩
  refine ⟨h1.2.2, fun A' cap' xs' hx r hr => ?_⟩
  rcases List.mem_append.1 hr with hr | hr
  · have := h1.1 r hr; omega
  · rcases List.mem_cons.1 hr with rfl | hr
    · exact hx
    · have := h1.2.1 r hr; omega
theorem Up.open_ {R : List RwM} {cR : Nat} {k : KL} {l1 : List RwM} {A : Option Addr} {cap : Nat} {xs : List Int} {b : Nat} {l2 : List RwM} {c' : Nat} (h : Up R cR k l1 A cap xs b l2 c') {B : Nat} {w0 : World} {H : List HP} {w : World} (hw : St B w0 (many (R.map rwQ) :: H) w) : St B w0 (nrs A cap xs :: many (l1.map rwQ ++ l2.map rwQ) :: H) w := by
  cases h with
  | old _ _ _ _ _ _ e hn =>
    subst e
    rw [List.map_append, List.map_cons] at hw
    exact hw.perm (.pull _ _ _ _)
  | new hn =>
    rw [List.map_nil, List.append_nil]
    exact hw.nilSlice _ _
theorem YaG {l1 l2 : List RwM} (k : KL) (A : Option Addr) (cap : Nat) (xs : List Int) (b : Nat) (H : List HP) : Perm (nrs A cap xs :: many (l1.map rwQ ++ l2.map rwQ) :: H) (many ((l1 ++ ⟨k, A, cap, xs, b⟩ :: l2).map rwQ) :: H) := by
  rw [List.map_append, List.map_cons]
  exact .push _ _ _ _
theorem VOk.nodup {N ct : Nat} {es : YK} (h : VOk N es ct) : (es.map (·.2.2)).Nodup := List.pairwise_map.2 h.ne
theorem YfG {es : YK} {seen : Array Nat} {e : KL × Value × Nat} (he : e ∈ es) (hs : seen.contains e.2.2 = false) : (es.filter fun x => !(seen.push e.2.2).contains x.2.2).length < (es.filter fun x => !seen.contains x.2.2).length := by
  have h1 : (es.filter fun x => !(seen.push e.2.2).contains x.2.2) = (es.filter fun x => !seen.contains x.2.2).filter fun x => !(x.2.2 == e.2.2) := by
    rw [List.filter_filter]
    congr 1
    funext x
    rw [Array.contains_push]
    cases seen.contains x.2.2 <;> cases x.2.2 == e.2.2 <;> rfl
  rw [h1]
  refine List.length_filter_lt_length_iff_exists.2 ⟨e, List.mem_filter.2 ⟨he, by rw [hs]; rfl⟩, by simp⟩
theorem YgV {es : YK} (hn : (es.map fun e => e.2.2).Nodup) {x y : KL × Value × Nat} (hx : x ∈ es) (hy : y ∈ es) (e : x.2.2 = y.2.2) : x = y := by
  induction es with
  | nil => cases hx
  | cons a l ih =>
    rw [List.map_cons, List.nodup_cons] at hn
    rcases List.mem_cons.1 hx with h1 | h1 <;> rcases List.mem_cons.1 hy with h2 | h2
    · rw [h1, h2]
    · exact absurd (List.mem_map.2 ⟨y, h2, by rw [← e, h1]⟩) hn.1
    · exact absurd (List.mem_map.2 ⟨x, h1, by rw [e, h2]⟩) hn.1
    · exact ih hn.2 h1 h2
def OJ (n : Net) : KL → Option Int
  | [_, _, u, v] => if 0 ≤ YB n u v then some (lnk n (YB n u v).toNat).2.2 else none
  | _ => none
section
variable {P : Program} {n : Shp} {B : Nat} {w0 : World} {Q : Exit → Act → World → Prop} {env : Env} {H : List HP} {m : Eng.Mode} {ops : Array Oper} {rest : List Oper} {d : Nat} {ty : TypeId} {pos : String} {after : Array Edge}
theorem Uu {xt yt : TypeId} {x : Operand} {A : Option Addr} {k cap : Nat} (hx : evo env x = some (.slice A k cap)) (hn : Nat.ble (d + 1) n.k = true) (hu : isSl P xt = true)
    (h : VL P m n B w0 ops Q rest ((d, .bool (!A.isNone)) :: env) H) : VL P m n B w0 ops Q (⟨some d, .binOp .neq xt x (.const (.slice none 0 0)) yt, ty, pos, after, none⟩ :: rest) env H := by
  obtain ⟨e, hu⟩ := YbS hu
  refine YR hx (y := .const (.slice none 0 0)) rfl hn (fun w => by simp [eqGuard]) (fun w => ?_) h
  simp only [binOp, Op.equal]
  rw [Sem.run_bind, show Op.maxDepth = 9999 + 1 from rfl]
  unfold Op.equalIn
  cases A <;> simp [run_underlying hu]
theorem YjJ {R : List RwM} {cR : Nat} {k : KL} {l1 : List RwM} {A : Option Addr} {cap : Nat} {xs : List Int} {b : Nat} {l2 : List RwM} {c' : Nat} (hU : Up R cR k l1 A cap xs b l2 c') {t kt et : TypeId} {g : Nat} {x y u : Operand} {v : Value} {K : List HP} (hx : evo env x = some (.map (some g))) (hy : evo env y = some (kv k)) (hv : evo env u = some v) (ht : Jw P t kt et 4 = true) (lk : k.length = 4) (hok : VOk 4 (rwV R) cR)
    (hu : Upd (blk g (vobj (rwV R) cR)) (blk g (vobj (rwV l1 ++ (k, v, b) :: rwV l2) c')) H K) (h : VL P none n B w0 ops Q rest env K) : VL P none n B w0 ops Q (⟨none, .mapUpdate t x y u, ty, pos, after, none⟩ :: rest) env H := by
  have hne := hU.nek
  cases hU with
  | old _ _ _ _ _ _ e hn =>
    subst e
    rw [XL] at hu hok
    exact Ye0 k hx hy hv ht lk (fun e he => hok.len e (by simp [he])) hu hne h
  | new hn =>
    refine UT k hx hy hv ht lk hok.len hu ?_ h
    unfold vget
    rw [List.find?_eq_none.2 (fun e he => by simpa using hne e he)]
    rfl
theorem Qx {R : List RwM} {cR : Nat} {k : KL} {l1 : List RwM} {A : Option Addr} {cap : Nat} {xs : List Int} {b : Nat} {l2 : List RwM} {c' : Nat} (hU : Up R cR k l1 A cap xs b l2 c') {t kt et : TypeId} {g : Nat} {x y : Operand} {K : List HP} (hx : evo env x = some (.map (some g))) (hy : evo env y = some (kv k)) (ht : Jw P t kt et 4 = true) (lk : k.length = 4) (hok : VOk 4 (rwV R) cR) (hn : Nat.ble (d + 1) n.k = true) (hz : ∀ w, (zeroValue et).run P w = .ok (.slice none 0 0) w)
    (hu : Upd (blk g (vobj (rwV R) cR)) (blk g (vobj (rwV l1 ++ (k, .slice A xs.length cap, b) :: rwV l2) c')) H K) (h : VL P none n B w0 ops Q rest ((d, .tuple #[.slice A xs.length cap, goInt b]) :: env) K) : VL P none n B w0 ops Q (⟨some d, .mapEntry t x y, ty, pos, after, none⟩ :: rest) env H := by
  have hne := hU.nek
  cases hU with
  | old _ _ _ _ _ _ e hn =>
    subst e
    rw [XL] at hu hok
    exact Qw k hx hy ht lk (fun e he => hok.len e (by simp [he])) (by assumption) hu hne h
  | new hn =>
    refine Qv k hx hy ht lk hok.len (by assumption) hu ?_ hz h
    unfold vget
    rw [List.find?_eq_none.2 (fun e he => by simpa using hne e he)]
    rfl
theorem YeZ {g r clock since : Nat} {seen : Array Nat} {es : YK} {x : Operand} {a b c e : Int} {v : Value} {bb : Nat} (hx : evo env x = some (.pointer (some ⟨r, 0, none⟩))) (hm : blk g (vobj es clock) ∈ H) (hr : blk r (.mapIter (some g) since (seen.push bb) clock) ∈ H) (hn : Nat.ble (d + 1) n.k = true)
    (he : ([a, b, c, e], v, bb) ∈ es) (hnd : (es.map (·.2.2)).Nodup)
    (h : VL P none n B w0 ops Q rest ((d, .tuple #[.agg #[.int .i64 a, .int .i64 b, .int .i64 c, .int .i64 e], v]) :: env) H) : VL P none n B w0 ops Q (⟨some d, .entry x, ty, pos, after, none⟩ :: rest) env H :=
  YgJ (e := ([a, b, c, e], v, bb)) hx hm hr hn he hnd h
end
open Go.RowKit Go.Eng Go.Nw Go.Rt
structure FOk (F : YK) (cF : Nat) : Prop where
  ok : VOk 4 F cF
  sl : ∀ e ∈ F, ∃ g n cap, e.2.1 = .slice (some ⟨g, 0, none⟩) n cap
theorem YaX (w : World) : (zeroValue 24).run Tryz.prog w = .ok (.slice none 0 0) w := by kernel_rfl
theorem Ycc {F : YK} {k : KL} {v : Value} {b : Nat} (h : vget F k = none) (K : KL) : vget (F ++ [(k, v, b)]) K = if K = k then some v else vget F K := by
  unfold vget at h ⊢
  rw [Option.map_eq_none_iff] at h
  rw [List.find?_append]
  by_cases e : K = k
  · subst e
    rw [h, if_pos rfl]
    simp
  · rw [if_neg e]
    cases List.find? (fun e => e.1 == K) F with
    | some x => rfl
    | none => simp [Ne.symm e]
set_option maxRecDepth 10000 in
set_option maxHeartbeats 8000000 in
theorem Ya4 (n : NetM) (atts : List AttM) (hat : atts.length ≤ 50000000) (dA : Option Addr) (dn dc : Nat) {tA : Option Addr} {tc B : Nat} {w0 : World} {H : List HP} {w : World} (hin : n.In B w0 H) (hr : Rd B w0 H tA (atts.flatMap attF)) (hw : St B w0 H w) :
    Calls Tryz.prog 39 [n.val, .agg #[.slice tA atts.length tc, .slice dA dn dc]].toArray w (Post B w0 fun v K => ∃ (out : List BrM) (A : Option Addr) (cap : Nat), v = .slice A out.length cap ∧ out.length ≤ 50000000 ∧ (YE n.net = 0 → ∀ (k : KL) b, OJ n.net k = some b → brO b (osK atts k) 0 = true → ∃ x ∈ out, [x.f, x.k, x.u, x.v] = k) ∧ K = brP A cap out :: H) := by
  refine Yc Tryz.func39 Tryz.ntmps39 rfl rfl hw ?_
  have hop : ∀ w, St B w0 [many H] w → St B w0 H w := fun w hw => hw.perm (.openT H)
  have hin := hin.mono hop
  have hr := hr.mono hop
  refine VR [many H] (fun w hw => hw.perm (.closeT H)) ?_
  have p1 := fun {H' : List HP} {w : World} (hin : n.In B w0 H') (hw : St B w0 H' w) => YS n hin hw
  have p2 := fun (a b : Int) {H' : List HP} {w : World} (hin : n.In B w0 H') (hw : St B w0 H' w) => XZ n a b hin hw
  unfold NetM.val at p1 p2 ⊢
  repeat' (first | refine zgc ?_ | (refine zgh ?_; intro _) | fail)
  rename_i gn gr
  first | apply Ya en50 | apply Yb en50
  exact za
  exact rfl
  exact fun _ hw => (p1 (hin.mono zk) hw)
  by_cases hc : YE n.net = 0
  rotate_left
  · repeat' (first | refine zgb ?_ | (refine zge ?_ ?_ <;> intro _ <;> try (exfalso; omega)) | fail)
    apply Yi (brP none 0 [] :: H)
    · intro w hw
      have h5 : St B w0 [many H] w := by
        revert w
        exact zk
      exact (h5.perm (.openT H)).nilSlice _ _
    apply Yd; exact rfl; exact rfl
    exact ⟨[], none, 0, rfl, Nat.zero_le _, fun h => absurd h hc, rfl⟩
  have hix : ∀ a b, Zh n.net a b = YB n.net a b := fun a b => by unfold Zh; rw [if_neg (by rw [hc]; simp)]
  simp only [hix] at p2
  repeat' (first | (apply Ydk; exact rfl; intro _) | refine zgb ?_ | (refine zge ?_ ?_ <;> intro _ <;> try (exfalso; omega)) | fail)
  rename_i gR gF
  refine Yl (fun (z : Nat × List RwM × Nat × YK × Nat) => [(22, .int .i64 (z.1 : Nat)), (21, .int .i64 atts.length), (20, .slice tA atts.length tc), (2, .pointer (some ⟨gn, 0, none⟩)), (5, .map (some gR)), (6, .map (some gF))])
    (fun z => blk gR (vobj (rwV z.2.1) z.2.2.1) :: blk gF (vobj z.2.2.2.1 z.2.2.2.2) :: many (z.2.1.map rwQ) :: blk gn (.cells #[.int .i64 n.nodes, .slice n.pA n.rows.length n.pcap, .int .i64 n.noise, .int .i64 n.thr, .slice n.lA n.links.length n.lcap, .slice n.mA n.margin.length n.mcap] 26 (0, 0)) :: [many H])
    (fun z => z.1 ≤ atts.length ∧ VOk 4 (rwV z.2.1) z.2.2.1 ∧ FOk z.2.2.2.1 z.2.2.2.2 ∧ (∀ r ∈ z.2.1, r.xs.length ≤ z.1) ∧ z.2.2.2.1.length ≤ z.1 ∧ BrI (OJ n.net) (atts.take z.1) (Ul z.2.1) (Q5 z.2.2.2.1)) (fun z => atts.length - z.1) (0, [], 0, [], 0) ⟨Nat.zero_le _, VOk.nil, ⟨VOk.nil, fun e h => by cases h⟩, (fun r h => by cases h), Nat.zero_le _, BrI.start _⟩ ?_ ?_ ?_
  · exact zu
  · intro w hw
    have h5 : St B w0 (blk gR (vobj [] 0) :: blk gF (vobj [] 0) :: blk gn (.cells #[.int .i64 n.nodes, .slice n.pA n.rows.length n.pcap, .int .i64 n.noise, .int .i64 n.thr, .slice n.lA n.links.length n.lcap, .slice n.mA n.margin.length n.mcap] 26 (0, 0)) :: [many H]) w := by
      revert w
      exact zk
    exact h5.perm (.cons _ (.cons _ (.noMany _)))
  rintro ⟨j, R, cR, F, cF⟩ ⟨hj, hR, hF, hl, hfl, hI⟩ K hK
  dsimp only at hj hR hF hl hfl hI ⊢
  by_cases hlt : j < atts.length
  · obtain ⟨a, ha⟩ : ∃ a, atts[j]? = some a := ⟨_, List.getElem?_eq_getElem hlt⟩
    have htk : atts.take (j + 1) = atts.take j ++ [a] := by rw [List.take_add_one, ha]; rfl
    have hka : keyA a = [a.c.2.2.2.2, a.frame, a.c.2.2.1, a.c.2.2.2.1] := rfl
    obtain ⟨k, hk⟩ : ∃ k, k = keyA a := ⟨_, rfl⟩
    obtain ⟨fi, hfi⟩ : ∃ fi, YB n.net a.c.2.2.1 a.c.2.2.2.1 = fi := ⟨_, rfl⟩
    have p3 := fun {H' : List HP} {w : World} (hin : n.In B w0 H') (hw : St B w0 H' w) => p2 a.c.2.2.1 a.c.2.2.2.1 hin hw
    rw [hfi] at p3
    have hloss : OJ n.net (keyA a) = if 0 ≤ fi then some (lnk n.net fi.toNat).2.2 else none := by rw [hka, ← hfi]; rfl
    obtain ⟨l1, A, cap, xs, b, l2, c', hU⟩ := Ymi R cR (keyA a)
    have hkv : ∀ z, vget F (keyA a) = z → vget F [a.c.2.2.2.2, a.frame, a.c.2.2.1, a.c.2.2.2.1] = z := fun z h => h
    have hxl := hU.lens hl
    have hbir : ∀ e ∈ rwV l1, e.2.2 ≠ b := (hU.ok rfl hR (.bool true)).births
    by_cases hlost : 0 ≤ fi ∧ vget F (keyA a) = none ∧ a.o ≠ 1
    · obtain ⟨hf0, hfd, ho⟩ := hlost
      have hfd2 := hkv _ hfd
      obtain ⟨ix, rfl⟩ : ∃ ix : Nat, fi = ix := ⟨fi.toNat, by omega⟩
      obtain ⟨l, hln⟩ : ∃ l, n.links[ix]? = some l := by
        have h1 := ZJ (n := n.net) (a := a.c.2.2.1) (b := a.c.2.2.2.1) (by rw [hfi]; omega)
        rw [hfi] at h1
        exact ⟨_, List.getElem?_eq_getElem h1⟩
      have hlk : (lnk n.net ix).2.2 = l.2.2 := by
        unfold lnk
        rw [List.getD_eq_getElem?_getD, show n.net.links = n.links from rfl, hln]
        rfl
      have hixl : ix < n.links.length := (List.getElem?_eq_some_iff.1 hln).1
      have hloss : OJ n.net (keyA a) = some l.2.2 := by rw [hloss, if_pos (by omega), ← hlk]; rfl
      have hok2 : ∀ v, VOk 4 (rwV l1 ++ (keyA a, v, b) :: rwV l2) c' := fun v => hU.ok rfl hR v
      have hvg : ∀ v, vget (rwV l1 ++ (keyA a, v, b) :: rwV l2) (keyA a) = some v := fun v => Yjp hU.nek
      have hlr : Rd B w0 [many H] n.lA (n.links.flatMap lkF) := hin.lk
      have hxs := hxl.1
      refine VR (nrs A cap xs :: many (l1.map rwQ ++ l2.map rwQ) :: blk gR (vobj (rwV R) cR) :: blk gF (vobj F cF) :: blk gn (.cells #[.int .i64 n.nodes, .slice n.pA n.rows.length n.pcap, .int .i64 n.noise, .int .i64 n.thr, .slice n.lA n.links.length n.lcap, .slice n.mA n.margin.length n.mcap] 26 (0, 0)) :: [many H]) (fun w hw => ?_) ?_
      · refine hU.open_ ?_
        revert w
        exact zk
      repeat' (first | refine zgd ?_ | (refine zge ?_ ?_ <;> intro _ <;> try (exfalso; omega)) | (refine zgh ?_; intro _) | fail)
      rename_i ga gk
      first | apply Ya en95 | apply Yb en95
      exact za
      exact rfl
      exact fun _ hw => (p3 (hin.mono zk) hw)
      have hlen1 : (xs ++ [a.slot]).length = xs.length + 1 := by simp
      by_cases hgt : l.2.2 < (xs.length : Int) + 1
      · skip
        repeat' (first | (apply Uu; exact rfl; exact rfl; kernel_rfl) | (apply ZM (kt := 169) (et := 24) [a.c.2.2.2.2, a.frame, a.c.2.2.1, a.c.2.2.2.1]; exact rfl; exact rfl; exact zm; kernel_rfl; exact rfl; exact hF.ok.len; exact rfl; exact hfd2; exact YaX) | (apply Qx hU (kt := 169) (et := 24); exact rfl; exact rfl; kernel_rfl; exact rfl; exact hR; exact rfl; exact YaX; exact zd) | (apply Ze (l1 := rwV l1) (l2 := rwV l2) (k := keyA a); exact rfl; exact rfl; exact rfl; exact zd; exact hbir) | (apply Xy (kt := 169) (et := 24) (keyA a); exact rfl; exact rfl; exact zm; kernel_rfl; exact rfl; exact (hok2 _).len; exact rfl; exact hvg _) | refine zgd ?_ | (refine zgf ?_ ?_ <;> intro _ <;> try (exfalso; omega)) | (refine zgh ?_; intro _) | (refine zgi ?_; intro _ _) | fail)
        rename Option Addr => A'
        rename Nat => cap'
        refine Ur (e := 3) (size := 1) (A := A') (k := xs.length + 1) (cap := cap') (xs := xs.flatMap numF ++ #[Value.int .i64 a.slot].toList) zm (by omega) ?_
        intro gA eA
        subst eA
        apply YZ [0, 1, 2, 3, 4] [5] [true, true, true, true, true, true, true, true]
        kernel_rfl
        kernel_rfl
        exact zy
        (simp only [Yj, nthO]; rfl)
        (simp only [Yj, nthO]; rfl)
        repeat' (first | (apply Xy (kt := 169) (et := 24) (keyA a); exact rfl; exact rfl; exact zm; kernel_rfl; exact rfl; exact (hok2 _).len; exact rfl; exact hvg _) | (apply UT (kt := 169) (et := 24) (keyA a); exact rfl; exact rfl; exact rfl; kernel_rfl; exact rfl; exact hF.ok.len; exact zd; exact hfd) | refine zgd ?_ | fail)
        apply hK (j + 1, l1 ++ ⟨keyA a, some ⟨gA, 0, none⟩, cap', xs ++ [a.slot], b⟩ :: l2, c', F ++ [(keyA a, .slice (some ⟨gA, 0, none⟩) (xs.length + 1) cap', cF)], cF + 1)
        · refine ⟨by omega, by rw [XL]; exact hok2 _, ⟨hF.ok.snoc rfl _, fun e he => ?_⟩, hxl.2 _ _ _ (by omega), by rw [List.length_append]; simp; omega, ?_⟩
          · rcases List.mem_append.1 he with he | he
            · exact hF.sl e he
            · rw [List.mem_singleton.1 he]; exact ⟨_, _, _, rfl⟩
          · rw [htk]
            refine hI.lost hloss ho ?_ (hU.other _ _ _) (fun _ => ?_) (fun K hK => ?_)
            · rw [Vz hU.ne, hU.get, hlen1]
            · unfold Q5; rw [Ycc hfd, if_pos rfl]; rfl
            · unfold Q5 at hK ⊢
              rw [Ycc hfd]
              split
              · rfl
              · exact hK
        · dsimp only; omega
        · exact zu
        · intro w hw
          have h5 : St B w0 (sl 3 1 (some ⟨gA, 0, none⟩) (xs.length + 1) cap' (xs.flatMap numF ++ #[Value.int .i64 a.slot].toList) :: many (l1.map rwQ ++ l2.map rwQ) :: blk gR (vobj (rwV l1 ++ (keyA a, .slice (some ⟨gA, 0, none⟩) (xs.length + 1) cap', b) :: rwV l2) c') :: blk gF (vobj (F ++ [(keyA a, .slice (some ⟨gA, 0, none⟩) (xs.length + 1) cap', cF)]) (cF + 1)) :: blk gn (.cells #[.int .i64 n.nodes, .slice n.pA n.rows.length n.pcap, .int .i64 n.noise, .int .i64 n.thr, .slice n.lA n.links.length n.lcap, .slice n.mA n.margin.length n.mcap] 26 (0, 0)) :: [many H]) w := by
            revert w
            exact zk
          rw [ZQ] at h5
          have h7 := h5.perm (YaG (keyA a) _ _ _ b _)
          dsimp only
          rw [XL, hlen1]
          clear h5 hw
          revert w
          exact zk
      · skip
        repeat' (first | (apply Uu; exact rfl; exact rfl; kernel_rfl) | (apply ZM (kt := 169) (et := 24) [a.c.2.2.2.2, a.frame, a.c.2.2.1, a.c.2.2.2.1]; exact rfl; exact rfl; exact zm; kernel_rfl; exact rfl; exact hF.ok.len; exact rfl; exact hfd2; exact YaX) | (apply Qx hU (kt := 169) (et := 24); exact rfl; exact rfl; kernel_rfl; exact rfl; exact hR; exact rfl; exact YaX; exact zd) | (apply Ze (l1 := rwV l1) (l2 := rwV l2) (k := keyA a); exact rfl; exact rfl; exact rfl; exact zd; exact hbir) | (apply Xy (kt := 169) (et := 24) (keyA a); exact rfl; exact rfl; exact zm; kernel_rfl; exact rfl; exact (hok2 _).len; exact rfl; exact hvg _) | refine zgd ?_ | (refine zgf ?_ ?_ <;> intro _ <;> try (exfalso; omega)) | (refine zgh ?_; intro _) | (refine zgi ?_; intro _ _) | fail)
        rename Option Addr => A'
        rename Nat => cap'
        apply hK (j + 1, l1 ++ ⟨keyA a, A', cap', xs ++ [a.slot], b⟩ :: l2, c', F, cF)
        · refine ⟨by omega, by rw [XL]; exact hok2 _, hF, hxl.2 _ _ _ (by omega), Nat.le_succ_of_le hfl, ?_⟩
          rw [htk]
          refine hI.lost hloss ho ?_ (hU.other _ _ _) (fun h => ?_) (fun K hK => hK)
          · rw [Vz hU.ne, hU.get, hlen1]
          · rw [hU.get] at h
            exact absurd h hgt
        · dsimp only; omega
        · exact zu
        · intro w hw
          have h5 : St B w0 (sl 3 1 A' (xs.length + 1) cap' (xs.flatMap numF ++ #[Value.int .i64 a.slot].toList) :: many (l1.map rwQ ++ l2.map rwQ) :: blk gR (vobj (rwV l1 ++ (keyA a, .slice A' (xs.length + 1) cap', b) :: rwV l2) c') :: blk gF (vobj F cF) :: blk gn (.cells #[.int .i64 n.nodes, .slice n.pA n.rows.length n.pcap, .int .i64 n.noise, .int .i64 n.thr, .slice n.lA n.links.length n.lcap, .slice n.mA n.margin.length n.mcap] 26 (0, 0)) :: [many H]) w := by
            revert w
            exact zk
          rw [ZQ] at h5
          have h7 := h5.perm (YaG (keyA a) _ _ _ b _)
          dsimp only
          rw [XL, hlen1]
          clear h5 hw
          revert w
          exact zk
    repeat' (first | refine zgd ?_ | (refine zge ?_ ?_ <;> intro _ <;> try (exfalso; omega)) | (refine zgh ?_; intro _) | fail)
    rename_i ga gk
    first | apply Ya en95 | apply Yb en95
    exact za
    exact rfl
    exact fun _ hw => (p3 (hin.mono zk) hw)
    by_cases hneg : fi < 0
    · repeat' (first | refine zgc ?_ | (refine zge ?_ ?_ <;> intro _ <;> try (exfalso; omega)) | fail)
      apply hK (j + 1, R, cR, F, cF)
      · exact ⟨by omega, hR, hF, fun r hr => Nat.le_succ_of_le (hl r hr), Nat.le_succ_of_le hfl, by rw [htk]; exact hI.skip (.inl (by rw [hloss, if_neg (by omega)]))⟩
      · dsimp only; omega
      · exact zu
      · exact zk
    obtain ⟨ix, rfl⟩ : ∃ ix : Nat, fi = ix := ⟨fi.toNat, by omega⟩
    obtain ⟨l, hln⟩ : ∃ l, n.links[ix]? = some l := by
      have h1 := ZJ (n := n.net) (a := a.c.2.2.1) (b := a.c.2.2.2.1) (by rw [hfi]; omega)
      rw [hfi] at h1
      exact ⟨_, List.getElem?_eq_getElem h1⟩
    have hlk : (lnk n.net ix).2.2 = l.2.2 := by
      unfold lnk
      rw [List.getD_eq_getElem?_getD, show n.net.links = n.links from rfl, hln]
      rfl
    have hixl : ix < n.links.length := (List.getElem?_eq_some_iff.1 hln).1
    have hloss : OJ n.net (keyA a) = some l.2.2 := by rw [hloss, if_pos (by omega), ← hlk]; rfl
    have hkv : ∀ z, vget F (keyA a) = z → vget F [a.c.2.2.2.2, a.frame, a.c.2.2.1, a.c.2.2.2.1] = z := fun z h => h
    cases hfd : vget F (keyA a) with
    | some v0 =>
      have hfd2 := hkv _ hfd
      obtain ⟨g3, n3, c3, rfl⟩ : ∃ g3 n3 c3, v0 = .slice (some ⟨g3, 0, none⟩) n3 c3 := by
        obtain ⟨l1, b, l2, e, -⟩ := Jv hfd
        exact hF.sl (keyA a, v0, b) (by rw [e]; simp)
      repeat' (first | (apply Uu; exact rfl; exact rfl; kernel_rfl) | (apply Xy (kt := 169) (et := 24) [a.c.2.2.2.2, a.frame, a.c.2.2.1, a.c.2.2.2.1]; exact rfl; exact rfl; exact zm; kernel_rfl; exact rfl; exact hF.ok.len; exact rfl; exact hfd2) | refine zgc ?_ | (refine zge ?_ ?_ <;> intro _ <;> try (exfalso; omega)) | fail)
      apply hK (j + 1, R, cR, F, cF)
      · exact ⟨by omega, hR, hF, fun r hr => Nat.le_succ_of_le (hl r hr), Nat.le_succ_of_le hfl, by rw [htk]; exact hI.skip (.inr (by unfold Q5; rw [hfd]; rfl))⟩
      · dsimp only; omega
      · exact zu
      · exact zk
    | none =>
    have hfd2 := hkv _ hfd
    have ho : a.o = 1 := Classical.byContradiction fun h => hlost ⟨by omega, hfd, h⟩
    repeat' (first | (apply Uu; exact rfl; exact rfl; kernel_rfl) | (apply ZM (kt := 169) (et := 24) [a.c.2.2.2.2, a.frame, a.c.2.2.1, a.c.2.2.2.1]; exact rfl; exact rfl; exact zm; kernel_rfl; exact rfl; exact hF.ok.len; exact rfl; exact hfd2; exact YaX) | (apply YjJ hU (kt := 169) (et := 24) (v := .slice none 0 0); exact rfl; exact rfl; exact rfl; kernel_rfl; exact rfl; exact hR; exact zd) | refine zgc ?_ | (refine zgf ?_ ?_ <;> intro _ <;> try (exfalso; omega)) | fail)
    apply hK (j + 1, l1 ++ ⟨keyA a, none, 0, [], b⟩ :: l2, c', F, cF)
    · refine ⟨by omega, by rw [XL]; exact hU.ok rfl hR _, hF, hxl.2 none 0 [] (Nat.zero_le _), Nat.le_succ_of_le hfl, ?_⟩
      rw [htk]
      exact hI.acked ho (Vz hU.ne) (hU.other none 0 [])
    · dsimp only; omega
    · exact zu
    · intro w hw
      have h5 : St B w0 (many (R.map rwQ) :: blk gR (vobj (rwV l1 ++ (keyA a, .slice none 0 0, b) :: rwV l2) c') :: blk gF (vobj F cF) :: blk gn (.cells #[.int .i64 n.nodes, .slice n.pA n.rows.length n.pcap, .int .i64 n.noise, .int .i64 n.thr, .slice n.lA n.links.length n.lcap, .slice n.mA n.margin.length n.mcap] 26 (0, 0)) :: [many H]) w := by
        revert w
        exact zk
      have h6 : St B w0 (nrs none 0 [] :: many (l1.map rwQ ++ l2.map rwQ) :: blk gR (vobj (rwV l1 ++ (keyA a, .slice none 0 0, b) :: rwV l2) c') :: blk gF (vobj F cF) :: blk gn (.cells #[.int .i64 n.nodes, .slice n.pA n.rows.length n.pcap, .int .i64 n.noise, .int .i64 n.thr, .slice n.lA n.links.length n.lcap, .slice n.mA n.margin.length n.mcap] 26 (0, 0)) :: [many H]) w := ((hU.open_ h5).perm (.drop _ _)).nilSlice _ _
      have h7 := h6.perm (YaG (keyA a) none 0 [] b _)
      dsimp only
      rw [XL, List.length_nil]
      clear h5 h6 hw
      revert w
      exact zk
  obtain rfl : j = atts.length := by omega
  clear hK
  rw [List.take_length] at hI
  repeat' (first | (apply YgK (N := 4) (kt := 169) (et := 24) (g := gF); exact rfl; exact zm; kernel_rfl; exact rfl; intro _) | refine zgc ?_ | (refine zge ?_ ?_ <;> intro _ <;> try (exfalso; omega)) | fail)
  rename Nat => it
  refine Yl (fun (z : Array Nat × List BrM × Option Addr × Nat) => [(84, .pointer (some ⟨it, 0, none⟩)), (11, .slice z.2.2.1 z.2.1.length z.2.2.2)])
    (fun z => blk it (.mapIter (some gF) cF z.1 cF) :: blk gF (vobj F cF) :: brP z.2.2.1 z.2.2.2 z.2.1 :: [many H])
    (fun z => z.2.1.length + (F.filter fun x => !z.1.contains x.2.2).length ≤ F.length ∧ ∀ e ∈ F, z.1.contains e.2.2 = true → ∃ x ∈ z.2.1, [x.f, x.k, x.u, x.v] = e.1) (fun z => (F.filter fun x => !z.1.contains x.2.2).length) (#[], [], none, 0) ⟨by dsimp only; have := List.length_filter_le (fun x : KL × Value × Nat => !(#[] : Array Nat).contains x.2.2) F; simp only [List.length_nil]; omega, fun e _ h => by simp at h⟩ ?_ ?_ ?_
  · exact zu
  · intro w hw
    have h5 : St B w0 (blk it (.mapIter (some gF) cF #[] cF) :: blk gF (vobj F cF) :: [many H]) w := by
      revert w
      exact zk
    have h6 := h5.nilSlice 96 5
    exact h6.perm (.trans (.swap _ _ _) (.cons _ (.swap _ _ _)))
  rintro ⟨seen, out, A, cap⟩ ⟨hlen, hseen⟩ K hK
  dsimp only at hlen hseen ⊢
  repeat' (first | apply Zx | apply Yc8 | apply XH | fail)
  apply Yid (g := gF)
  · exact rfl
  · exact zm
  · exact rfl
  · intro _; exact zd
  · exact hF.ok.lt
  · exact Nat.le_refl _
  · intro hall
    clear hK
    have p5 := fun {H' : List HP} {w : World} (hin : ∀ w, St B w0 H' w → St B w0 (brP A cap out :: [many H]) w) (hw : St B w0 H' w) => YeE out (by omega) hin hw
    repeat' (first | refine zgd ?_ | fail)
    apply Yo _ en96
    exact za
    exact rfl
    exact fun _ hw => (p5 zk (hw))
    rintro _ _ ⟨rfl, l', hp, rfl⟩
    repeat' (first | refine zga ?_ | fail)
    apply Yi (brP A cap l' :: H)
    · intro w hw
      have h5 : St B w0 (brP A cap l' :: [many H]) w := by
        revert w
        exact zk
      exact h5.perm (.cons _ (.openT H))
    apply Yd; exact rfl; exact rfl
    refine ⟨l', A, cap, by rw [hp.length_eq], by rw [hp.length_eq]; omega, fun _ k b hb hbr => ?_, rfl⟩
    have h1 := hI.all hb hbr
    unfold Q5 at h1
    obtain ⟨v, hv⟩ := Option.isSome_iff_exists.1 h1
    obtain ⟨l1, bb, l2, e, -⟩ := Jv hv
    have hm : (k, v, bb) ∈ F := by rw [e]; simp
    obtain ⟨x, hx, hxk⟩ := hseen _ hm (hall _ hm)
    exact ⟨x, hp.mem_iff.2 hx, hxk⟩
  · rintro ⟨ek, ev, eb⟩ he hs
    simp only at hs ⊢
    obtain ⟨g3, n3, c3, rfl⟩ := hF.sl _ he
    have hek := hF.ok.len _ he
    obtain ⟨e1, e2, e3, e4, rfl⟩ : ∃ a b c d, ek = [a, b, c, d] := by
      match ek, hek with
      | [a, b, c, d], _ => exact ⟨a, b, c, d, rfl⟩
    repeat' (first | (apply YeZ (g := gF) (es := F) (bb := eb); exact rfl; exact zm; exact zm; exact rfl; exact he; exact hF.ok.nodup) | refine zgd ?_ | (refine zgh ?_; intro _) | (refine zgi ?_; intro _ _) | fail)
    rename Option Addr => A'
    rename Nat => cap'
    have e5 : sl 96 5 A' (out.length + 1) cap' (out.flatMap brF ++ #[Value.int .i64 e1, .int .i64 e2, .int .i64 e3, .int .i64 e4, .slice (some ⟨g3, 0, none⟩) n3 c3].toList) = brP A' cap' (out ++ [(⟨e1, e2, e3, e4, some ⟨g3, 0, none⟩, n3, c3⟩ : BrM)]) := by simp [brP, List.flatMap_append, brF]
    have hls := YfG (seen := seen) he hs
    dsimp only at hls
    apply hK (seen.push eb, out ++ [(⟨e1, e2, e3, e4, some ⟨g3, 0, none⟩, n3, c3⟩ : BrM)], A', cap')
    · refine ⟨by dsimp only; rw [List.length_append]; simp only [List.length_singleton]; omega, fun e he2 h => ?_⟩
      dsimp only at h ⊢
      rw [Array.contains_push] at h
      rcases Bool.or_eq_true _ _ ▸ h with h | h
      · obtain ⟨x, hx, hxe⟩ := hseen e he2 h
        exact ⟨x, List.mem_append.2 (.inl hx), hxe⟩
      · have : e = ([e1, e2, e3, e4], .slice (some ⟨g3, 0, none⟩) n3 c3, eb) := YgV hF.ok.nodup he2 he (by simpa using h)
        rw [this]
        exact ⟨_, List.mem_append.2 (.inr (List.mem_singleton.2 rfl)), rfl⟩
    · exact hls
    · dsimp only
      rw [show (out ++ [(⟨e1, e2, e3, e4, some ⟨g3, 0, none⟩, n3, c3⟩ : BrM)]).length = out.length + 1 by simp]
      exact zu
    · dsimp only
      rw [← e5]
      exact zk
end Go.Proofs.YtmalhidldgfeoaaGreatDoor
