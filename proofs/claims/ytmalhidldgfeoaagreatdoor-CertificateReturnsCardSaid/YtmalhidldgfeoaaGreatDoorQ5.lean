/- Lemmas for the claim, part 5. -/
import Derived.Test.YtmalhidldgfeoaaGreatDoorRows
import Derived.Lib.LaidU8
import Derived.LaidMore
import Derived.Deep.DeepLaidRun
import Derived.Stop.Joined
import Derived.Test.YtmalhidldgfeoaaGreatDoorQ4

namespace Go.Eng
open Go.RowKit
inductive OW where
  | done
  | z (i : Nat) (t : OW)
  | s (i : Nat) (t : OW)
  | e1 (i : Nat) (t : OW)
  | e2 (i : Nat) (t : OW) (j : Nat) (u : OW)
section
variable {P : Program} {n : Shp} {B : Nat} {w0 : World} {Q : Exit → Act → World → Prop} {env : Env} {H : List HP} {ops : Array Oper}
def ZM (P : Program) (ops : Array Oper) (Q : Exit → Act → World → Prop) (T : Nat → World → Prop) : Nat → Array Bool → Act → World → Prop
  | 0, listed, a, w => Region.ready .any ops listed = [] ∧ Q .normal a w
  | fuel + 1, listed, a, w =>
    (Region.ready .any ops listed = [] → Q .normal a w) ∧
    ∀ i ∈ Region.ready .any ops listed, wpOp P ops Q i (fun a' w' => T i w' ∧ ZM P ops Q T fuel (listed.setIfInBounds i true) a' w') a w
theorem Oa {T : Nat → World → Prop} : ∀ (fuel : Nat) (listed : Array Bool) (a : Act) (w : World), ZM P ops Q T fuel listed a w → wpAny P .any ops Q fuel listed a w
  | 0, _, _, _, h => h
  | fuel + 1, _, _, _, h => ⟨h.1, fun i hi => wpOp_mono (fun a' w' h' => Oa fuel _ a' w' h'.2) (h.2 i hi)⟩
theorem Uo {S : World → Prop} {T : Nat → World → Prop} {i : Nat} {oi : Oper} {v : Value} (hi : ops[i]? = some oi) (hsel : ∀ (j : Nat) (o : Oper) cs b, ops[j]? = some o → o.op ≠ .select cs b)
    (hQ : ∀ c (a : Act) (w : World), ¬ Q (.panic c) a w) :
    ∀ (fuel : Nat) (listed : Array Bool) (a : Act) (w : World), Closed ops listed → (∀ j, (∀ w, T j w → S w) ∨ listed.getD j false = true ∨ ∃ f, ancB ops f j i = true) →
      (∀ j oj, ops[j]? = some oj → j ≠ i → listed.getD j true = false → (∀ e ∈ oj.after, Region.binds .any e = true → e.on ≠ i) → oi.apart ops oj = true) →
      i ∈ Region.ready .any ops listed → YieldsIf P ops S oi v a → S w → T i w → (∀ w j, S w → T j w → T i w) →
      ZM P ops Q T fuel (listed.setIfInBounds i true) (a.put oi.dst v) w → ZM P ops Q T (fuel + 1) listed a w := by
  intro fuel
  induction fuel with
  | zero =>
    intro listed a w _ _ _ hr hy hS hT _ H
    refine ⟨fun h => (by rw [h] at hr; cases hr), fun j hj => ?_⟩
    by_cases hji : j = i
    · subst hji; exact hy.wpOp hi hS ⟨hT, H⟩
    · have := ready_mono hj hji
      rw [H.1] at this
      cases this
  | succ fuel ih =>
    intro listed a w hcl hlast hfree hr hy hS hT hTT H
    refine ⟨fun h => (by rw [h] at hr; cases hr), fun j hj => ?_⟩
    by_cases hji : j = i
    · subst hji; exact hy.wpOp hi hS ⟨hT, H⟩
    · have h1 := H.2 j (ready_mono hj hji)
      obtain ⟨hjun, oj, hoj, hall⟩ := mem_ready.1 hj
      have hun := (mem_ready.1 hr).1
      have hun' : listed.getD i false = false := by
        rcases Nat.lt_or_ge i listed.size with h' | h'
        · simp [h'] at hun ⊢; exact hun
        · simp [Array.getElem?_eq_none h'] at hun
      have hTS : ∀ w, T j w → S w := by
        rcases hlast j with h4 | h4 | ⟨f, hf⟩
        · exact h4
        · have h5 : listed.getD j true = true := by
            rcases Nat.lt_or_ge j listed.size with h' | h'
            · simp [h'] at h4 ⊢; exact h4
            · simp [Array.getElem?_eq_none h']
          rw [h5] at hjun; cases hjun
        · have := VP hcl f j i (fun ok hk e he hb => by
            obtain rfl : ok = oj := Option.some.inj (hk.symm.trans hoj)
            exact hall e he hb) hf
          rw [hun'] at this
          cases this
      have hnot : ∀ e ∈ oj.after, Region.binds .any e = true → e.on ≠ i := fun e he hb heq => by
        have h2 := hall e he hb
        rw [heq, hun'] at h2
        cases h2
      have h2 := wpOp_putIf hoj (hfree j oj hoj hji hjun hnot) (fun cs b => hsel i oi cs b hi) (fun cs b => hsel j oj cs b hoj) (fun c a w h => (hQ c _ w h).elim) hy h1
      have hfree' : ∀ k ok, ops[k]? = some ok → k ≠ i → (listed.setIfInBounds j true).getD k true = false →
          (∀ e ∈ ok.after, Region.binds .any e = true → e.on ≠ i) → oi.apart ops ok = true := fun k ok hk hki hu hno => by
        refine hfree k ok hk hki ?_ hno
        by_cases hjk : j = k
        · subst hjk; exact hjun
        · rw [getD_set_ne true hjk] at hu; exact hu
      refine wpOp_mono (fun a' w' h3 => ⟨h3.2.1, ih (listed.setIfInBounds j true) a' w' (hcl.set hj) (fun k => ?_) hfree' (ready_mono hr (Ne.symm hji)) h3.1 (hTS w' h3.2.1) (hTT w' j (hTS w' h3.2.1) h3.2.1) hTT ?_⟩) h2
      · rcases hlast k with h4 | h4 | h4
        · exact .inl h4
        · right; left
          by_cases hjk : j = k
          · subst hjk
            rcases Nat.lt_or_ge j listed.size with h' | h'
            · simp [h']
            · simp [Array.getElem?_eq_none h'] at hjun
          · rw [getD_set_ne false hjk]; exact h4
        · exact .inr (.inr h4)
      · rw [Array.setIfInBounds_comm _ _ hji]
        exact h3.2.2
theorem JY {T : Nat → World → Prop} (l : List Oper) (hl : ops = l.toArray) (hlo : ¬ LetsOut Q) :
    ∀ (o2 : List Nat) (listed : Array Bool) (a : Act) (w : World), (∀ j ∈ o2, (∃ o, ops[j]? = some o) ∧ ∀ w, T j w) → Zb ops o2 listed = true → wpList P ops Q (Yi l o2) a w → ZM P ops Q T o2.length listed a w
  | [], listed, a, w, _, hB, h => ⟨by simpa [Zb] using hB, h⟩
  | i :: rest, listed, a, w, hin, hB, h => by
    simp only [Zb, Bool.and_eq_true, decide_eq_true_eq] at hB
    obtain ⟨h1, h2⟩ := hB
    obtain ⟨⟨o, ho⟩, hT⟩ := hin i (by simp)
    have hget : nthO l i = o := YG hl ho
    simp only [Yi, hget] at h
    unfold wpList at h
    refine ⟨fun h0 => (by rw [h1] at h0; cases h0), fun k hk => ?_⟩
    rw [h1] at hk
    obtain rfl : k = i := by simpa using hk
    unfold wpOp
    simp only [ho]
    by_cases hw : Region.wanted o (yielded ops a.tmps) = true
    · rw [if_pos hw] at h ⊢
      rcases h with h | ⟨_, h⟩
      · exact .inl (Oper.wp_mono (fun a' w' h' => ⟨hT w', JY l hl hlo rest _ a' w' (fun j hj => hin j (by simp [hj])) h2 h'⟩) h)
      · exact (hlo h).elim
    · rw [if_neg hw] at h ⊢
      exact ⟨hT w, JY l hl hlo rest _ _ w (fun j hj => hin j (by simp [hj])) h2 h⟩
def W9 (P : Program) (ops : Array Oper) (l : List Oper) (Q : Exit → Act → World → Prop) (S0 : World → Prop) : List Nat → Act → World → Prop
  | [], a, w => Q .normal a w
  | i :: r, a, w => wpD P ops (fun a w => S0 w ∧ W9 P ops l Q S0 r a w) (nthO l i) a w
theorem YdL {T : Nat → World → Prop} {K : Act → World → Prop} {i k : Nat} {o : Oper} {listed : Array Bool} {a : Act} {w : World} (ho : ops[i]? = some o)
    (h : wpD P ops K o a w) (hk : ∀ a w, K a w → T i w ∧ ZM P ops Q T k (listed.setIfInBounds i true) a w) :
    wpOp P ops Q i (fun a' w' => T i w' ∧ ZM P ops Q T k (listed.setIfInBounds i true) a' w') a w := by
  unfold wpD at h
  unfold wpOp
  simp only [ho]
  by_cases hw : Region.wanted o (yielded ops a.tmps) = true
  · rw [if_pos hw] at h ⊢
    exact .inl (Oper.wp_mono_noQ (fun _ _ _ h => h) (by rintro ⟨_, _, h⟩; exact h) (Oper.wp_mono (fun a' w' h' => hk a' w' h') h))
  · rw [if_neg hw] at h ⊢
    exact hk _ w h
theorem OZ {S0 : World → Prop} {T : Nat → World → Prop} {tail : List Nat} (l : List Oper) (hl : ops = l.toArray) (hlo : ¬ LetsOut Q) (ht : ∀ j ∈ tail, (∃ o, ops[j]? = some o) ∧ ∀ w, T j w) :
    ∀ (mid : List Nat) (listed : Array Bool) (a : Act) (w : World), (∀ j ∈ mid, (∃ o, ops[j]? = some o) ∧ ∀ w, S0 w → T j w) → Zb ops (mid ++ tail) listed = true → W9 P ops l (XL P ops Q (Yi l tail)) S0 mid a w → ZM P ops Q T (mid ++ tail).length listed a w
  | [], listed, a, w, _, hB, h => JY l hl hlo tail listed a w ht hB h
  | i :: rest, listed, a, w, hin, hB, h => by
    rw [List.cons_append] at hB
    simp only [Zb, Bool.and_eq_true, decide_eq_true_eq] at hB
    obtain ⟨h1, h2⟩ := hB
    obtain ⟨⟨o, ho⟩, hT⟩ := hin i (by simp)
    have hget : nthO l i = o := YG hl ho
    unfold W9 at h
    rw [hget] at h
    refine ⟨fun h0 => (by rw [h1] at h0; cases h0), fun k hk => ?_⟩
    rw [h1] at hk
    obtain rfl : k = i := by simpa using hk
    exact YdL ho h fun a w hh => ⟨hT w hh.1, OZ l hl hlo ht rest _ a w (fun j hj => hin j (by simp [hj])) h2 hh.2⟩
def YY (P : Program) (ops : Array Oper) (l : List Oper) (Q : Exit → Act → World → Prop) (S0 S : World → Prop) (mid : List Nat) : OW → Act → World → Prop
  | .done, a, w => W9 P ops l Q S0 mid a w
  | .z i t, a, w => Yr P ops (fun e a w => match e with | .normal => YY P ops l Q S0 S mid t a w | _ => False) S0 [nthO l i] a w
  | .s i t, a, w => Yr P ops (fun e a w => match e with | .normal => YY P ops l Q S0 S mid t a w | _ => False) S [nthO l i] a w
  | .e1 i t, a, w => Yr P ops (fun e a w => match e with | .normal => YY P ops l Q S0 S mid t a w | _ => False) S [nthO l i] a w
  | .e2 i t j u, a, w => Yr P ops (fun e a w => match e with | .normal => YY P ops l Q S0 S mid t a w | _ => False) S [nthO l i] a w ∧ Yr P ops (fun e a w => match e with | .normal => YY P ops l Q S0 S mid u a w | _ => False) S [nthO l j] a w
def YaD (ops : Array Oper) (listed : Array Bool) (i : Nat) : Bool := match ops[i]? with
  | some o => !eff o && ((Region.ready .any ops listed).contains i && Region.free .any ops listed i)
  | none => false
def Zv (ops : Array Oper) (zs mid tail : List Nat) : OW → Array Bool → Nat → Bool
  | .done, listed, 0 => Zb ops (mid ++ tail) listed
  | .z i t, listed, k + 1 => zs.contains i && (tail.all fun j => ancB ops ops.size j i) && YaD ops listed i && Zv ops zs mid tail t (listed.setIfInBounds i true) k
  | .s i t, listed, k + 1 => ((zs ++ (mid ++ tail)).all fun j => listed.getD j false || ancB ops ops.size j i) && YaD ops listed i && Zv ops zs mid tail t (listed.setIfInBounds i true) k
  | .e1 i t, listed, k + 1 => Xw ops i && decide (Region.ready .any ops listed = [i]) && Zv ops zs mid tail t (listed.setIfInBounds i true) k
  | .e2 i t j u, listed, k + 1 => Xw ops i && Xw ops j && ((Region.ready .any ops listed).all fun x => x == i || x == j) && !(Region.ready .any ops listed).isEmpty && Zv ops zs mid tail t (listed.setIfInBounds i true) k && Zv ops zs mid tail u (listed.setIfInBounds j true) k
  | _, _, _ => false
def TW (S0 S : World → Prop) (zs mid tail : List Nat) (j : Nat) (w : World) : Prop := (tail.contains j = false → S0 w) ∧ (zs.contains j = false → (mid ++ tail).contains j = false → S w)
theorem UK {S : World → Prop} {T : Nat → World → Prop} {Q1 : Exit → Act → World → Prop} {i k : Nat} {o : Oper} {listed : Array Bool} {a : Act} {w : World} (ho : ops[i]? = some o) (he : eff o = true) (hT : ∀ w, S w → T i w)
    (hQ1 : ∀ e a w, e ≠ .normal → ¬ Q1 e a w) (hS : S w) (h : Yr P ops Q1 S [o] a w)
    (hk : ∀ a w, S w → Q1 .normal a w → ZM P ops Q T k (listed.setIfInBounds i true) a w) :
    wpOp P ops Q i (fun a' w' => T i w' ∧ ZM P ops Q T k (listed.setIfInBounds i true) a' w') a w := by
  unfold Yr at h
  rw [if_pos he] at h
  unfold wpOp
  simp only [ho]
  by_cases hw : Region.wanted o (yielded ops a.tmps) = true
  · rw [if_pos hw] at h ⊢
    refine .inl (Oper.wp_mono_noQ (fun c a w => hQ1 _ a w (by intro h; cases h)) (by rintro ⟨a, w, h⟩; exact hQ1 _ _ _ (by intro h; cases h) h) (Oper.wp_mono (fun a' w' h' => ?_) h))
    exact ⟨hT _ h'.1, hk a' w' h'.1 h'.2⟩
  · rw [if_neg hw] at h ⊢
    exact ⟨hT _ hS, hk _ w hS h⟩
theorem W8 {listed : Array Bool} {i : Nat} (h : YaD ops listed i = true) : ∃ o, ops[i]? = some o ∧ eff o = false ∧ i ∈ Region.ready .any ops listed ∧ Region.free .any ops listed i = true := by
  unfold YaD at h
  cases ho : ops[i]? with
  | none => rw [ho] at h; cases h
  | some o =>
    rw [ho] at h
    simp only [Bool.and_eq_true, Bool.not_eq_true'] at h
    exact ⟨o, rfl, h.1, by simpa using h.2.1, h.2.2⟩
theorem VV {i : Nat} (h : Xw ops i = true) : ∃ o, ops[i]? = some o ∧ eff o = true := by
  unfold Xw at h
  cases ho : ops[i]? with
  | none => rw [ho] at h; cases h
  | some o => rw [ho] at h; exact ⟨o, rfl, h⟩
theorem ON {l : List Nat} {j : Nat} (h : j ∈ l) (h2 : l.contains j = false) : False := by
  rw [List.contains_iff_mem.2 h] at h2; cases h2
theorem Xn {S0 S : World → Prop} {zs mid tail : List Nat} (hss : ∀ w, S w → S0 w) (hs : Region.noSelect ops = true) (hQ : ∀ c (a : Act) (w : World), ¬ Q (.panic c) a w) (hlo : ¬ LetsOut Q) (l : List Oper) (hl : ops = l.toArray)
    (hin : ∀ j ∈ mid ++ tail, ∃ o, ops[j]? = some o) :
    ∀ (t : OW) (k : Nat) (listed : Array Bool) (a : Act) (w : World), Closed ops listed → Zv ops zs mid tail t listed k = true → S w → YY P ops l (XL P ops Q (Yi l tail)) S0 S mid t a w →
      ZM P ops Q (TW S0 S zs mid tail) (k + (mid ++ tail).length) listed a w
  | .done, 0, listed, a, w, _, hB, _, h => by
    rw [Nat.zero_add]
    exact OZ l hl hlo (fun j hj => ⟨hin j (List.mem_append_right _ hj), fun w => ⟨fun h => (ON hj h).elim, fun _ h => (ON (List.mem_append_right mid hj) h).elim⟩⟩) mid listed a w (fun j hj => ⟨hin j (List.mem_append_left _ hj), fun w h0 => ⟨fun _ => h0, fun _ h => (ON (List.mem_append_left tail hj) h).elim⟩⟩) hB h
  | .done, _ + 1, _, _, _, _, hB, _, _ => by cases hB
  | .z _ _, 0, _, _, _, _, hB, _, _ => by cases hB
  | .s _ _, 0, _, _, _, _, hB, _, _ => by cases hB
  | .e1 _ _, 0, _, _, _, _, hB, _, _ => by cases hB
  | .e2 _ _ _ _, 0, _, _, _, _, hB, _, _ => by cases hB
  | .z i t, k + 1, listed, a, w, hcl, hB, hS, h => by
    simp only [Zv, Bool.and_eq_true] at hB
    obtain ⟨⟨⟨b1, b2⟩, b3⟩, b4⟩ := hB
    obtain ⟨o, ho, he, hr, hf⟩ := W8 b3
    unfold YY at h
    rw [YG hl ho] at h
    unfold Yr at h
    rw [if_neg (by rw [he]; simp)] at h
    obtain ⟨v, hy, h3⟩ := h
    rw [Nat.add_right_comm]
    refine Uo (S := S0) ho (Region.noSelect_spec hs) hQ _ listed a w hcl (fun j => ?_) (Region.free_spec ho hf) hr hy (hss w hS) ⟨fun _ => hss w hS, fun h => (by rw [b1] at h; cases h)⟩ (fun w j h0 _ => ⟨fun _ => h0, fun h => (by rw [b1] at h; cases h)⟩) (Xn hss hs hQ hlo l hl hin t k _ _ w (hcl.set hr) b4 hS h3)
    cases hj : tail.contains j with
    | false => exact .inl fun w hT => hT.1 hj
    | true => exact .inr (.inr ⟨_, List.all_eq_true.1 b2 j (List.contains_iff_mem.1 hj)⟩)
  | .s i t, k + 1, listed, a, w, hcl, hB, hS, h => by
    simp only [Zv, Bool.and_eq_true] at hB
    obtain ⟨⟨b2, b3⟩, b4⟩ := hB
    obtain ⟨o, ho, he, hr, hf⟩ := W8 b3
    unfold YY at h
    rw [YG hl ho] at h
    unfold Yr at h
    rw [if_neg (by rw [he]; simp)] at h
    obtain ⟨v, hy, h3⟩ := h
    rw [Nat.add_right_comm]
    refine Uo (S := S) ho (Region.noSelect_spec hs) hQ _ listed a w hcl (fun j => ?_) (Region.free_spec ho hf) hr hy hS ⟨fun _ => hss w hS, fun _ _ => hS⟩ (fun w j h0 _ => ⟨fun _ => hss w h0, fun _ _ => h0⟩) (Xn hss hs hQ hlo l hl hin t k _ _ w (hcl.set hr) b4 hS h3)
    have hmem : j ∈ zs ++ (mid ++ tail) → listed.getD j false = true ∨ ∃ f, ancB ops f j i = true := fun hj => by
      have := List.all_eq_true.1 b2 j hj
      rw [Bool.or_eq_true] at this
      rcases this with h | h
      · exact .inl h
      · exact .inr ⟨_, h⟩
    cases hj : zs.contains j with
    | true => exact .inr (hmem (List.mem_append_left _ (List.contains_iff_mem.1 hj)))
    | false =>
      cases hj2 : (mid ++ tail).contains j with
      | true => exact .inr (hmem (List.mem_append_right _ (List.contains_iff_mem.1 hj2)))
      | false => exact .inl fun w hT => hT.2 hj hj2
  | .e1 i t, k + 1, listed, a, w, hcl, hB, hS, h => by
    simp only [Zv, Bool.and_eq_true, decide_eq_true_eq] at hB
    obtain ⟨⟨b1, b2⟩, b3⟩ := hB
    obtain ⟨o, ho, he⟩ := VV b1
    unfold YY at h
    rw [YG hl ho] at h
    rw [Nat.add_right_comm]
    refine ⟨fun h0 => (by rw [b2] at h0; cases h0), fun j hj => ?_⟩
    have hj' := hj
    rw [b2] at hj
    obtain rfl : j = i := by simpa using hj
    exact UK ho he (fun w h => ⟨fun _ => hss w h, fun _ _ => h⟩) (fun e a w hne => by cases e <;> simp_all) hS h fun a w hS' h' => Xn hss hs hQ hlo l hl hin t k _ a w (hcl.set hj') b3 hS' h'
  | .e2 i t j u, k + 1, listed, a, w, hcl, hB, hS, h => by
    simp only [Zv, Bool.and_eq_true] at hB
    obtain ⟨⟨⟨⟨⟨b1, b2⟩, b5⟩, b6⟩, b7⟩, b8⟩ := hB
    obtain ⟨o, ho, he⟩ := VV b1
    obtain ⟨o', ho', he'⟩ := VV b2
    unfold YY at h
    rw [YG hl ho, YG hl ho'] at h
    rw [Nat.add_right_comm]
    refine ⟨fun h0 => (by rw [h0] at b6; cases b6), fun x hx => ?_⟩
    have h5 := List.all_eq_true.1 b5 x hx
    simp only [Bool.or_eq_true, beq_iff_eq] at h5
    rcases h5 with rfl | rfl
    · exact UK ho he (fun w h => ⟨fun _ => hss w h, fun _ _ => h⟩) (fun e a w hne => by cases e <;> simp_all) hS h.1 fun a w hS' h' => Xn hss hs hQ hlo l hl hin t k _ a w (hcl.set hx) b7 hS' h'
    · exact UK ho' he' (fun w h => ⟨fun _ => hss w h, fun _ _ => h⟩) (fun e a w hne => by cases e <;> simp_all) hS h.2 fun a w hS' h' => Xn hss hs hQ hlo l hl hin u k _ a w (hcl.set hx) b8 hS' h'
structure VW (P : Program) (n : Shp) (B : Nat) (w0 : World) (ops : Array Oper) (l : List Oper) (Q : Exit → Act → World → Prop) (mid : List Nat) (t : OW) (env : Env) (Hz Hc F : List HP) : Prop where
  run : ∀ a, Fits n a env → ∀ w, St B w0 (Hc ++ F) w → YY P ops l Q (St B w0 Hz) (St B w0 Hc) mid t a w
structure VM (P : Program) (n : Shp) (B : Nat) (w0 : World) (ops : Array Oper) (l : List Oper) (Q : Exit → Act → World → Prop) (mid : List Nat) (env : Env) (Hz H : List HP) : Prop where
  run : ∀ a, Fits n a env → ∀ w, St B w0 H w → W9 P ops l Q (St B w0 Hz) mid a w
def X8 (P : Program) (B : Nat) (w0 : World) (ops : Array Oper) (l : List Oper) (Q : Exit → Act → World → Prop) (mid : List Nat) (Hz Hc : List HP) (t : OW) : Exit → Act → World → Prop
  | .normal, a, w => YY P ops l Q (St B w0 Hz) (St B w0 Hc) mid t a w
  | _, _, _ => False
def MidQ (P : Program) (B : Nat) (w0 : World) (ops : Array Oper) (l : List Oper) (Q : Exit → Act → World → Prop) (mid : List Nat) (Hz : List HP) : Exit → Act → World → Prop
  | .normal, a, w => St B w0 Hz w ∧ W9 P ops l Q (St B w0 Hz) mid a w
  | _, _, _ => False
theorem Z6 {l : List Oper} {mid : List Nat} {Hz Hc : List HP} {t : OW} : X8 P B w0 ops l Q mid Hz Hc t = fun e a w => match e with | .normal => YY P ops l Q (St B w0 Hz) (St B w0 Hc) mid t a w | _ => False := by
  funext e a w
  cases e <;> rfl
theorem VW_z {l : List Oper} {mid : List Nat} {Hz Hc F HF Fz : List HP} {i : Nat} {t : OW} {o : Oper} (ho : nthO l i = o) (happ : App Hc F HF) (hp : Pull Hz HF Fz) (h : VL P (some (some Fz)) n B w0 ops (X8 P B w0 ops l Q mid Hz Hc t) [o] env Hz) : VW P n B w0 ops l Q mid (.z i t) env Hz Hc F := by
  refine ⟨fun a ha w hw => ?_⟩
  rw [← VY happ] at hw
  have h1 : Yr P ops (X8 P B w0 ops l Q mid Hz Hc t) (St B w0 Hz) [o] a w := h.run a ha w (hw.perm hp)
  unfold YY
  rw [ho, ← Z6]
  exact h1
theorem VW_s {l : List Oper} {mid : List Nat} {Hz Hc F : List HP} {i : Nat} {t : OW} {o : Oper} (ho : nthO l i = o) (h : VL P (some (some F)) n B w0 ops (X8 P B w0 ops l Q mid Hz Hc t) [o] env Hc) : VW P n B w0 ops l Q mid (.s i t) env Hz Hc F := by
  refine ⟨fun a ha w hw => ?_⟩
  have h1 : Yr P ops (X8 P B w0 ops l Q mid Hz Hc t) (St B w0 Hc) [o] a w := h.run a ha w hw
  unfold YY
  rw [ho, ← Z6]
  exact h1
theorem YhU {l : List Oper} {mid : List Nat} {Hz Hc F : List HP} {i : Nat} {t : OW} {o : Oper} (ho : nthO l i = o) (h : VL P (some (some F)) n B w0 ops (X8 P B w0 ops l Q mid Hz Hc t) [o] env Hc) : VW P n B w0 ops l Q mid (.e1 i t) env Hz Hc F := by
  refine ⟨fun a ha w hw => ?_⟩
  have h1 : Yr P ops (X8 P B w0 ops l Q mid Hz Hc t) (St B w0 Hc) [o] a w := h.run a ha w hw
  unfold YY
  rw [ho, ← Z6]
  exact h1
theorem YhK {l : List Oper} {mid : List Nat} {Hz Hc F : List HP} {i j : Nat} {t u : OW} {o o' : Oper} (ho : nthO l i = o) (ho' : nthO l j = o') (h : VL P (some (some F)) n B w0 ops (X8 P B w0 ops l Q mid Hz Hc t) [o] env Hc)
    (h' : VL P (some (some F)) n B w0 ops (X8 P B w0 ops l Q mid Hz Hc u) [o'] env Hc) : VW P n B w0 ops l Q mid (.e2 i t j u) env Hz Hc F := by
  refine ⟨fun a ha w hw => ?_⟩
  have h1 : Yr P ops (X8 P B w0 ops l Q mid Hz Hc t) (St B w0 Hc) [o] a w := h.run a ha w hw
  have h2 : Yr P ops (X8 P B w0 ops l Q mid Hz Hc u) (St B w0 Hc) [o'] a w := h'.run a ha w hw
  unfold YY
  rw [ho, ho', ← Z6, ← Z6]
  exact ⟨h1, h2⟩
theorem Ygq {l : List Oper} {mid : List Nat} {Hz Hc F HF : List HP} (happ : App Hc F HF) (h : VM P n B w0 ops l Q mid env Hz HF) : VW P n B w0 ops l Q mid .done env Hz Hc F :=
  ⟨fun a ha w hw => by rw [← VY happ] at hw; exact h.run a ha w hw⟩
theorem YfV {l : List Oper} {mid : List Nat} {Hz Hc F H' : List HP} {t : OW} (hp : Pull Hc H' F) (h : VW P n B w0 ops l Q mid t env Hz Hc F) : VQ n B w0 (X8 P B w0 ops l Q mid Hz Hc t) .normal env H' :=
  ⟨fun a w ha hw => h.run a ha w (hw.perm hp)⟩
theorem YeI {l : List Oper} {Hz : List HP} (h : VQ n B w0 Q .normal env H) : VM P n B w0 ops l Q [] env Hz H := ⟨fun a ha w hw => h.run a w ha hw⟩
theorem Yc9 {l : List Oper} {mid : List Nat} {Hz : List HP} {i : Nat} {o : Oper} (ho : nthO l i = o) (h : VL P none n B w0 ops (MidQ P B w0 ops l Q mid Hz) [o] env H) : VM P n B w0 ops l Q (i :: mid) env Hz H := by
  refine ⟨fun a ha w hw => ?_⟩
  have h1 : wpList P ops (MidQ P B w0 ops l Q mid Hz) [o] a w := h.run a ha w hw
  have hno : ¬ LetsOut (MidQ P B w0 ops l Q mid Hz) := by rintro ⟨_, _, h⟩; exact h
  unfold W9
  rw [ho]
  unfold wpList at h1
  unfold wpD
  by_cases hw : Region.wanted o (yielded ops a.tmps) = true
  · rw [if_pos hw] at h1 ⊢
    rcases h1 with h | ⟨_, h⟩
    · exact Oper.wp_mono_noQ (fun _ _ _ h => h) hno (Oper.wp_mono (fun a' w' h' => h') h)
    · exact (hno h).elim
  · rw [if_neg hw] at h1 ⊢
    exact h1
theorem YfA {l : List Oper} {mid : List Nat} {Hz F H' : List HP} (hp : Pull Hz H' F) (h : VM P n B w0 ops l Q mid env Hz H') : VQ n B w0 (MidQ P B w0 ops l Q mid Hz) .normal env H' :=
  ⟨fun a w ha hw => ⟨(hw.perm hp).prefix_, h.run a ha w hw⟩⟩
theorem YfT {id : Nat} {l : List Oper} (t : OW) (zs mid tail : List Nat) (mask maskz : List Bool) {Hc F Hz Fz : List HP} (hm : P.follows .mixedOrders = true)
    (hB : (Region.noSelect l.toArray && decide ((mid ++ tail).length ≤ l.toArray.size) && ((mid ++ tail).all fun j => decide (j < l.toArray.size)) && Zv l.toArray zs mid tail t (Array.replicate l.toArray.size false) (l.toArray.size - (mid ++ tail).length)) = true)
    (hsp : Split mask H Hc F) (hsz : Split maskz Hc Hz Fz) {l2 : List Oper} (hl2 : Yi l tail = l2) (h : VW P n B w0 l.toArray l (XL P l.toArray (Only Q) l2) mid t env Hz Hc F) : VC P n B w0 (.region id l.toArray true) Q env H := by
  simp only [Bool.and_eq_true, decide_eq_true_eq] at hB
  obtain ⟨⟨⟨h1, h2⟩, h3⟩, h5⟩ := hB
  refine ⟨fun a w ha hw => X3 (Q := Only Q) ?_ fun e a w h => by cases e <;> first | exact h | cases h⟩
  have hst : St B w0 (Hc ++ F) w.drew := (hw.perm (Y9 hsp)).drew
  have hr := h.run a ha w.drew hst
  rw [← hl2] at hr
  have := Xn (S0 := St B w0 Hz) (S := St B w0 Hc) (zs := zs) (fun w hw => (hw.perm (Y9 hsz)).prefix_) h1 (fun c a w h => h) (by rintro ⟨_, _, h⟩; exact h) l rfl (fun j hj => by
    have := List.all_eq_true.1 h3 j hj
    exact ⟨_, Array.getElem?_eq_getElem (of_decide_eq_true this)⟩) t _ _ a w.drew (Xr _ _) h5 hst.prefix_ hr
  rw [Nat.sub_add_cancel h2] at this
  exact Jx hm (Oa _ _ _ _ this)
end
open Go.RowKit
theorem Xk {P : Program} {m : Mode} {n : Shp} {B d : Nat} {w0 : World} {ops : Array Oper} {Q : Exit → Act → World → Prop} {rest : List Oper} {env : Env} {H : List HP} {ty : TypeId} {pos : String} {after : Array Edge} {x : Operand} {a : Addr} {j : Nat} (hx : evo env x = some (sptr (some a) j)) (hn : Nat.ble (d + 1) n.k = true) (h : VL P m n B w0 ops Q rest ((d, sptr (some a) j) :: env) H) :
    VL P m n B w0 ops Q (⟨some d, .nilCheck x, ty, pos, after, none⟩ :: rest) env H := Wd hx hn h
end Go.Eng
namespace Go.Proofs.YtmalhidldgfeoaaGreatDoor
open Go.RowKit Go.Eng Go.Nw Go.Rt
set_option maxHeartbeats 2000000 in
theorem YcY (ga g6 g5 i cap : Nat) (C : List ClM) (x : ClM) (hx : C[i]? = some x) (hxl : x.rs.length ≤ 1000) (lA : Option Addr) (lcap : Nat) (l : List Int) {B : Nat} {w0 : World} {H : List HP} {w : World}
    (hw : St B w0 (blk g6 (.cells #[sptr (some ⟨ga, 0, none⟩) (i * 5)] 249 (0, 0)) :: blk g5 (.cells #[.slice lA l.length lcap] 24 (0, 0)) :: sl 61 5 (some ⟨ga, 0, none⟩) C.length cap (C.flatMap clF) :: sl 72 1 x.rA x.rs.length x.rcap (x.rs.flatMap rowF) :: H) w) :
    Calls Tryz.prog 201 [.pointer (some ⟨g6, 0, none⟩), .pointer (some ⟨g5, 0, none⟩)].toArray w (Post B w0 fun v K => v = .tuple #[] ∧ ∃ A' cap', K = blk g6 (.cells #[sptr (some ⟨ga, 0, none⟩) (i * 5)] 249 (0, 0)) :: blk g5 (.cells #[.slice lA l.length lcap] 24 (0, 0)) :: sl 61 5 (some ⟨ga, 0, none⟩) C.length cap ((C.set i { x with rA := A', rcap := cap', rs := x.rs ++ [⟨lA, lcap, l⟩] }).flatMap clF) :: sl 72 1 A' (x.rs ++ [(⟨lA, lcap, l⟩ : RowM)]).length cap' ((x.rs ++ [(⟨lA, lcap, l⟩ : RowM)]).flatMap rowF) :: H) := by
  refine Yd Tryz.func201 Tryz.ntmps201 rfl rfl hw ?_
  have hi := (List.getElem?_eq_some_iff.1 hx).1
  repeat' (first | fail)
  apply JQ [0, 1, 2, 3, 4, 5, 6, 7] [8, 9, 10] [true, true, true]
  kernel_rfl
  kernel_rfl
  exact zy
  (simp only [Yi, nthO]; rfl)
  (simp only [Yi, nthO]; rfl)
  repeat' (first | (apply Xk; exact rfl; exact rfl) | (apply zg2; refine zs58 ?_) | (apply zg3; first | refine zs7 ?_ | refine zs59 ?_) | (apply zg21; (refine zs49 ?_; intro _ _)) | (apply zg26; (refine zs56 ?_; intro _)) | apply (zs65 ?_) | (apply Yp; exact zp) | apply (zs87 ?_) | (apply Ym; (repeat (first | with_reducible exact Yh | (with_reducible apply Yg; (repeat (first | with_reducible exact Yf | with_reducible apply Ye)))))) | apply (zs93 ?_) | fail)
  rename_i A' cap'
  apply XG T (f := clF) (l := C) (i := i) (q := 5) (o := 1) (b := x) (b' := { x with rA := A', rcap := cap', rs := x.rs ++ [⟨lA, lcap, l⟩] }); exact rfl; exact rfl; exact rfl; exact zd; exact hx; (simp [clF]); exact fun _ => rfl; exact rfl; exact rfl
  repeat' (first | apply (zs65 ?_) | apply (zs94 ?_) | fail)
  have q1 : sl 72 1 A' (x.rs.length + 1) cap' (x.rs.flatMap rowF ++ #[Value.slice lA l.length lcap].toList) = sl 72 1 A' (x.rs ++ [(⟨lA, lcap, l⟩ : RowM)]).length cap' ((x.rs ++ [(⟨lA, lcap, l⟩ : RowM)]).flatMap rowF) := V6 _ _ _ _ ⟨lA, lcap, l⟩
  rw [q1]
  apply Yj (blk g6 (.cells #[sptr (some ⟨ga, 0, none⟩) (i * 5)] 249 (0, 0)) :: blk g5 (.cells #[.slice lA l.length lcap] 24 (0, 0)) :: sl 61 5 (some ⟨ga, 0, none⟩) C.length cap ((C.set i { x with rA := A', rcap := cap', rs := x.rs ++ [⟨lA, lcap, l⟩] }).flatMap clF) :: sl 72 1 A' (x.rs ++ [(⟨lA, lcap, l⟩ : RowM)]).length cap' ((x.rs ++ [(⟨lA, lcap, l⟩ : RowM)]).flatMap rowF) :: H)
  · clear q1
    exact zk
  apply XW; exact rfl
  exact ⟨rfl, A', cap', rfl⟩
set_option maxHeartbeats 2000000 in
theorem Ycz (ga g6 g5 i cap : Nat) (C : List ClM) (x : ClM) (hx : C[i]? = some x) (hxl : x.ss.length ≤ 1000) (lA : Option Addr) (lcap : Nat) (l : List Int) {B : Nat} {w0 : World} {H : List HP} {w : World}
    (hw : St B w0 (blk g6 (.cells #[sptr (some ⟨ga, 0, none⟩) (i * 5)] 249 (0, 0)) :: blk g5 (.cells #[.slice lA l.length lcap] 24 (0, 0)) :: sl 61 5 (some ⟨ga, 0, none⟩) C.length cap (C.flatMap clF) :: sl 24 1 x.sA x.ss.length x.scap (x.ss.flatMap rowF) :: H) w) :
    Calls Tryz.prog 203 [.pointer (some ⟨g6, 0, none⟩), .pointer (some ⟨g5, 0, none⟩)].toArray w (Post B w0 fun v K => v = .tuple #[] ∧ ∃ A' cap', K = blk g6 (.cells #[sptr (some ⟨ga, 0, none⟩) (i * 5)] 249 (0, 0)) :: blk g5 (.cells #[.slice lA l.length lcap] 24 (0, 0)) :: sl 61 5 (some ⟨ga, 0, none⟩) C.length cap ((C.set i { x with sA := A', scap := cap', ss := x.ss ++ [⟨lA, lcap, l⟩] }).flatMap clF) :: sl 24 1 A' (x.ss ++ [(⟨lA, lcap, l⟩ : RowM)]).length cap' ((x.ss ++ [(⟨lA, lcap, l⟩ : RowM)]).flatMap rowF) :: H) := by
  refine Yd Tryz.func203 Tryz.ntmps203 rfl rfl hw ?_
  have hi := (List.getElem?_eq_some_iff.1 hx).1
  repeat' (first | fail)
  apply JQ [0, 1, 2, 3, 4, 5, 6, 7] [8, 9, 10] [true, true, true]
  kernel_rfl
  kernel_rfl
  exact zy
  (simp only [Yi, nthO]; rfl)
  (simp only [Yi, nthO]; rfl)
  repeat' (first | (apply Xk; exact rfl; exact rfl) | (apply zg2; refine zs58 ?_) | (apply zg3; first | refine zs7 ?_ | refine zs59 ?_) | (apply zg21; (refine zs49 ?_; intro _ _)) | (apply zg26; (refine zs56 ?_; intro _)) | apply (zs65 ?_) | (apply Yp; exact zp) | apply (zs87 ?_) | (apply Ym; (repeat (first | with_reducible exact Yh | (with_reducible apply Yg; (repeat (first | with_reducible exact Yf | with_reducible apply Ye)))))) | apply (zs93 ?_) | fail)
  rename_i A' cap'
  apply XG T (f := clF) (l := C) (i := i) (q := 5) (o := 4) (b := x) (b' := { x with sA := A', scap := cap', ss := x.ss ++ [⟨lA, lcap, l⟩] }); exact rfl; exact rfl; exact rfl; exact zd; exact hx; (simp [clF]); exact fun _ => rfl; exact rfl; exact rfl
  repeat' (first | apply (zs65 ?_) | apply (zs94 ?_) | fail)
  have q1 : sl 24 1 A' (x.ss.length + 1) cap' (x.ss.flatMap rowF ++ #[Value.slice lA l.length lcap].toList) = sl 24 1 A' (x.ss ++ [(⟨lA, lcap, l⟩ : RowM)]).length cap' ((x.ss ++ [(⟨lA, lcap, l⟩ : RowM)]).flatMap rowF) := V6 _ _ _ _ ⟨lA, lcap, l⟩
  rw [q1]
  apply Yj (blk g6 (.cells #[sptr (some ⟨ga, 0, none⟩) (i * 5)] 249 (0, 0)) :: blk g5 (.cells #[.slice lA l.length lcap] 24 (0, 0)) :: sl 61 5 (some ⟨ga, 0, none⟩) C.length cap ((C.set i { x with sA := A', scap := cap', ss := x.ss ++ [⟨lA, lcap, l⟩] }).flatMap clF) :: sl 24 1 A' (x.ss ++ [(⟨lA, lcap, l⟩ : RowM)]).length cap' ((x.ss ++ [(⟨lA, lcap, l⟩ : RowM)]).flatMap rowF) :: H)
  · clear q1
    exact zk
  apply XW; exact rfl
  exact ⟨rfl, A', cap', rfl⟩
set_option maxRecDepth 10000 in
set_option maxHeartbeats 4000000 in
theorem YcO (ga g6 g5 i cap : Nat) (C : List ClM) (x : ClM) (hx : C[i]? = some x) (hxl : x.bs.length ≤ 1000 ∧ x.ws.length ≤ 1000) (lA : Option Addr) (lcap : Nat) (l : List Int) (v0 v1 : Int) (h0 : l[0]? = some v0) (h1 : l[1]? = some v1) {B : Nat} {w0 : World} {H : List HP} {w : World}
    (hw : St B w0 (blk g6 (.cells #[sptr (some ⟨ga, 0, none⟩) (i * 5)] 249 (0, 0)) :: blk g5 (.cells #[.slice lA l.length lcap] 24 (0, 0)) :: sl 61 5 (some ⟨ga, 0, none⟩) C.length cap (C.flatMap clF) :: nrs x.bA x.bcap x.bs :: nrs x.wA x.wcap x.ws :: nrs lA lcap l :: H) w) :
    Calls Tryz.prog 202 [.pointer (some ⟨g6, 0, none⟩), .pointer (some ⟨g5, 0, none⟩)].toArray w (Post B w0 fun v K => v = .tuple #[] ∧ ∃ A1 c1 A2 c2, K = blk g6 (.cells #[sptr (some ⟨ga, 0, none⟩) (i * 5)] 249 (0, 0)) :: blk g5 (.cells #[.slice lA l.length lcap] 24 (0, 0)) :: sl 61 5 (some ⟨ga, 0, none⟩) C.length cap ((C.set i { x with bA := A1, bcap := c1, bs := x.bs ++ [v0], wA := A2, wcap := c2, ws := x.ws ++ [v1] }).flatMap clF) :: nrs A1 c1 (x.bs ++ [v0]) :: nrs A2 c2 (x.ws ++ [v1]) :: nrs lA lcap l :: H) := by
  refine Yd Tryz.func202 Tryz.ntmps202 rfl rfl hw ?_
  have hi := (List.getElem?_eq_some_iff.1 hx).1
  have hl := (List.getElem?_eq_some_iff.1 h1).1
  repeat' (first | fail)
  apply YfT (.z 1 (.s 0 (.s 2 (.s 3 (.s 4 (.s 5 (.s 6 (.s 7 (.s 8 (.s 11 (.s 12 (.s 13 (.s 14 (.s 15 (.s 16 (.s 17 (.e2 9 (.e2 10 (.e1 18 (.e1 19 .done)) 18 (.e1 10 (.e1 19 .done))) 18 (.e1 9 (.e1 10 (.e1 19 .done)))))))))))))))))))) [1] [20, 21, 22] [23, 24, 25] [true, true, true, false, false, true] [true, true, false, true]
  kernel_rfl
  kernel_rfl
  exact zy
  exact zy
  (simp only [Yi, nthO]; rfl)
  repeat' (first | (apply Xk; exact rfl; exact rfl) | (apply VW_z; (simp only [nthO]; rfl); exact zp; (repeat (first | with_reducible exact Yh | (with_reducible apply Yg; (repeat (first | with_reducible exact Yf | with_reducible apply Ye)))))) | (apply VW_s; (simp only [nthO]; rfl)) | (apply YhU; (simp only [nthO]; rfl)) | (apply YhK; (simp only [nthO]; rfl); (simp only [nthO]; rfl)) | (apply YfV; (repeat (first | with_reducible exact Yh | (with_reducible apply Yg; (repeat (first | with_reducible exact Yf | with_reducible apply Ye)))))) | (apply Ygq; exact zp) | (apply Yc9; (simp only [nthO]; rfl)) | (apply YfA; (repeat (first | with_reducible exact Yh | (with_reducible apply Yg; (repeat (first | with_reducible exact Yf | with_reducible apply Ye)))))) | (apply YeI) | (apply zg2; refine zs58 ?_) | (apply zg3; first | refine zs7 ?_ | refine zs59 ?_ | refine zs60 ?_) | (apply zg5; refine zs10 ?_) | (apply zg21; (refine zs49 ?_; intro _ _)) | (apply zg26; (refine zs56 ?_; intro _)) | apply (zs65 ?_) | (apply Yp; exact zp) | apply (zs87 ?_) | (apply Ym; (repeat (first | with_reducible exact Yh | (with_reducible apply Yg; (repeat (first | with_reducible exact Yf | with_reducible apply Ye)))))) | fail)
  all_goals (
    first
      | (rename_i A1 c1 g A2 c2; guard_hyp g : Nat; guard_hyp A1 : Option Addr)
      | (rename_i A1 c1 A2 c2; guard_hyp A1 : Option Addr)
    apply XG T (f := clF) (l := C) (i := i) (q := 5) (o := 2) (b := x) (b' := { x with bA := A1, bcap := c1, bs := x.bs ++ [v0] }); exact rfl; exact rfl; exact rfl; exact zd; exact hx; (simp [clF]); exact fun _ => rfl; exact rfl; exact rfl
    obtain ⟨C2, hC2⟩ : ∃ C2, C.set i { x with bA := A1, bcap := c1, bs := x.bs ++ [v0] } = C2 := ⟨_, rfl⟩
    have hl2 : C2.length = C.length := by rw [← hC2, List.length_set]
    have hx2 : C2[i]? = some { x with bA := A1, bcap := c1, bs := x.bs ++ [v0] } := by rw [← hC2, List.getElem?_set_self hi]
    rw [hC2]
    repeat' (first | (apply Xk; exact rfl; exact rfl) | (apply Yc9; (simp only [nthO]; rfl)) | (apply YfA; (repeat (first | with_reducible exact Yh | (with_reducible apply Yg; (repeat (first | with_reducible exact Yf | with_reducible apply Ye)))))) | (apply YeI) | (apply zg2; refine zs58 ?_) | apply (zs65 ?_) | apply (zs93 ?_) | fail)
    apply XG T (f := clF) (l := C2) (i := i) (q := 5) (o := 3) (b := { x with bA := A1, bcap := c1, bs := x.bs ++ [v0] }) (b' := { x with bA := A1, bcap := c1, bs := x.bs ++ [v0], wA := A2, wcap := c2, ws := x.ws ++ [v1] }); exact rfl; exact rfl; exact rfl; exact zd; exact hx2; (simp [clF]); exact fun _ => rfl; exact rfl; exact rfl
    repeat' (first | apply (zs65 ?_) | apply (zs94 ?_) | fail)
    rw [Jf, Jf, ← hC2, List.set_set]
    apply Yj (blk g6 (.cells #[sptr (some ⟨ga, 0, none⟩) (i * 5)] 249 (0, 0)) :: blk g5 (.cells #[.slice lA l.length lcap] 24 (0, 0)) :: sl 61 5 (some ⟨ga, 0, none⟩) C.length cap ((C.set i { x with bA := A1, bcap := c1, bs := x.bs ++ [v0], wA := A2, wcap := c2, ws := x.ws ++ [v1] }).flatMap clF) :: nrs A1 c1 (x.bs ++ [v0]) :: nrs A2 c2 (x.ws ++ [v1]) :: nrs lA lcap l :: H)
    · exact zk
    apply XW; exact rfl
    exact ⟨rfl, A1, c1, A2, c2, rfl⟩)
open Go.RowKit Go.Eng Go.Nw Go.Rt
theorem JT {α : Type} (f : α → HP) (l : List α) (r : α) (H : List HP) : Perm (many ((l ++ [r]).map f) :: H) (f r :: many (l.map f) :: H) := by
  have := Perm.pull (f r) (l.map f) [] H
  rw [List.append_nil] at this
  rw [List.map_append]
  exact this
def Few2 (x : Clm) : Prop := x.routes.length ≤ 2 ∧ x.bounds.length ≤ 2 ∧ x.worst.length ≤ 2 ∧ x.slots.length ≤ 2
theorem Ygz {p : Pst} (h : Rdr p) : ∀ x ∈ p.c, Few2 x := by
  intro x hx
  obtain ⟨i, hi⟩ := List.mem_iff_getElem?.1 hx
  have hl := (List.getElem?_eq_some_iff.1 hi).1
  by_cases hi2 : i + 1 < p.c.length
  · have := h.full i x hi hi2
    unfold Few2
    omega
  · obtain ⟨cs, y, hc⟩ := V5 (l := p.c) (fun e => by rw [e] at hl; simp at hl)
    have hcl : p.c.length = cs.length + 1 := by rw [hc]; simp
    have e : x = y := by
      rw [hc, List.getElem?_append_right (by omega), show i - cs.length = 0 by omega] at hi
      exact (Option.some.inj hi).symm
    subst e
    unfold Few2
    rcases h.at_ cs x hc with h | h | h | h
    · obtain ⟨_, h1, h2, h3, h4⟩ := h
      rw [h1, h2, h3, h4]
      simp
    · omega
    · omega
    · omega
theorem Yge {p : Pst} (h : Rdr p) {k : Nat} (hk : k ≠ 0) (hk4 : k < 4) (hf : Zc p k = true) : p.c ≠ [] := by
  intro e
  have h3 := h.some_ e
  unfold Zc YV at hf
  rw [e, h3] at hf
  simp [hk] at hf
  omega
theorem Ye0 (k : Nat) (l : List Int) (c : List Clm) : (X0 k l c).length ≤ c.length + 1 := by
  unfold X0 WO
  split
  · simp
  · rw [List.length_append, List.length_take, List.length_singleton]; omega
theorem YbS : ∀ (ls : List (List UInt8)) {p p' : Pst}, runL ls p = some p' → p'.c.length ≤ p.c.length + ls.length
  | [], p, p', h => by cases h; simp
  | x :: ls, p, p', h => by
    unfold runL at h
    split at h
    · cases h
    rename_i q hq
    have h1 := YbS ls h
    obtain ⟨k, l, _, _, _, _, _, rfl⟩ := QJ hq
    have h2 := Ye0 k l p.c
    rw [List.length_cons]
    dsimp only at h1
    omega
theorem Ygk {k : Nat} : J6 k ≤ 64 := by unfold J6; split; omega; split; omega; split <;> omega
open Go.RowKit Go.Eng Go.Nw Go.Rt
theorem Ydo {C : List ClM} {last : Nat} (h : Rdr ⟨C.map ClM.clm, last⟩) : ∀ c ∈ C, c.rs.length ≤ 2 ∧ c.bs.length ≤ 2 ∧ c.ws.length ≤ 2 ∧ c.ss.length ≤ 2 := fun c hc => by
  have h1 := Ygz h c.clm (List.mem_map_of_mem hc)
  unfold Few2 ClM.clm at h1
  simp only [List.length_map] at h1
  exact h1
def XS (C : List ClM) : Prop := ∀ c ∈ C, (∀ r ∈ c.rs, r.xs.length ≤ 64) ∧ ∀ r ∈ c.ss, r.xs.length ≤ 64
def Ug (H : List HP) (g last k : Nat) (l : List Int) (C : List ClM) (v : Value) (K : List HP) : Prop := v = .tuple #[] ∧ ∃ A' cap' C', C'.map ClM.clm = X0 k l (C.map ClM.clm) ∧ XS C' ∧ K = rdrA g A' cap' C' last :: clsP A' cap' C' :: many (C'.map clQ) :: H
theorem UW (Cs : List ClM) (x y : ClM) : (Cs ++ [x]).set Cs.length y = Cs ++ [y] := by simp
theorem UP {Cs : List ClM} {x : ClM} (h : XS (Cs ++ [x])) (y : ClM) (hy : (∀ r ∈ y.rs, r.xs.length ≤ 64) ∧ ∀ r ∈ y.ss, r.xs.length ≤ 64) : XS (Cs ++ [y]) := fun c hc => by
  rcases List.mem_append.1 hc with h1 | h1
  · exact h c (List.mem_append_left _ h1)
  · rw [List.mem_singleton.1 h1]; exact hy
theorem Ybl {l : List RowM} {r : RowM} (h : ∀ x ∈ l, x.xs.length ≤ 64) (hr : r.xs.length ≤ 64) : ∀ x ∈ l ++ [r], x.xs.length ≤ 64 := fun x hx => by
  rcases List.mem_append.1 hx with h1 | h1
  · exact h x h1
  · rw [List.mem_singleton.1 h1]; exact hr
theorem UX {k : Nat} (hk : k ≠ 0) (l : List Int) (Cs : List ClM) (x y : ClM) (h : y.clm = YJ k l x.clm) : (Cs ++ [y]).map ClM.clm = X0 k l ((Cs ++ [x]).map ClM.clm) := by
  unfold X0
  rw [if_neg hk, List.map_append, List.map_append, List.map_singleton, List.map_singleton, (YN _ _).1, (YN _ _).2, h]
set_option maxHeartbeats 2000000 in
theorem YcU (g : Nat) (A : Option Addr) (cap : Nat) (C : List ClM) (last : Nat) (lA : Option Addr) (lcap : Nat) (l : List Int) (v0 : Int) (h0 : l[0]? = some v0) (hC : C.length ≤ 1000000) (hrow : XS C) {B : Nat} {w0 : World} {H : List HP} {w : World}
    (hw : St B w0 (rdrA g A cap C last :: clsP A cap C :: many (C.map clQ) :: nrs lA lcap l :: H) w) :
    Calls Tryz.prog 145 [.pointer (some ⟨g, 0, none⟩), .int .i64 (0 : Nat), .slice lA l.length lcap].toArray w (Post B w0 (Ug H g last 0 l C)) := by
  refine Yd Tryz.func145 Tryz.ntmps145 rfl rfl hw ?_
  have hl1 := (List.getElem?_eq_some_iff.1 h0).1
  repeat' (first | apply (zs1 ?_) | (apply zg7; (refine zs15 ?_ ?_ <;> intro _ <;> try (exfalso; omega))) | (apply zg23; (refine zs53 ?_; intro _)) | apply (zs65 ?_) | apply (zs68 ?_) | apply (zs69 ?_) | apply (zs70 ?_) | (apply zg27; refine zs71 ?_) | fail)
  apply JQ [0, 1, 2, 3, 4, 5, 6, 7, 8, 9, 10] [11, 12, 13] [true, true, false, false, true]
  kernel_rfl
  kernel_rfl
  exact zy
  (simp only [Yi, nthO]; rfl)
  (simp only [Yi, nthO]; rfl)
  repeat' (first | (apply Xk; exact rfl; exact rfl) | apply (zs1 ?_) | apply (zs5 ?_) | (apply zg2; refine zs6 ?_) | (apply zg3; first | refine zs7 ?_ | refine zs60 ?_) | (apply zg5; refine zs10 ?_) | (apply zg21; (refine zs49 ?_; intro _ _)) | (apply zg22; refine zs50 ?_) | (apply zg25; refine zs55 ?_) | (apply zg26; (refine zs56 ?_; intro _)) | apply (zs65 ?_) | (apply Yp; exact zp) | apply (zs68 ?_) | apply (zs74 ?_) | apply (zs77 ?_) | apply (zs87 ?_) | (apply Ym; (repeat (first | with_reducible exact Yh | (with_reducible apply Yg; (repeat (first | with_reducible exact Yf | with_reducible apply Ye)))))) | apply (zs93 ?_) | apply (zs94 ?_) | fail)
  rename_i A' cap'
  have q1 : sl 61 5 A' (C.length + 1) cap' (C.flatMap clF ++ #[Value.int .i64 v0, .slice none 0 0, .slice none 0 0, .slice none 0 0, .slice none 0 0].toList) = clsP A' cap' (C ++ [nilC v0]) := Ybt _ _ _ (nilC v0)
  rw [q1, show C.length + 1 = (C ++ [nilC v0]).length by simp]
  apply Yj (rdrA g A' cap' (C ++ [nilC v0]) last :: clsP A' cap' (C ++ [nilC v0]) :: many ((C ++ [nilC v0]).map clQ) :: H)
  · clear q1
    intro w hw
    have h5 : St B w0 (many (C.map clQ) :: rdrA g A' cap' (C ++ [nilC v0]) last :: clsP A' cap' (C ++ [nilC v0]) :: H) w := by
      revert w
      exact zk
    have h6 := (Oz v0 h5).perm (Zz clQ C (nilC v0) _)
    exact h6.perm ((Perm.swap _ _ _).trans (.cons _ (.swap _ _ _)))
  apply V4; exact rfl
  refine ⟨rfl, A', cap', C ++ [nilC v0], ?_, ?_, rfl⟩
  · rw [List.map_append]
    unfold X0
    rw [if_pos rfl, List.getD_eq_getElem?_getD, h0]
    rfl
  · intro c hc
    rcases List.mem_append.1 hc with h1 | h1
    · exact hrow c h1
    · rw [List.mem_singleton.1 h1]
      unfold nilC
      simp
set_option maxHeartbeats 4000000 in
theorem Yco (g : Nat) (A : Option Addr) (cap : Nat) (Cs : List ClM) (x : ClM) (last : Nat) (lA : Option Addr) (lcap : Nat) (l : List Int) (hC : (Cs ++ [x]).length ≤ 1000000) (hx : x.rs.length ≤ 1000) (hrow : XS (Cs ++ [x])) (hl : l.length ≤ 64) {B : Nat} {w0 : World} {H : List HP} {w : World}
    (hw : St B w0 (rdrA g A cap (Cs ++ [x]) last :: clsP A cap (Cs ++ [x]) :: many ((Cs ++ [x]).map clQ) :: nrs lA lcap l :: H) w) :
    Calls Tryz.prog 145 [.pointer (some ⟨g, 0, none⟩), .int .i64 (1 : Nat), .slice lA l.length lcap].toArray w (Post B w0 (Ug H g last 1 l (Cs ++ [x]))) := by
  refine Yd Tryz.func145 Tryz.ntmps145 rfl rfl hw ?_
  refine YaB (e := 61) (size := 5) (A := A) (k := (Cs ++ [x]).length) (cap := cap) (xs := (Cs ++ [x]).flatMap clF) zm (by simp) ?_
  rintro ga rfl
  have hrx := hrow x (by simp)
  obtain ⟨C, hCe⟩ : ∃ C, Cs ++ [x] = C := ⟨_, rfl⟩
  have hn : C.length = Cs.length + 1 := by rw [← hCe]; simp
  have hxi : C[Cs.length]? = some x := by rw [← hCe]; simp
  rw [hCe] at hC ⊢
  repeat' (first | apply (zs1 ?_) | (apply zg7; (refine zs15 ?_ ?_ <;> intro _ <;> try (exfalso; omega))) | (apply zg23; (refine zs53 ?_; intro _)) | apply (zs65 ?_) | apply (zs68 ?_) | apply (zs69 ?_) | apply (zs70 ?_) | (apply zg27; refine zs72 ?_) | apply (zs76 ?_) | fail)
  apply Zm [0, 1, 2, 3, 4, 5, 6, 7, 8, 9, 10, 11] [12] [true, true, true, false, false]
  kernel_rfl
  kernel_rfl
  exact zy
  (simp only [Yi, nthO]; rfl)
  (simp only [Yi, nthO]; rfl)
  repeat' (first | (apply Jk T; exact rfl; exact rfl; exact rfl; exact rfl; omega) | apply (zs1 ?_) | apply (zs5 ?_) | (apply zg2; refine zs6 ?_) | (apply zg3; refine zs7 ?_) | (apply zg4; refine zs9 ?_) | (apply zg5; refine zs10 ?_) | (apply zg14; refine zs31 ?_) | (apply zg22; first | refine zs50 ?_ | refine zs51 ?_) | (apply zg24; (refine zs54 ?_; intro _)) | (apply zg25; refine zs55 ?_) | apply (zs65 ?_) | (apply Yp; exact zp) | apply (zs68 ?_) | apply (zs69 ?_) | apply (zs70 ?_) | (apply zg29; (apply Yo; exact za ; exact rfl)) | apply (zs87 ?_) | (apply Ym; (repeat (first | with_reducible exact Yh | (with_reducible apply Yg; (repeat (first | with_reducible exact Yf | with_reducible apply Ye)))))) | apply (zs93 ?_) | apply (zs94 ?_) | fail)
  rename_i g5 _ g6 g7
  apply Ut _ (cs := [.pointer (some ⟨g6, 0, none⟩), .pointer (some ⟨g5, 0, none⟩)])
  exact rfl
  exact YhP
  exact za
  exact rfl
  · intro w hw
    have h5 : St B w0 (many (C.map clQ) :: blk g6 (.cells #[sptr (some ⟨ga, 0, none⟩) (Cs.length * 5)] 249 (0, 0)) :: blk g5 (.cells #[.slice lA l.length lcap] 24 (0, 0)) :: clsP (some ⟨ga, 0, none⟩) cap C :: rdrA g (some ⟨ga, 0, none⟩) cap C last :: nrs lA lcap l :: H) w := by
      rw [show ((C.length : Int) - 1).toNat = Cs.length by omega] at hw
      revert w
      exact zk
    have h6 : St B w0 (many (clP x) :: many (Cs.map clQ) :: blk g6 (.cells #[sptr (some ⟨ga, 0, none⟩) (Cs.length * 5)] 249 (0, 0)) :: blk g5 (.cells #[.slice lA l.length lcap] 24 (0, 0)) :: clsP (some ⟨ga, 0, none⟩) cap C :: rdrA g (some ⟨ga, 0, none⟩) cap C last :: nrs lA lcap l :: H) w := by
      rw [← hCe] at h5 ⊢
      exact h5.perm (JT clQ Cs x _)
    have h7 := h6.perm (.open_ (clP x) _)
    refine YcY ga g6 g5 Cs.length cap C x hxi hx lA lcap l (H := many (x.rs.map rowQ) :: nrs x.bA x.bcap x.bs :: nrs x.wA x.wcap x.ws :: sl 24 1 x.sA x.ss.length x.scap (x.ss.flatMap rowF) :: many (x.ss.map rowQ) :: many (Cs.map clQ) :: rdrA g (some ⟨ga, 0, none⟩) cap C last :: nrs lA lcap l :: H) ?_
    unfold clP at h7
    dsimp only [List.cons_append, List.nil_append] at h7
    clear h5 h6 hw
    revert w
    exact zk
  rintro _ _ ⟨rfl, A', cap', rfl⟩
  obtain ⟨x', hx'⟩ : ∃ x' : ClM, { x with rA := A', rcap := cap', rs := x.rs ++ [⟨lA, lcap, l⟩] } = x' := ⟨_, rfl⟩
  have hset : C.set Cs.length x' = Cs ++ [x'] := by rw [← hCe]; exact UW _ _ _
  have hn' : C.length = (Cs ++ [x']).length := by rw [hn]; simp
  rw [hx', hset]
  repeat' (first | apply (zs65 ?_) | fail)
  apply Yj (rdrA g (some ⟨ga, 0, none⟩) cap (Cs ++ [x']) last :: clsP (some ⟨ga, 0, none⟩) cap (Cs ++ [x']) :: many ((Cs ++ [x']).map clQ) :: H)
  · intro w hw
    have h5 : St B w0 (sl 72 1 A' (x.rs ++ [(⟨lA, lcap, l⟩ : RowM)]).length cap' ((x.rs ++ [(⟨lA, lcap, l⟩ : RowM)]).flatMap rowF) :: nrs lA lcap l :: many (x.rs.map rowQ) :: nrs x.bA x.bcap x.bs :: nrs x.wA x.wcap x.ws :: sl 24 1 x.sA x.ss.length x.scap (x.ss.flatMap rowF) :: many (x.ss.map rowQ) :: many (Cs.map clQ) :: rdrA g (some ⟨ga, 0, none⟩) cap (Cs ++ [x']) last :: clsP (some ⟨ga, 0, none⟩) cap (Cs ++ [x']) :: H) w := by
      unfold rdrA clsP
      rw [← hn']
      clear hn' hset
      revert w
      exact zk
    have h6 := h5.perm (.cons _ (Vv rowQ x.rs ⟨lA, lcap, l⟩ _))
    have h7 : St B w0 (clQ x' :: many (Cs.map clQ) :: rdrA g (some ⟨ga, 0, none⟩) cap (Cs ++ [x']) last :: clsP (some ⟨ga, 0, none⟩) cap (Cs ++ [x']) :: H) w := by
      have h8 := h6.perm (.close [_, _, _, _, _, _] _)
      rw [← hx'] at h8 ⊢
      exact h8
    exact (h7.perm (Zz clQ Cs x' _)).perm ((Perm.swap _ _ _).trans (.cons _ (.swap _ _ _)))
  apply XW; exact rfl
  rw [← hCe]
  exact ⟨rfl, _, _, Cs ++ [x'], UX (by decide) l Cs x x' (by rw [← hx']; unfold ClM.clm YJ; simp), UP hrow x' (by rw [← hx']; exact ⟨Ybl hrx.1 hl, hrx.2⟩), rfl⟩
set_option maxHeartbeats 4000000 in
theorem Ybx (g : Nat) (A : Option Addr) (cap : Nat) (Cs : List ClM) (x : ClM) (last : Nat) (lA : Option Addr) (lcap : Nat) (l : List Int) (hC : (Cs ++ [x]).length ≤ 1000000) (hx : x.bs.length ≤ 1000 ∧ x.ws.length ≤ 1000) (v0 v1 : Int) (h0 : l[0]? = some v0) (h1 : l[1]? = some v1) (hrow : XS (Cs ++ [x])) (_hl : l.length ≤ 64) {B : Nat} {w0 : World} {H : List HP} {w : World}
    (hw : St B w0 (rdrA g A cap (Cs ++ [x]) last :: clsP A cap (Cs ++ [x]) :: many ((Cs ++ [x]).map clQ) :: nrs lA lcap l :: H) w) :
    Calls Tryz.prog 145 [.pointer (some ⟨g, 0, none⟩), .int .i64 (2 : Nat), .slice lA l.length lcap].toArray w (Post B w0 (Ug H g last 2 l (Cs ++ [x]))) := by
  refine Yd Tryz.func145 Tryz.ntmps145 rfl rfl hw ?_
  refine YaB (e := 61) (size := 5) (A := A) (k := (Cs ++ [x]).length) (cap := cap) (xs := (Cs ++ [x]).flatMap clF) zm (by simp) ?_
  rintro ga rfl
  have hrx := hrow x (by simp)
  obtain ⟨C, hCe⟩ : ∃ C, Cs ++ [x] = C := ⟨_, rfl⟩
  have hn : C.length = Cs.length + 1 := by rw [← hCe]; simp
  have hxi : C[Cs.length]? = some x := by rw [← hCe]; simp
  rw [hCe] at hC ⊢
  repeat' (first | apply (zs1 ?_) | (apply zg7; (refine zs15 ?_ ?_ <;> intro _ <;> try (exfalso; omega))) | (apply zg23; (refine zs53 ?_; intro _)) | apply (zs65 ?_) | apply (zs68 ?_) | apply (zs69 ?_) | apply (zs70 ?_) | (apply zg27; refine zs72 ?_) | apply (zs76 ?_) | fail)
  apply Zm [0, 1, 2, 3, 4, 5, 6, 7, 8, 9, 10, 11] [12] [true, true, true, false, false]
  kernel_rfl
  kernel_rfl
  exact zy
  (simp only [Yi, nthO]; rfl)
  (simp only [Yi, nthO]; rfl)
  repeat' (first | (apply Jk T; exact rfl; exact rfl; exact rfl; exact rfl; omega) | apply (zs1 ?_) | apply (zs5 ?_) | (apply zg2; refine zs6 ?_) | (apply zg3; refine zs7 ?_) | (apply zg4; refine zs9 ?_) | (apply zg5; refine zs10 ?_) | (apply zg14; refine zs31 ?_) | (apply zg22; first | refine zs50 ?_ | refine zs51 ?_) | (apply zg24; (refine zs54 ?_; intro _)) | (apply zg25; refine zs55 ?_) | apply (zs65 ?_) | (apply Yp; exact zp) | apply (zs68 ?_) | apply (zs69 ?_) | apply (zs70 ?_) | (apply zg29; (apply Yo; exact za ; exact rfl)) | apply (zs87 ?_) | (apply Ym; (repeat (first | with_reducible exact Yh | (with_reducible apply Yg; (repeat (first | with_reducible exact Yf | with_reducible apply Ye)))))) | apply (zs93 ?_) | apply (zs94 ?_) | fail)
  rename_i g5 _ g6 g7
  apply Ut _ (cs := [.pointer (some ⟨g6, 0, none⟩), .pointer (some ⟨g5, 0, none⟩)])
  exact rfl
  exact Yhz
  exact za
  exact rfl
  · intro w hw
    have h5 : St B w0 (many (C.map clQ) :: blk g6 (.cells #[sptr (some ⟨ga, 0, none⟩) (Cs.length * 5)] 249 (0, 0)) :: blk g5 (.cells #[.slice lA l.length lcap] 24 (0, 0)) :: clsP (some ⟨ga, 0, none⟩) cap C :: rdrA g (some ⟨ga, 0, none⟩) cap C last :: nrs lA lcap l :: H) w := by
      rw [show ((C.length : Int) - 1).toNat = Cs.length by omega] at hw
      revert w
      exact zk
    have h6 : St B w0 (many (clP x) :: many (Cs.map clQ) :: blk g6 (.cells #[sptr (some ⟨ga, 0, none⟩) (Cs.length * 5)] 249 (0, 0)) :: blk g5 (.cells #[.slice lA l.length lcap] 24 (0, 0)) :: clsP (some ⟨ga, 0, none⟩) cap C :: rdrA g (some ⟨ga, 0, none⟩) cap C last :: nrs lA lcap l :: H) w := by
      rw [← hCe] at h5 ⊢
      exact h5.perm (JT clQ Cs x _)
    have h7 := h6.perm (.open_ (clP x) _)
    refine YcO ga g6 g5 Cs.length cap C x hxi hx lA lcap l v0 v1 h0 h1 (H := sl 72 1 x.rA x.rs.length x.rcap (x.rs.flatMap rowF) :: many (x.rs.map rowQ) :: sl 24 1 x.sA x.ss.length x.scap (x.ss.flatMap rowF) :: many (x.ss.map rowQ) :: many (Cs.map clQ) :: rdrA g (some ⟨ga, 0, none⟩) cap C last :: H) ?_
    unfold clP at h7
    dsimp only [List.cons_append, List.nil_append] at h7
    clear h5 h6 hw
    revert w
    exact zk
  rintro _ _ ⟨rfl, A1, c1, A2, c2, rfl⟩
  obtain ⟨x', hx'⟩ : ∃ x' : ClM, { x with bA := A1, bcap := c1, bs := x.bs ++ [v0], wA := A2, wcap := c2, ws := x.ws ++ [v1] } = x' := ⟨_, rfl⟩
  have hset : C.set Cs.length x' = Cs ++ [x'] := by rw [← hCe]; exact UW _ _ _
  have hn' : C.length = (Cs ++ [x']).length := by rw [hn]; simp
  rw [hx', hset]
  repeat' (first | apply (zs65 ?_) | fail)
  apply Yj (rdrA g (some ⟨ga, 0, none⟩) cap (Cs ++ [x']) last :: clsP (some ⟨ga, 0, none⟩) cap (Cs ++ [x']) :: many ((Cs ++ [x']).map clQ) :: H)
  · intro w hw
    have h5 : St B w0 (sl 72 1 x.rA x.rs.length x.rcap (x.rs.flatMap rowF) :: many (x.rs.map rowQ) :: nrs A1 c1 (x.bs ++ [v0]) :: nrs A2 c2 (x.ws ++ [v1]) :: sl 24 1 x.sA x.ss.length x.scap (x.ss.flatMap rowF) :: many (x.ss.map rowQ) :: many (Cs.map clQ) :: rdrA g (some ⟨ga, 0, none⟩) cap (Cs ++ [x']) last :: clsP (some ⟨ga, 0, none⟩) cap (Cs ++ [x']) :: H) w := by
      unfold rdrA clsP
      rw [← hn']
      clear hn' hset
      revert w
      exact zk
    have h6 := h5
    have h7 : St B w0 (clQ x' :: many (Cs.map clQ) :: rdrA g (some ⟨ga, 0, none⟩) cap (Cs ++ [x']) last :: clsP (some ⟨ga, 0, none⟩) cap (Cs ++ [x']) :: H) w := by
      have h8 := h6.perm (.close [_, _, _, _, _, _] _)
      rw [← hx'] at h8 ⊢
      exact h8
    exact (h7.perm (Zz clQ Cs x' _)).perm ((Perm.swap _ _ _).trans (.cons _ (.swap _ _ _)))
  apply XW; exact rfl
  rw [← hCe]
  exact ⟨rfl, _, _, Cs ++ [x'], UX (by decide) l Cs x x' (by rw [← hx']; unfold ClM.clm YJ; simp [List.getD_eq_getElem?_getD, h0, h1]), UP hrow x' (by rw [← hx']; exact hrx), rfl⟩
set_option maxHeartbeats 4000000 in
theorem Ya9 (g : Nat) (A : Option Addr) (cap : Nat) (Cs : List ClM) (x : ClM) (last : Nat) (lA : Option Addr) (lcap : Nat) (l : List Int) (hC : (Cs ++ [x]).length ≤ 1000000) (hx : x.ss.length ≤ 1000) (hrow : XS (Cs ++ [x])) (hl : l.length ≤ 64) {B : Nat} {w0 : World} {H : List HP} {w : World}
    (hw : St B w0 (rdrA g A cap (Cs ++ [x]) last :: clsP A cap (Cs ++ [x]) :: many ((Cs ++ [x]).map clQ) :: nrs lA lcap l :: H) w) :
    Calls Tryz.prog 145 [.pointer (some ⟨g, 0, none⟩), .int .i64 (3 : Nat), .slice lA l.length lcap].toArray w (Post B w0 (Ug H g last 3 l (Cs ++ [x]))) := by
  refine Yd Tryz.func145 Tryz.ntmps145 rfl rfl hw ?_
  refine YaB (e := 61) (size := 5) (A := A) (k := (Cs ++ [x]).length) (cap := cap) (xs := (Cs ++ [x]).flatMap clF) zm (by simp) ?_
  rintro ga rfl
  have hrx := hrow x (by simp)
  obtain ⟨C, hCe⟩ : ∃ C, Cs ++ [x] = C := ⟨_, rfl⟩
  have hn : C.length = Cs.length + 1 := by rw [← hCe]; simp
  have hxi : C[Cs.length]? = some x := by rw [← hCe]; simp
  rw [hCe] at hC ⊢
  repeat' (first | apply (zs1 ?_) | (apply zg7; (refine zs15 ?_ ?_ <;> intro _ <;> try (exfalso; omega))) | (apply zg23; (refine zs53 ?_; intro _)) | apply (zs65 ?_) | apply (zs68 ?_) | apply (zs69 ?_) | apply (zs70 ?_) | (apply zg27; refine zs72 ?_) | apply (zs76 ?_) | fail)
  apply Zm [0, 1, 2, 3, 4, 5, 6, 7, 8, 9, 10, 11] [12] [true, true, true, false, false]
  kernel_rfl
  kernel_rfl
  exact zy
  (simp only [Yi, nthO]; rfl)
  (simp only [Yi, nthO]; rfl)
  repeat' (first | (apply Jk T; exact rfl; exact rfl; exact rfl; exact rfl; omega) | apply (zs1 ?_) | apply (zs5 ?_) | (apply zg2; refine zs6 ?_) | (apply zg3; refine zs7 ?_) | (apply zg4; refine zs9 ?_) | (apply zg5; refine zs10 ?_) | (apply zg14; refine zs31 ?_) | (apply zg22; first | refine zs50 ?_ | refine zs51 ?_) | (apply zg24; (refine zs54 ?_; intro _)) | (apply zg25; refine zs55 ?_) | apply (zs65 ?_) | (apply Yp; exact zp) | apply (zs68 ?_) | apply (zs69 ?_) | apply (zs70 ?_) | (apply zg29; (apply Yo; exact za ; exact rfl)) | apply (zs87 ?_) | (apply Ym; (repeat (first | with_reducible exact Yh | (with_reducible apply Yg; (repeat (first | with_reducible exact Yf | with_reducible apply Ye)))))) | apply (zs93 ?_) | apply (zs94 ?_) | fail)
  rename_i g5 _ g6 g7
  apply Ut _ (cs := [.pointer (some ⟨g6, 0, none⟩), .pointer (some ⟨g5, 0, none⟩)])
  exact rfl
  exact YhF
  exact za
  exact rfl
  · intro w hw
    have h5 : St B w0 (many (C.map clQ) :: blk g6 (.cells #[sptr (some ⟨ga, 0, none⟩) (Cs.length * 5)] 249 (0, 0)) :: blk g5 (.cells #[.slice lA l.length lcap] 24 (0, 0)) :: clsP (some ⟨ga, 0, none⟩) cap C :: rdrA g (some ⟨ga, 0, none⟩) cap C last :: nrs lA lcap l :: H) w := by
      rw [show ((C.length : Int) - 1).toNat = Cs.length by omega] at hw
      revert w
      exact zk
    have h6 : St B w0 (many (clP x) :: many (Cs.map clQ) :: blk g6 (.cells #[sptr (some ⟨ga, 0, none⟩) (Cs.length * 5)] 249 (0, 0)) :: blk g5 (.cells #[.slice lA l.length lcap] 24 (0, 0)) :: clsP (some ⟨ga, 0, none⟩) cap C :: rdrA g (some ⟨ga, 0, none⟩) cap C last :: nrs lA lcap l :: H) w := by
      rw [← hCe] at h5 ⊢
      exact h5.perm (JT clQ Cs x _)
    have h7 := h6.perm (.open_ (clP x) _)
    refine Ycz ga g6 g5 Cs.length cap C x hxi hx lA lcap l (H := sl 72 1 x.rA x.rs.length x.rcap (x.rs.flatMap rowF) :: many (x.rs.map rowQ) :: nrs x.bA x.bcap x.bs :: nrs x.wA x.wcap x.ws :: many (x.ss.map rowQ) :: many (Cs.map clQ) :: rdrA g (some ⟨ga, 0, none⟩) cap C last :: nrs lA lcap l :: H) ?_
    unfold clP at h7
    dsimp only [List.cons_append, List.nil_append] at h7
    clear h5 h6 hw
    revert w
    exact zk
  rintro _ _ ⟨rfl, A', cap', rfl⟩
  obtain ⟨x', hx'⟩ : ∃ x' : ClM, { x with sA := A', scap := cap', ss := x.ss ++ [⟨lA, lcap, l⟩] } = x' := ⟨_, rfl⟩
  have hset : C.set Cs.length x' = Cs ++ [x'] := by rw [← hCe]; exact UW _ _ _
  have hn' : C.length = (Cs ++ [x']).length := by rw [hn]; simp
  rw [hx', hset]
  repeat' (first | apply (zs65 ?_) | fail)
  apply Yj (rdrA g (some ⟨ga, 0, none⟩) cap (Cs ++ [x']) last :: clsP (some ⟨ga, 0, none⟩) cap (Cs ++ [x']) :: many ((Cs ++ [x']).map clQ) :: H)
  · intro w hw
    have h5 : St B w0 (sl 72 1 x.rA x.rs.length x.rcap (x.rs.flatMap rowF) :: many (x.rs.map rowQ) :: nrs x.bA x.bcap x.bs :: nrs x.wA x.wcap x.ws :: sl 24 1 A' (x.ss ++ [(⟨lA, lcap, l⟩ : RowM)]).length cap' ((x.ss ++ [(⟨lA, lcap, l⟩ : RowM)]).flatMap rowF) :: nrs lA lcap l :: many (x.ss.map rowQ) :: many (Cs.map clQ) :: rdrA g (some ⟨ga, 0, none⟩) cap (Cs ++ [x']) last :: clsP (some ⟨ga, 0, none⟩) cap (Cs ++ [x']) :: H) w := by
      unfold rdrA clsP
      rw [← hn']
      clear hn' hset
      revert w
      exact zk
    have h6 := h5.perm (.cons _ (.cons _ (.cons _ (.cons _ (.cons _ (Vv rowQ x.ss ⟨lA, lcap, l⟩ _))))))
    have h7 : St B w0 (clQ x' :: many (Cs.map clQ) :: rdrA g (some ⟨ga, 0, none⟩) cap (Cs ++ [x']) last :: clsP (some ⟨ga, 0, none⟩) cap (Cs ++ [x']) :: H) w := by
      have h8 := h6.perm (.close [_, _, _, _, _, _] _)
      rw [← hx'] at h8 ⊢
      exact h8
    exact (h7.perm (Zz clQ Cs x' _)).perm ((Perm.swap _ _ _).trans (.cons _ (.swap _ _ _)))
  apply XW; exact rfl
  rw [← hCe]
  exact ⟨rfl, _, _, Cs ++ [x'], UX (by decide) l Cs x x' (by rw [← hx']; unfold ClM.clm YJ; simp), UP hrow x' (by rw [← hx']; exact ⟨hrx.1, Ybl hrx.2 hl⟩), rfl⟩
theorem Yd0 (g : Nat) (A : Option Addr) (cap : Nat) (C : List ClM) (last k : Nat) (hk : k < 4) (lA : Option Addr) (lcap : Nat) (l : List Int) (hC : C.length ≤ 1000000) (hf : ∀ c ∈ C, c.rs.length ≤ 2 ∧ c.bs.length ≤ 2 ∧ c.ws.length ≤ 2 ∧ c.ss.length ≤ 2) (hrow : XS C) (hl1 : Z1 k ≤ l.length) (hl : l.length ≤ 64) (hne : k ≠ 0 → C ≠ []) {B : Nat} {w0 : World} {H : List HP} {w : World}
    (hw : St B w0 (rdrA g A cap C last :: clsP A cap C :: many (C.map clQ) :: nrs lA lcap l :: H) w) :
    Calls Tryz.prog 145 [.pointer (some ⟨g, 0, none⟩), .int .i64 (k : Nat), .slice lA l.length lcap].toArray w (Post B w0 (Ug H g last k l C)) := by
  match k, hk, hl1, hne with
  | 0, _, hl1, _ =>
    have hl1 : 1 ≤ l.length := hl1
    exact YcU g A cap C last lA lcap l _ (List.getElem?_eq_getElem (by omega)) hC hrow hw
  | k + 1, hk, hl1, hne =>
    obtain ⟨Cs, x, rfl⟩ := V5 (hne (by omega))
    have hx := hf x (by simp)
    match k, hk, hl1 with
    | 0, _, _ => exact Yco g A cap Cs x last lA lcap l hC (by omega) hrow hl hw
    | 1, _, hl1 =>
      have hl1 : 2 ≤ l.length := hl1
      exact Ybx g A cap Cs x last lA lcap l hC (by omega) _ _ (List.getElem?_eq_getElem (by omega)) (List.getElem?_eq_getElem (by omega)) hrow hl hw
    | 2, _, _ => exact Ya9 g A cap Cs x last lA lcap l hC (by omega) hrow hl hw
open Go.RowKit Go.Eng Go.Nw Go.Rt
theorem YeA {k : Nat} (hk : k < 4) (w : World) : (Instr.index 213 ZX (.int .i64 (k : Nat))).run Tryz.prog w = .ok (.agg #[strV (Xj k), .int .i64 (Z1 k : Nat), .int .i64 (J6 k : Nat), .int .i64 (YV k : Nat)]) w := YS hk w
def WP (H : List HP) (g last : Nat) (C : List ClM) (s : List UInt8) (v : Value) (K : List HP) : Prop :=
  match Xt ⟨C.map ClM.clm, last⟩ s with
  | none => v = .bool false ∧ K = H
  | some p => v = .bool true ∧ ∃ A' cap' C', C'.map ClM.clm = p.c ∧ XS C' ∧ K = rdrA g A' cap' C' p.last :: clsP A' cap' C' :: many (C'.map clQ) :: H
theorem Yen {w : List UInt8} {k : Nat} (hk : k < 4) (h : w = Xj k) : JA w = some k := by rw [h]; exact (O1 hk).1
theorem YdI {w : List UInt8} (h : ∀ j, j < 4 → w ≠ Xj j) : JA w = none := by
  unfold JA
  have h0 : w ≠ wordF := h 0 (by omega)
  have h1 : w ≠ wordR := h 1 (by omega)
  have h2 : w ≠ wordB := h 2 (by omega)
  have h3 : w ≠ wordL := h 3 (by omega)
  rw [if_neg h0, if_neg h1, if_neg h2, if_neg h3]
set_option maxRecDepth 10000 in
set_option maxHeartbeats 4000000 in
theorem YcA (g : Nat) (A : Option Addr) (cap : Nat) (C : List ClM) (last : Nat) (hl3 : last < 4) (s : List UInt8) (hs : s.length ≤ 100000) (hC : C.length ≤ 1000000) (hrd : Rdr ⟨C.map ClM.clm, last⟩) (hrow : XS C) {B : Nat} {w0 : World} {H : List HP} {w : World} (ht : TabsB B w0)
    (hw : St B w0 (rdrA g A cap C last :: clsP A cap C :: many (C.map clQ) :: H) w) :
    Calls Tryz.prog 82 [.pointer (some ⟨g, 0, none⟩), strV s].toArray w (Post B w0 (WP H g last C s)) := by
  refine Yd Tryz.func82 Tryz.ntmps82 rfl rfl hw ?_
  obtain ⟨R, hR⟩ : ∃ R, Xt ⟨C.map ClM.clm, last⟩ s = R := ⟨_, rfl⟩
  have hout : ∀ v K, (match R with | none => v = .bool false ∧ K = H | some p => v = .bool true ∧ ∃ A' cap' C', C'.map ClM.clm = p.c ∧ XS C' ∧ K = rdrA g A' cap' C' p.last :: clsP A' cap' C' :: many (C'.map clQ) :: H) → WP H g last C s v K := fun v K h => by
    unfold WP
    rw [hR]
    exact h
  have hlen2 := Ydo hrd
  repeat' (first | apply (zs1 ?_) | apply (zs2 ?_) | apply (zs65 ?_) | apply (zs68 ?_) | apply (zs69 ?_) | apply (zs70 ?_) | fail)
  apply Ys _ en81
  exact za
  exact rfl
  exact fun _ hw => (O8 s 32 (by omega) ht (hw))
  rintro _ _ ⟨gs, rfl, rfl⟩
  obtain ⟨ps, hps⟩ : ∃ ps, cutC 32 s = ps := ⟨_, rfl⟩
  have hne : ps ≠ [] := hps ▸ VK 32 s
  have hp0 : 1 ≤ ps.length := List.length_pos_iff.2 hne
  have hpl : ps.length ≤ 100001 := by have := Vq (c := 32) s; rw [hps] at this; omega
  have hrp : ∀ {L : List HP}, blk gs (.cells (ps.map strV).toArray 9 (0, 0)) ∈ L → Rd B w0 L (some ⟨gs, 0, none⟩) (ps.flatMap strL) := fun h => by
    rw [← Yah]
    exact Rd.blk (cs := (ps.map strV).toArray) h
  have h0 : ps[0]? = some (ps.headD []) := by
    cases ps with
    | nil => exact absurd rfl hne
    | cons p ps => rfl
  obtain ⟨wd, hwd⟩ : ∃ wd, ps.headD [] = wd := ⟨_, rfl⟩
  rw [hwd] at h0
  have hlN : JA wd = none → R = none := fun e => by rw [← hR]; unfold Xt; rw [hps, hwd, e]
  have hlS : ∀ k, JA wd = some k → R = O6 ⟨C.map ClM.clm, last⟩ s k := fun k e => by rw [← hR]; unfold Xt; rw [hps, hwd, e]
  rw [hps]
  have p1 := fun {H' : List HP} {w : World} (hw : St B w0 H' w) => Wr hw
  repeat' (first | apply (zs2 ?_) | apply (zs65 ?_) | apply (zs68 ?_) | apply (zs69 ?_) | apply (zs70 ?_) | fail)
  first | apply Ya Zf | apply Yb Zf
  exact za
  exact rfl
  exact fun _ hw => (p1 hw)
  repeat' (first | apply (zs1 ?_) | apply (zs65 ?_) | apply (zs68 ?_) | apply (zs73 ?_) | fail)
  refine Yk (fun z : Nat => [(13, .int .i64 (z : Nat)), (12, ZX), (4, .bool false), (5, .slice (some ⟨gs, 0, none⟩) ps.length ps.length), (1, strV s), (0, .pointer (some ⟨g, 0, none⟩))])
    (fun _ => blk gs (.cells (ps.map strV).toArray 9 (0, 0)) :: rdrA g A cap C last :: clsP A cap C :: many (C.map clQ) :: H) (fun z => z ≤ 4 ∧ ∀ j, j < z → wd ≠ Xj j) (fun z => 4 - z) 0 ⟨Nat.zero_le _, fun k hk => absurd hk (Nat.not_lt_zero _)⟩ ?_ (fun w hw => hw) ?_
  · exact zu
  rintro k ⟨hk, hall⟩ K hK
  by_cases hlt : k < 4
  rotate_left
  · obtain rfl : k = 4 := by omega
    have hRn := hlN (YdI hall)
    repeat' (first | apply (zs2 ?_) | (apply (zs17 ?_ ?_) <;> intro _ <;> try (exfalso; omega)) | apply (zs65 ?_) | apply (zs68 ?_) | apply (zs69 ?_) | apply (zs70 ?_) | (apply zg27; refine zs72 ?_) | apply (zs74 ?_) | apply (zs75 ?_) | apply (zs80 ?_) | apply (zs81 ?_) | fail)
    apply Yj H
    · exact zk
    apply Yc; exact rfl; exact rfl
    apply hout
    rw [hRn]
    exact ⟨rfl, rfl⟩
  have hrp' : ∀ X, Rd B w0 (X :: blk gs (.cells (ps.map strV).toArray 9 (0, 0)) :: rdrA g A cap C last :: clsP A cap C :: many (C.map clQ) :: H) (some ⟨gs, 0, none⟩) (ps.flatMap strL) := fun X => hrp (.tail _ (.head _))
  repeat' (first | (apply Yv; exact rfl; exact rfl; exact rfl; exact YeA hlt) | apply (zs1 ?_) | apply (zs2 ?_) | (apply zg2; refine zs6 ?_) | (apply zg3; refine zs7 ?_) | (apply (zs17 ?_ ?_) <;> intro _ <;> try (exfalso; omega)) | (apply zg22; refine zs51 ?_) | (apply zg24; (refine zs54 ?_; intro _)) | apply (zs65 ?_) | apply (zs68 ?_) | apply (zs69 ?_) | apply (zs70 ?_) | (apply zg27; refine zs71 ?_) | apply (zs73 ?_) | apply (zs76 ?_) | (apply zg28; refine zs83 ?_) | fail)
  rename_i g7
  have hr5 := hrp' (blk g7 (.cells #[strV (Xj k), .int .i64 (Z1 k : Nat), .int .i64 (J6 k : Nat), .int .i64 (YV k : Nat)] 212 (0, 0)))
  repeat' (first | (apply YaR (Xj k) wd; exact rfl; exact rfl; exact rfl; all_goals intro hwk) | apply (zs1 ?_) | (apply zg3; refine zs60 ?_) | (apply zg5; refine zs57 ?_) | (apply zg13; refine zs30 ?_) | apply (zs65 ?_) | apply (zs66 ?_) | apply (zs68 ?_) | apply (zs69 ?_) | apply (zs70 ?_) | (apply zg27; first | refine zs71 ?_ | refine zs72 ?_) | apply (zs75 ?_) | apply (zs76 ?_) | apply (zs80 ?_) | apply (zs81 ?_) | fail)
  · apply hK (k + 1)
    · exact ⟨by omega, fun j hj => by
        by_cases e : j = k
        · subst e; exact fun e2 => hwk e2.symm
        · exact hall j (by omega)⟩
    · omega
    · exact zu
    · exact zk
  have hRk := hlS k (Yen hlt hwk.symm)
  obtain ⟨ws, hws⟩ : ∃ ws, ps.tail = ws := ⟨_, rfl⟩
  have hwl : ws.length = ps.length - 1 := by rw [← hws, List.length_tail]
  have hwm : ∀ p ∈ ws, p.length ≤ 100000 := fun p hp => by
    have h1 := Yat (c := 32) (l := s) p (by rw [hps]; exact List.mem_of_mem_tail (hws ▸ hp))
    omega
  apply J5 T (n' := ws.length); exact rfl; exact rfl; exact rfl; exact rfl; omega; (rw [hwl]; rfl)
  have hrw : ∀ {L : List HP}, blk gs (.cells (ps.map strV).toArray 9 (0, 0)) ∈ L → Rd B w0 L (subA (some ⟨gs, 0, none⟩) 1 ps.length 1) (ws.flatMap strL) := fun h => by
    have h1 := Rd.sub (q := 1) (o := 1) (k := ws.length) (cap := ps.length) (fun _ => rfl) (hrp h) (by omega)
    rw [List.drop_one, hws, List.take_length] at h1
    exact h1
  rw [show (1 : Int).toNat = 1 from rfl]
  obtain ⟨A0, hA0⟩ : ∃ A0, subA (some ⟨gs, 0, none⟩) 1 ps.length 1 = A0 := ⟨_, rfl⟩
  rw [hA0] at hrw ⊢
  repeat' (first | fail)
  apply Ys _ YhD
  exact za
  exact rfl
  exact fun _ hw => (QC ws (by omega) hwm ht (hrw zm) (hw))
  intro v K2 hv
  cases hn : Jb ws with
  | none =>
    rw [hn] at hv
    obtain ⟨rfl, rfl⟩ := hv
    have hRn : R = none := by rw [hRk]; unfold O6; rw [hps, hws, hn]
    repeat' (first | apply (zs1 ?_) | apply (zs2 ?_) | (apply zg1; refine zs3 ?_) | (apply zg6; refine zs11 ?_) | apply (zs13 ?_) | (apply zg20; refine zs48 ?_) | apply (zs65 ?_) | apply (zs68 ?_) | apply (zs69 ?_) | apply (zs70 ?_) | (apply zg27; refine zs71 ?_) | apply (zs74 ?_) | apply (zs77 ?_) | apply (zs78 ?_) | fail)
    apply Yj H
    · exact zk
    apply Yc; exact rfl; exact rfl
    apply hout
    rw [hRn]
    exact ⟨rfl, rfl⟩
  | some l =>
    rw [hn] at hv
    obtain ⟨lA, lcap, rfl, rfl⟩ := hv
    have hRl : R = if Z1 k ≤ l.length ∧ l.length ≤ J6 k ∧ Zc ⟨C.map ClM.clm, last⟩ k = true then some ⟨X0 k l (C.map ClM.clm), k⟩ else none := by rw [hRk]; unfold O6; rw [hps, hws, hn]
    have hll : l.length = ws.length := by
      unfold Jb at hn
      split at hn
      · cases hn
      · rw [← Option.some.inj hn, List.length_map]
    by_cases h1 : Z1 k ≤ l.length ∧ l.length ≤ J6 k
    rotate_left
    · have hRn : R = none := by rw [hRl, if_neg fun e => h1 ⟨e.1, e.2.1⟩]
      by_cases h2 : Z1 k ≤ l.length
      · have h3 : ¬ l.length ≤ J6 k := fun e => h1 ⟨h2, e⟩
        repeat' (first | apply (zs1 ?_) | apply (zs2 ?_) | (apply zg1; first | refine zs3 ?_ | refine zs4 ?_) | (apply zg2; refine zs6 ?_) | (apply zg3; refine zs7 ?_) | (apply zg4; refine zs9 ?_) | (apply zg6; first | refine zs11 ?_ | refine zs12 ?_) | apply (zs13 ?_) | (apply (zs17 ?_ ?_) <;> intro _ <;> try (exfalso; omega)) | (apply (zs19 ?_ ?_) <;> intro _ <;> try (exfalso; omega)) | (apply zg20; refine zs47 ?_) | apply (zs65 ?_) | apply (zs68 ?_) | apply (zs69 ?_) | apply (zs70 ?_) | (apply zg27; refine zs71 ?_) | apply (zs74 ?_) | apply (zs77 ?_) | apply (zs78 ?_) | fail)
        apply Yj H
        · exact zk
        apply Yc; exact rfl; exact rfl
        apply hout
        rw [hRn]
        exact ⟨rfl, rfl⟩
      · repeat' (first | apply (zs1 ?_) | apply (zs2 ?_) | (apply zg1; first | refine zs3 ?_ | refine zs4 ?_) | (apply zg2; refine zs6 ?_) | (apply zg3; refine zs7 ?_) | (apply zg4; refine zs9 ?_) | (apply zg6; first | refine zs11 ?_ | refine zs12 ?_) | apply (zs13 ?_) | (apply (zs17 ?_ ?_) <;> intro _ <;> try (exfalso; omega)) | (apply zg20; refine zs47 ?_) | apply (zs65 ?_) | apply (zs68 ?_) | apply (zs69 ?_) | apply (zs70 ?_) | (apply zg27; refine zs71 ?_) | apply (zs74 ?_) | apply (zs77 ?_) | apply (zs78 ?_) | fail)
        apply Yj H
        · exact zk
        apply Yc; exact rfl; exact rfl
        apply hout
        rw [hRn]
        exact ⟨rfl, rfl⟩
    obtain ⟨h1, h2⟩ := h1
    have hm4 := Ygk (k := k)
    have p2 := fun {H' : List HP} {w : World} (hm : rdrA g A cap C last ∈ H') (hr : Rd B w0 H' A (C.flatMap clF)) (hw : St B w0 H' w) => Yey g A cap C last k hlt hl3 hC (fun c hc => by have := hlen2 c hc; omega) hm hr hw
    cases hfit : Zc ⟨C.map ClM.clm, last⟩ k with
    | false =>
      have hRn : R = none := by rw [hRl, if_neg fun e => by rw [hfit] at e; exact Bool.false_ne_true e.2.2]
      rw [hfit] at p2
      repeat' (first | ((first | apply Ya Ydm | apply Yb Ydm); exact za; exact rfl; exact fun _ hw => (p2 zm (.sl zm) hw)) | apply (zs1 ?_) | apply (zs2 ?_) | (apply zg1; refine zs4 ?_) | (apply zg2; refine zs6 ?_) | (apply zg3; refine zs7 ?_) | (apply zg4; refine zs9 ?_) | (apply zg6; refine zs12 ?_) | apply (zs13 ?_) | (apply (zs17 ?_ ?_) <;> intro _ <;> try (exfalso; omega)) | (apply (zs19 ?_ ?_) <;> intro _ <;> try (exfalso; omega)) | (apply zg20; first | refine zs47 ?_ | refine zs48 ?_) | apply (zs65 ?_) | apply (zs68 ?_) | apply (zs69 ?_) | apply (zs70 ?_) | (apply zg27; refine zs71 ?_) | apply (zs74 ?_) | apply (zs77 ?_) | apply (zs78 ?_) | fail)
      apply Yj H
      · exact zk
      apply Yc; exact rfl; exact rfl
      apply hout
      rw [hRn]
      exact ⟨rfl, rfl⟩
    | true =>
      have hRs : R = some ⟨X0 k l (C.map ClM.clm), k⟩ := by rw [hRl, if_pos ⟨h1, h2, hfit⟩]
      have hne : k ≠ 0 → C ≠ [] := fun hk0 e => Yge hrd hk0 hlt hfit (by rw [e]; rfl)
      rw [hfit] at p2
      repeat' (first | ((first | apply Ya Ydm | apply Yb Ydm); exact za; exact rfl; exact fun _ hw => (p2 zm (.sl zm) hw)) | apply (zs1 ?_) | apply (zs2 ?_) | (apply zg1; refine zs4 ?_) | (apply zg2; refine zs6 ?_) | (apply zg3; refine zs7 ?_) | (apply zg4; refine zs9 ?_) | (apply zg6; refine zs12 ?_) | apply (zs13 ?_) | (apply (zs17 ?_ ?_) <;> intro _ <;> try (exfalso; omega)) | (apply (zs19 ?_ ?_) <;> intro _ <;> try (exfalso; omega)) | (apply zg20; refine zs47 ?_) | apply (zs65 ?_) | apply (zs68 ?_) | apply (zs69 ?_) | apply (zs70 ?_) | (apply zg27; refine zs72 ?_) | apply (zs76 ?_) | fail)
      apply Ys _ YhL
      exact za
      exact rfl
      · intro w hw
        refine Yd0 g A cap C last k hlt lA lcap l hC hlen2 hrow h1 (by omega) hne (H := H) ?_
        revert w
        exact zk
      rintro _ _ ⟨rfl, A', cap', C', hC', hrow', rfl⟩
      repeat' (first | apply (zs1 ?_) | apply (zs2 ?_) | apply (zs5 ?_) | (apply zg2; refine zs6 ?_) | (apply zg22; refine zs50 ?_) | apply (zs65 ?_) | apply (zs68 ?_) | apply (zs69 ?_) | apply (zs70 ?_) | apply (zs74 ?_) | apply (zs77 ?_) | apply (zs78 ?_) | fail)
      apply Yj (rdrA g A' cap' C' k :: clsP A' cap' C' :: many (C'.map clQ) :: H)
      · exact zk
      apply Yc; exact rfl; exact rfl
      apply hout
      rw [hRs]
      exact ⟨rfl, A', cap', C', hC', hrow', rfl⟩
open Go.RowKit Go.Eng Go.Nw Go.Rt
structure PsM where
  i : Nat
  A : Option Addr
  cap : Nat
  C : List ClM
  last : Nat
theorem Ygl {C : List ClM} (h : XS C) (h2 : ∀ c ∈ C, c.rs.length ≤ 2 ∧ c.bs.length ≤ 2 ∧ c.ws.length ≤ 2 ∧ c.ss.length ≤ 2) : ∀ c ∈ C, c.lens := fun c hc => by
  have h3 := h2 c hc
  exact ⟨by omega, fun r hr => by have := (h c hc).1 r hr; omega, fun r hr => by have := (h c hc).2 r hr; omega⟩
theorem Ybb {ls : List (List UInt8)} {k : Nat} {p : Pst} (h : XM ls k = some p) : Rdr p ∧ p.c.length ≤ k := by
  unfold XM at h
  have h1 := YbS _ h
  rw [List.length_take] at h1
  have h2 : startP.c.length = 0 := rfl
  exact ⟨(Yar _ Rdr.start h).1, by omega⟩
theorem Yfg {p : Pst} (h : Rdr p) : p.last < 4 := by
  by_cases hc : p.c = []
  · have := h.some_ hc; omega
  · obtain ⟨cs, x, hx⟩ := V5 hc
    rcases h.at_ cs x hx with h | h | h | h <;> omega
set_option maxRecDepth 10000 in
set_option maxHeartbeats 4000000 in
theorem JP (text : List UInt8) (hl : text.length ≤ 100000) {B : Nat} {w0 : World} {H : List HP} {w : World} (ht : TabsB B w0) (hw : St B w0 H w) :
    Calls Tryz.prog 27 [strV text].toArray w (Post B w0 (OutC H (XO text))) := by
  refine Yd Tryz.func27 Tryz.ntmps27 rfl rfl hw ?_
  repeat' (first | apply (zs1 ?_) | apply (zs2 ?_) | apply (zs65 ?_) | apply (zs68 ?_) | apply (zs69 ?_) | apply (zs70 ?_) | fail)
  apply Ys _ en81
  exact za
  exact rfl
  exact fun _ hw => (O8 text 10 (by omega) ht (hw))
  rintro _ _ ⟨gs, rfl, rfl⟩
  obtain ⟨ls, hls⟩ : ∃ ls, cutC 10 text = ls := ⟨_, rfl⟩
  have hpe : XO text = ZU ls := by unfold XO; rw [hls]
  have hlc : ls.length ≤ 100001 := by have := Vq (c := 10) text; rw [hls] at this; omega
  have hl1 : 1 ≤ ls.length := List.length_pos_iff.2 (hls ▸ VK 10 text)
  have hll : ∀ p ∈ ls, p.length ≤ 100000 := fun p hp => by have := Yat (c := 10) (l := text) p (hls ▸ hp); omega
  have hrp : ∀ {L : List HP}, blk gs (.cells (ls.map strV).toArray 9 (0, 0)) ∈ L → Rd B w0 L (some ⟨gs, 0, none⟩) (ls.flatMap strL) := fun h => by
    rw [← Yah]
    exact Rd.blk (cs := (ls.map strV).toArray) h
  rw [hls, hpe]
  repeat' (first | apply (zs1 ?_) | apply (zs2 ?_) | (apply zg4; refine zs9 ?_) | (apply zg14; refine zs31 ?_) | (apply zg23; (refine zs52 ?_; intro _)) | (apply zg25; refine zs55 ?_) | apply (zs65 ?_) | apply (zs68 ?_) | apply (zs69 ?_) | apply (zs70 ?_) | fail)
  rename_i gr
  obtain ⟨m, hm⟩ : ∃ m, ls.length = m + 1 := ⟨ls.length - 1, by omega⟩
  rw [show ((ls.length : Nat) : Int) - 1 = (m : Int) by omega]
  apply Xy T (l := ls) (n' := (ls.take m).length); exact rfl; exact rfl; exact rfl; exact rfl; omega; exact Nat.le_refl _; (rw [List.length_take]; omega)
  rw [Oc]
  repeat' (first | apply (zs1 ?_) | (apply zg4; refine zs9 ?_) | apply (zs65 ?_) | apply (zs68 ?_) | apply (zs73 ?_) | fail)
  have hlt : (ls.take m).length = m := by rw [List.length_take]; omega
  have hrt : ∀ {L : List HP}, blk gs (.cells (ls.map strV).toArray 9 (0, 0)) ∈ L → Rd B w0 L (some ⟨gs, 0, none⟩) ((ls.take m).flatMap strL) := fun h => Rd.take (q := 1) m (fun _ => rfl) (hrp h)
  have hpl : ZU ls = if (Yz (badL ls) m 0).2 ≠ 0 then ([], Yz (badL ls) m 0)
    else if Xb ls m ≠ [] ∨ (JJ ls m).last ≠ 3 then ([], ((m : Int), 3))
    else if ZA (JJ ls m).c = false then ([], (-1, 1)) else ((JJ ls m).c, (-1, 0)) := by
    unfold ZU
    rw [show ls.length - 1 = m by omega]
  refine Yk (fun (z : PsM) => [(21, .int .i64 z.i), (20, .int .i64 (ls.take m).length), (19, .slice (some ⟨gs, 0, none⟩) (ls.take m).length ls.length), (5, .slice (some ⟨gs, 0, none⟩) ls.length ls.length), (6, .int .i64 m), (7, .pointer (some ⟨gr, 0, none⟩))])
    (fun z => rdrA gr z.A z.cap z.C z.last :: clsP z.A z.cap z.C :: many (z.C.map clQ) :: blk gs (.cells (ls.map strV).toArray 9 (0, 0)) :: H) (fun z => z.i ≤ m ∧ XM ls z.i = some ⟨z.C.map ClM.clm, z.last⟩ ∧ XS z.C) (fun z => m - z.i) ⟨0, none, 0, [], 3⟩ ⟨Nat.zero_le _, rfl, fun c hc => by cases hc⟩ ?_ (fun w hw => ?_) ?_
  · exact zu
  · have h4 : St B w0 (blk gr (.cells #[.slice none 0 0, .int .i64 3] 144 (0, 0)) :: blk gs (.cells (ls.map strV).toArray 9 (0, 0)) :: H) w := by
      revert w
      exact zk
    have h5 : St B w0 (rdrA gr none 0 [] 3 :: blk gs (.cells (ls.map strV).toArray 9 (0, 0)) :: H) w := h4
    exact (Jy h5).perm ((Perm.cons _ (.swap _ _ _)).trans (.swap _ _ _))
  rintro ⟨i, A, cap, C, last⟩ ⟨hi, hp, hrow⟩ K hK
  dsimp only at hi hp hrow ⊢
  obtain ⟨hrd, hcl⟩ := Ybb hp
  have hl3 := Yfg hrd
  have hlen2 := Ydo hrd
  dsimp only at hcl hl3
  rw [List.length_map] at hcl
  have hz : ∀ k, k < i → badL ls k = 0 := fun k hk => by
    unfold badL
    have h1 : XM ls (k + 1) ≠ none := fun e => by
      have h2 : runL (ls.take (k + 1) ++ (ls.take i).drop (k + 1)) startP = some ⟨C.map ClM.clm, last⟩ := by
        rw [show ls.take (k + 1) = (ls.take i).take (k + 1) by rw [List.take_take, Nat.min_eq_left (by omega)], List.take_append_drop]
        exact hp
      rw [Jd] at h2
      unfold XM at e
      rw [e] at h2
      cases h2
    cases hc : XM ls (k + 1) with
    | none => exact absurd hc h1
    | some p => rfl
  by_cases hlti : i < m
  · have hrt' : Rd B w0 (rdrA gr A cap C last :: clsP A cap C :: many (C.map clQ) :: blk gs (.cells (ls.map strV).toArray 9 (0, 0)) :: H) (some ⟨gs, 0, none⟩) ((ls.take m).flatMap strL) := hrt zm
    have hget : (ls.take m)[i]? = some (Xb ls i) := by
      rw [List.getElem?_take, if_pos hlti]
      unfold Xb
      rw [List.getD_eq_getElem?_getD, List.getElem?_eq_getElem (by omega)]
      rfl
    have hlm : (Xb ls i).length ≤ 100000 := hll _ (List.mem_of_mem_take (List.mem_of_getElem? hget))
    have hst := YeD (by omega) hp
    repeat' (first | apply (zs1 ?_) | apply (zs2 ?_) | (apply zg3; refine zs60 ?_) | (apply zg5; refine zs57 ?_) | (apply (zs17 ?_ ?_) <;> intro _ <;> try (exfalso; omega)) | apply (zs65 ?_) | apply (zs68 ?_) | apply (zs69 ?_) | apply (zs70 ?_) | (apply zg27; refine zs71 ?_) | apply (zs73 ?_) | apply (zs76 ?_) | fail)
    apply Ys _ en82
    exact za
    exact rfl
    exact fun _ hw => (YcA gr A cap C last hl3 (Xb ls i) hlm (by omega) hrd hrow ht (hw))
    intro v9 K9 hr9
    unfold WP at hr9
    cases hrow9 : Xt ⟨C.map ClM.clm, last⟩ (Xb ls i) with
    | none =>
      rw [hrow9] at hr9 hst
      obtain ⟨rfl, rfl⟩ := hr9
      have hbr : badL ls i = 3 := by unfold badL; rw [hst]; rfl
      have hfa := Xa (f := badL ls) (r := m) (i0 := 0) (i := i) (fun k _ hk => hz k hk) (Nat.zero_le _) (by omega) (by rw [hbr]; decide)
      repeat' (first | apply (zs1 ?_) | apply (zs2 ?_) | (apply zg20; refine zs48 ?_) | apply (zs65 ?_) | apply (zs68 ?_) | apply (zs69 ?_) | apply (zs70 ?_) | (apply zg27; refine zs71 ?_) | apply (zs74 ?_) | apply (zs77 ?_) | apply (zs78 ?_) | fail)
      apply Yj (clsP none 0 [] :: many (([] : List ClM).map clQ) :: H)
      · intro w hw
        have h5 : St B w0 H w := by
          revert w
          exact zk
        exact Jy h5
      apply XA; exact rfl; exact rfl; exact rfl; exact rfl
      rw [hpl, hfa, hbr, if_pos (by show (3 : Int) ≠ 0; decide)]
      exact Jn rfl rfl
    | some p =>
      rw [hrow9] at hr9 hst
      obtain ⟨rfl, A', cap', C', hC', hrow', rfl⟩ := hr9
      repeat' (first | apply (zs1 ?_) | (apply zg13; refine zs30 ?_) | (apply zg20; refine zs47 ?_) | apply (zs65 ?_) | apply (zs68 ?_) | apply (zs70 ?_) | (apply zg27; refine zs72 ?_) | apply (zs76 ?_) | apply (zs79 ?_) | fail)
      apply hK ⟨i + 1, A', cap', C', p.last⟩
      · exact ⟨by dsimp only; omega, by dsimp only; rw [hst, hC'], hrow'⟩
      · dsimp only; omega
      · exact zu
      · exact zk
  · obtain rfl : i = m := by omega
    have hrp' : Rd B w0 (rdrA gr A cap C last :: clsP A cap C :: many (C.map clQ) :: blk gs (.cells (ls.map strV).toArray 9 (0, 0)) :: H) (some ⟨gs, 0, none⟩) (ls.flatMap strL) := hrp zm
    have hzz : Yz (badL ls) i 0 = (-1, 0) := Xo fun k _ hk => hz k (by omega)
    have hgm : ls[(i : Int).toNat]? = some (Xb ls i) := by
      unfold Xb
      rw [List.getD_eq_getElem?_getD, Int.toNat_natCast, List.getElem?_eq_getElem (by omega)]
      rfl
    have hpat : JJ ls i = ⟨C.map ClM.clm, last⟩ := by unfold JJ; rw [hp]; rfl
    rw [hpl, hzz, if_neg (by simp), hpat]
    dsimp only
    clear hK
    repeat' (first | (apply YaR (Xb ls i) []; exact rfl; exact rfl; exact rfl; all_goals intro hwd) | apply (zs1 ?_) | apply (zs2 ?_) | (apply zg1; first | refine zs3 ?_ | refine zs4 ?_) | apply (zs5 ?_) | (apply zg2; refine zs6 ?_) | (apply zg3; first | refine zs7 ?_ | refine zs60 ?_) | (apply zg5; refine zs57 ?_) | (apply zg6; first | refine zs11 ?_ | refine zs12 ?_) | (apply zg8; (refine zs16 ?_ ?_ <;> intro _ <;> try (exfalso; omega))) | (apply (zs17 ?_ ?_) <;> intro _ <;> try (exfalso; omega)) | apply (zs65 ?_) | apply (zs68 ?_) | apply (zs69 ?_) | apply (zs70 ?_) | (apply zg27; first | refine zs71 ?_ | refine zs72 ?_) | apply (zs74 ?_) | apply (zs75 ?_) | apply (zs76 ?_) | apply (zs77 ?_) | apply (zs80 ?_) | apply (zs81 ?_) | fail)
    · apply Yj (clsP none 0 [] :: many (([] : List ClM).map clQ) :: H)
      · intro w hw
        have h5 : St B w0 H w := by
          revert w
          exact zk
        exact Jy h5
      apply XA; exact rfl; exact rfl; exact rfl; exact rfl
      rw [if_pos (.inl hwd)]
      exact Jn rfl rfl
    · have hl9 : last ≠ 3 := by omega
      apply Yj (clsP none 0 [] :: many (([] : List ClM).map clQ) :: H)
      · intro w hw
        have h5 : St B w0 H w := by
          revert w
          exact zk
        exact Jy h5
      apply XA; exact rfl; exact rfl; exact rfl; exact rfl
      rw [if_pos (.inr hl9)]
      exact Jn rfl rfl
    have hl9 : last = 3 := by omega
    rw [if_neg (by rintro (h | h); exact h hwd; exact h hl9)]
    have hlens := Ygl hrow hlen2
    have hcin : CIn B w0 (rdrA gr A cap C last :: clsP A cap C :: many (C.map clQ) :: blk gs (.cells (ls.map strV).toArray 9 (0, 0)) :: H) A C := ⟨.sl (cap := cap) (.tail _ (.head _)), fun x hx => Vd (.tail _ (.tail _ (.head _))) hx (hlens x hx), by omega⟩
    have p3 := fun {H' : List HP} {w : World} (hc : CIn B w0 H' A C) (hw : St B w0 H' w) => OK C (cap := cap) hc hw
    cases hf : ZA (C.map ClM.clm) with
    | false =>
      rw [hf] at p3
      repeat' (first | ((first | apply Ya en75 | apply Yb en75); exact za; exact rfl; exact fun _ hw => (p3 hcin hw)) | apply (zs2 ?_) | (apply zg20; refine zs48 ?_) | apply (zs65 ?_) | apply (zs68 ?_) | apply (zs69 ?_) | apply (zs70 ?_) | (apply zg27; refine zs71 ?_) | apply (zs74 ?_) | apply (zs77 ?_) | fail)
      apply Yj (clsP none 0 [] :: many (([] : List ClM).map clQ) :: H)
      · intro w hw
        have h5 : St B w0 H w := by
          revert w
          exact zk
        exact Jy h5
      apply XA; exact rfl; exact rfl; exact rfl; exact rfl
      rw [if_pos rfl]
      exact Jn rfl rfl
    | true =>
      rw [hf] at p3
      repeat' (first | ((first | apply Ya en75 | apply Yb en75); exact za; exact rfl; exact fun _ hw => (p3 hcin hw)) | apply (zs1 ?_) | apply (zs2 ?_) | apply (zs5 ?_) | (apply zg2; refine zs6 ?_) | (apply zg3; refine zs7 ?_) | (apply zg20; refine zs47 ?_) | apply (zs65 ?_) | apply (zs68 ?_) | apply (zs69 ?_) | apply (zs70 ?_) | (apply zg27; refine zs72 ?_) | apply (zs74 ?_) | apply (zs76 ?_) | fail)
      apply Yj (clsP A cap C :: many (C.map clQ) :: H)
      · exact zk
      apply XA; exact rfl; exact rfl; exact rfl; exact rfl
      exact ⟨A, cap, C, rfl, rfl, hlens, rfl⟩
open Go.RowKit Go.Eng Go.Nw Go.Rt
set_option maxRecDepth 10000 in
set_option maxHeartbeats 4000000 in
theorem WE (c d : ClM) {B : Nat} {w0 : World} {H : List HP} {w : World} (hc : c.In B w0 H) (hd : d.In B w0 H) (hw : St B w0 H w) :
    Calls Tryz.prog 73 [clV c, clV d].toArray w (Post B w0 fun u K => u = .bool (decide (c.clm = d.clm)) ∧ K = H) := by
  refine Yd Tryz.func73 Tryz.ntmps73 rfl rfl hw ?_
  have hcl := hc.ln
  have hdl := hd.ln
  have p1 := fun {H' : List HP} {w : World} (hc : c.In B w0 H') (hd : d.In B w0 H') (hw : St B w0 H' w) => WC c.rs d.rs (cap := c.rcap) (cap2 := d.rcap) hcl.1 hdl.1 hc.rl hd.rl hc.rt hd.rt hc.rw_ hd.rw_ hw
  have p2 := fun {H' : List HP} {w : World} (hc : c.In B w0 H') (hd : d.In B w0 H') (hw : St B w0 H' w) => Xx c.bs d.bs (cap := c.bcap) (cap2 := d.bcap) (by omega) (by omega) hc.bd hd.bd hw
  have p3 := fun {H' : List HP} {w : World} (hc : c.In B w0 H') (hd : d.In B w0 H') (hw : St B w0 H' w) => Xx c.ws d.ws (cap := c.wcap) (cap2 := d.wcap) (by omega) (by omega) hc.ws hd.ws hw
  have hce := @Yft c d
  unfold clV
  by_cases h1 : c.flow = d.flow
  rotate_left
  · rw [decide_eq_false (fun h => h1 (hce.1 h).1)]
    repeat' (first | apply (zs1 ?_) | apply (zs2 ?_) | (apply zg1; refine zs3 ?_) | (apply zg2; refine zs6 ?_) | (apply zg3; refine zs7 ?_) | (apply zg6; refine zs11 ?_) | (apply zg8; (refine zs16 ?_ ?_ <;> intro _ <;> try (exfalso; omega))) | (apply zg23; (refine zs52 ?_; intro _)) | apply (zs65 ?_) | apply (zs68 ?_) | apply (zs69 ?_) | apply (zs70 ?_) | (apply zg27; refine zs71 ?_) | apply (zs74 ?_) | apply (zs77 ?_) | fail)
    apply Yj H
    · exact zk
    apply Yc; exact rfl; exact rfl; exact ⟨rfl, rfl⟩
  by_cases h2 : c.rs.map (·.xs) = d.rs.map (·.xs)
  rotate_left
  · rw [decide_eq_false (fun h => h2 (hce.1 h).2.1)]
    rw [decide_eq_false h2] at p1
    repeat' (first | apply (zs1 ?_) | apply (zs2 ?_) | (apply zg1; refine zs4 ?_) | (apply zg2; refine zs6 ?_) | (apply zg3; refine zs7 ?_) | (apply zg8; (refine zs16 ?_ ?_ <;> intro _ <;> try (exfalso; omega))) | (apply zg23; (refine zs52 ?_; intro _)) | apply (zs65 ?_) | apply (zs68 ?_) | apply (zs69 ?_) | apply (zs70 ?_) | fail)
    first | apply Ya Vy | apply Yb Vy
    exact za
    exact rfl
    exact fun _ hw => (p1 (hc.mono zk) (hd.mono zk) hw)
    repeat' (first | apply (zs1 ?_) | apply (zs2 ?_) | (apply zg1; first | refine zs3 ?_ | refine zs4 ?_) | (apply zg6; first | refine zs11 ?_ | refine zs12 ?_) | (apply zg20; refine zs48 ?_) | apply (zs65 ?_) | apply (zs68 ?_) | apply (zs69 ?_) | apply (zs70 ?_) | (apply zg27; refine zs71 ?_) | apply (zs74 ?_) | apply (zs77 ?_) | fail)
    apply Yj H
    · exact zk
    apply Yc; exact rfl; exact rfl; exact ⟨rfl, rfl⟩
  rw [decide_eq_true h2] at p1
  by_cases h3 : c.bs = d.bs
  rotate_left
  · rw [decide_eq_false (fun h => h3 (hce.1 h).2.2.1)]
    rw [decide_eq_false h3] at p2
    repeat' (first | apply (zs1 ?_) | apply (zs2 ?_) | (apply zg1; refine zs4 ?_) | (apply zg2; refine zs6 ?_) | (apply zg3; refine zs7 ?_) | (apply zg8; (refine zs16 ?_ ?_ <;> intro _ <;> try (exfalso; omega))) | (apply zg23; (refine zs52 ?_; intro _)) | apply (zs65 ?_) | apply (zs68 ?_) | apply (zs69 ?_) | apply (zs70 ?_) | fail)
    first | apply Ya Vy | apply Yb Vy
    exact za
    exact rfl
    exact fun _ hw => (p1 (hc.mono zk) (hd.mono zk) hw)
    repeat' (first | apply (zs1 ?_) | (apply zg1; refine zs4 ?_) | (apply zg2; refine zs6 ?_) | (apply zg3; refine zs7 ?_) | (apply zg6; refine zs12 ?_) | (apply zg20; refine zs47 ?_) | fail)
    first | apply Ya Xh | apply Yb Xh
    exact za
    exact rfl
    exact fun _ hw => (p2 (hc.mono zk) (hd.mono zk) hw)
    repeat' (first | apply (zs1 ?_) | apply (zs2 ?_) | (apply zg1; first | refine zs3 ?_ | refine zs4 ?_) | (apply zg6; first | refine zs11 ?_ | refine zs12 ?_) | (apply zg20; refine zs48 ?_) | apply (zs65 ?_) | apply (zs68 ?_) | apply (zs69 ?_) | apply (zs70 ?_) | (apply zg27; refine zs71 ?_) | apply (zs74 ?_) | apply (zs77 ?_) | fail)
    apply Yj H
    · exact zk
    apply Yc; exact rfl; exact rfl; exact ⟨rfl, rfl⟩
  rw [decide_eq_true h3] at p2
  by_cases h4 : c.ws = d.ws
  rotate_left
  · rw [decide_eq_false (fun h => h4 (hce.1 h).2.2.2.1)]
    rw [decide_eq_false h4] at p3
    repeat' (first | apply (zs1 ?_) | apply (zs2 ?_) | (apply zg1; refine zs4 ?_) | (apply zg2; refine zs6 ?_) | (apply zg3; refine zs7 ?_) | (apply zg8; (refine zs16 ?_ ?_ <;> intro _ <;> try (exfalso; omega))) | (apply zg23; (refine zs52 ?_; intro _)) | apply (zs65 ?_) | apply (zs68 ?_) | apply (zs69 ?_) | apply (zs70 ?_) | fail)
    first | apply Ya Vy | apply Yb Vy
    exact za
    exact rfl
    exact fun _ hw => (p1 (hc.mono zk) (hd.mono zk) hw)
    repeat' (first | apply (zs1 ?_) | (apply zg1; refine zs4 ?_) | (apply zg2; refine zs6 ?_) | (apply zg3; refine zs7 ?_) | (apply zg6; refine zs12 ?_) | (apply zg20; refine zs47 ?_) | fail)
    first | apply Ya Xh | apply Yb Xh
    exact za
    exact rfl
    exact fun _ hw => (p2 (hc.mono zk) (hd.mono zk) hw)
    repeat' (first | apply (zs1 ?_) | (apply zg1; refine zs4 ?_) | (apply zg2; refine zs6 ?_) | (apply zg3; refine zs7 ?_) | (apply zg6; refine zs12 ?_) | (apply zg20; refine zs47 ?_) | fail)
    first | apply Ya Xh | apply Yb Xh
    exact za
    exact rfl
    exact fun _ hw => (p3 (hc.mono zk) (hd.mono zk) hw)
    repeat' (first | apply (zs1 ?_) | apply (zs2 ?_) | (apply zg1; first | refine zs3 ?_ | refine zs4 ?_) | (apply zg6; first | refine zs11 ?_ | refine zs12 ?_) | (apply zg20; refine zs48 ?_) | apply (zs65 ?_) | apply (zs68 ?_) | apply (zs69 ?_) | apply (zs70 ?_) | (apply zg27; refine zs71 ?_) | apply (zs74 ?_) | apply (zs77 ?_) | fail)
    apply Yj H
    · exact zk
    apply Yc; exact rfl; exact rfl; exact ⟨rfl, rfl⟩
  rw [decide_eq_true h4] at p3
  have h5 : decide (c.clm = d.clm) = decide (c.ss.map (·.xs) = d.ss.map (·.xs)) := decide_eq_decide.2 ⟨fun h => (hce.1 h).2.2.2.2, fun h => hce.2 ⟨h1, h2, h3, h4, h⟩⟩
  rw [h5]
  by_cases h6 : c.ss.length = d.ss.length
  rotate_left
  · rw [decide_eq_false (fun e => h6 (by have := congrArg List.length e; rwa [List.length_map, List.length_map] at this))]
    repeat' (first | apply (zs1 ?_) | apply (zs2 ?_) | (apply zg1; refine zs4 ?_) | (apply zg2; refine zs6 ?_) | (apply zg3; refine zs7 ?_) | (apply zg8; (refine zs16 ?_ ?_ <;> intro _ <;> try (exfalso; omega))) | (apply zg23; (refine zs52 ?_; intro _)) | apply (zs65 ?_) | apply (zs68 ?_) | apply (zs69 ?_) | apply (zs70 ?_) | fail)
    first | apply Ya Vy | apply Yb Vy
    exact za
    exact rfl
    exact fun _ hw => (p1 (hc.mono zk) (hd.mono zk) hw)
    repeat' (first | apply (zs1 ?_) | (apply zg1; refine zs4 ?_) | (apply zg2; refine zs6 ?_) | (apply zg3; refine zs7 ?_) | (apply zg6; refine zs12 ?_) | (apply zg20; refine zs47 ?_) | fail)
    first | apply Ya Xh | apply Yb Xh
    exact za
    exact rfl
    exact fun _ hw => (p2 (hc.mono zk) (hd.mono zk) hw)
    repeat' (first | apply (zs1 ?_) | (apply zg1; refine zs4 ?_) | (apply zg2; refine zs6 ?_) | (apply zg3; refine zs7 ?_) | (apply zg6; refine zs12 ?_) | (apply zg20; refine zs47 ?_) | fail)
    first | apply Ya Xh | apply Yb Xh
    exact za
    exact rfl
    exact fun _ hw => (p3 (hc.mono zk) (hd.mono zk) hw)
    repeat' (first | apply (zs1 ?_) | apply (zs2 ?_) | (apply zg1; refine zs4 ?_) | (apply zg2; refine zs6 ?_) | (apply zg3; refine zs7 ?_) | (apply zg4; refine zs9 ?_) | (apply zg6; refine zs12 ?_) | (apply zg8; (refine zs16 ?_ ?_ <;> intro _ <;> try (exfalso; omega))) | (apply zg20; refine zs47 ?_) | apply (zs65 ?_) | apply (zs68 ?_) | apply (zs69 ?_) | apply (zs70 ?_) | (apply zg27; refine zs71 ?_) | apply (zs74 ?_) | apply (zs77 ?_) | fail)
    apply Yj H
    · exact zk
    apply Yc; exact rfl; exact rfl; exact ⟨rfl, rfl⟩
  repeat' (first | apply (zs1 ?_) | apply (zs2 ?_) | (apply zg1; refine zs4 ?_) | (apply zg2; refine zs6 ?_) | (apply zg3; refine zs7 ?_) | (apply zg8; (refine zs16 ?_ ?_ <;> intro _ <;> try (exfalso; omega))) | (apply zg23; (refine zs52 ?_; intro _)) | apply (zs65 ?_) | apply (zs68 ?_) | apply (zs69 ?_) | apply (zs70 ?_) | fail)
  first | apply Ya Vy | apply Yb Vy
  exact za
  exact rfl
  exact fun _ hw => (p1 (hc.mono zk) (hd.mono zk) hw)
  repeat' (first | apply (zs1 ?_) | (apply zg1; refine zs4 ?_) | (apply zg2; refine zs6 ?_) | (apply zg3; refine zs7 ?_) | (apply zg6; refine zs12 ?_) | (apply zg20; refine zs47 ?_) | fail)
  first | apply Ya Xh | apply Yb Xh
  exact za
  exact rfl
  exact fun _ hw => (p2 (hc.mono zk) (hd.mono zk) hw)
  repeat' (first | apply (zs1 ?_) | (apply zg1; refine zs4 ?_) | (apply zg2; refine zs6 ?_) | (apply zg3; refine zs7 ?_) | (apply zg6; refine zs12 ?_) | (apply zg20; refine zs47 ?_) | fail)
  first | apply Ya Xh | apply Yb Xh
  exact za
  exact rfl
  exact fun _ hw => (p3 (hc.mono zk) (hd.mono zk) hw)
  repeat' (first | apply (zs1 ?_) | apply (zs2 ?_) | (apply zg1; refine zs4 ?_) | (apply zg2; refine zs6 ?_) | (apply zg3; refine zs7 ?_) | (apply zg4; refine zs9 ?_) | (apply zg6; refine zs12 ?_) | (apply zg8; (refine zs16 ?_ ?_ <;> intro _ <;> try (exfalso; omega))) | (apply zg20; refine zs47 ?_) | apply (zs65 ?_) | apply (zs68 ?_) | apply (zs69 ?_) | apply (zs70 ?_) | (apply zg27; refine zs72 ?_) | apply (zs73 ?_) | apply (zs76 ?_) | fail)
  rename_i g2 g3 _ _
  refine Yk (fun k : Nat => [(5, .int .i64 (k : Nat)), (3, .pointer (some ⟨g3, 0, none⟩)), (2, .pointer (some ⟨g2, 0, none⟩))]) (fun _ => clA g3 d :: clA g2 c :: H) (fun k => k ≤ c.ss.length ∧ (c.ss.take k).map (·.xs) = (d.ss.take k).map (·.xs)) (fun k => c.ss.length - k) 0 ⟨Nat.zero_le _, by simp⟩ ?_ (fun w hw => hw) ?_
  · exact zu
  rintro k ⟨hk, hz⟩ K hK
  have hcs : Rd B w0 (clA g3 d :: clA g2 c :: H) c.sA (c.ss.flatMap rowF) := hc.st.cons.cons
  have hds : Rd B w0 (clA g3 d :: clA g2 c :: H) d.sA (d.ss.flatMap rowF) := hd.st.cons.cons
  by_cases hlt : k < c.ss.length
  · obtain ⟨a, ha⟩ : ∃ a, c.ss[k]? = some a := ⟨_, List.getElem?_eq_getElem hlt⟩
    obtain ⟨b, hb⟩ : ∃ b, d.ss[k]? = some b := ⟨_, List.getElem?_eq_getElem (by omega)⟩
    have ham := List.mem_of_getElem? ha
    have hbm := List.mem_of_getElem? hb
    have p4 := fun {H' : List HP} {w : World} (hc : c.In B w0 H') (hd : d.In B w0 H') (hw : St B w0 H' w) => Xx a.xs b.xs (cap := a.cap) (cap2 := b.cap) (hc.sl a ham) (hd.sl b hbm) (hc.sw a ham) (hd.sw b hbm) hw
    by_cases he : a.xs = b.xs
    · rw [decide_eq_true he] at p4
      repeat' (first | apply (zs1 ?_) | (apply zg2; refine zs6 ?_) | (apply zg3; refine zs7 ?_) | (apply zg4; refine zs9 ?_) | (apply (zs17 ?_ ?_) <;> intro _ <;> try (exfalso; omega)) | apply (zs65 ?_) | apply (zs68 ?_) | apply (zs69 ?_) | apply (zs70 ?_) | (apply zg27; refine zs71 ?_) | apply (zs73 ?_) | apply (zs76 ?_) | fail)
      apply YF [0, 1, 2, 3, 4, 5, 6, 7, 8, 9, 10, 11] []
      kernel_rfl
      kernel_rfl
      (simp only [Yi, nthO]; rfl)
      exact rfl
      repeat' (first | apply (zs1 ?_) | (apply zg2; refine zs6 ?_) | (apply zg3; first | refine zs7 ?_ | refine zs60 ?_) | (apply zg5; refine zs57 ?_) | apply (zs87 ?_) | fail)
      first | apply Ya Xh | apply Yb Xh
      exact za
      exact rfl
      exact fun _ hw => (p4 (hc.mono zk) (hd.mono zk) hw)
      repeat' (first | apply (zs1 ?_) | apply (zs2 ?_) | (apply zg13; refine zs30 ?_) | (apply zg20; refine zs47 ?_) | apply (zs65 ?_) | (apply Yp; exact zp) | apply (zs68 ?_) | apply (zs70 ?_) | (apply zg27; refine zs72 ?_) | apply (zs76 ?_) | apply (zs79 ?_) | (apply Ym; (repeat (first | with_reducible exact Yh | (with_reducible apply Yg; (repeat (first | with_reducible exact Yf | with_reducible apply Ye)))))) | apply (zs93 ?_) | apply (zs94 ?_) | fail)
      · show Perm H (H ++ [])
        rw [List.append_nil]; exact Perm.refl _
      repeat' (first | fail)
      apply hK (k + 1)
      · exact ⟨by omega, by rw [List.take_add_one, List.take_add_one, ha, hb, List.map_append, List.map_append, hz]; simp [he]⟩
      · omega
      · exact zu
      · exact fun w hw => hw
    · rw [decide_eq_false he] at p4
      have hne : ¬ (c.ss.map (·.xs) = d.ss.map (·.xs)) := fun e => by
        have h1 : (c.ss.map (·.xs))[k]? = (d.ss.map (·.xs))[k]? := by rw [e]
        rw [List.getElem?_map, List.getElem?_map, ha, hb] at h1
        exact he (Option.some.inj h1)
      rw [decide_eq_false hne]
      clear hK
      repeat' (first | apply (zs1 ?_) | (apply zg2; refine zs6 ?_) | (apply zg3; refine zs7 ?_) | (apply zg4; refine zs9 ?_) | (apply (zs17 ?_ ?_) <;> intro _ <;> try (exfalso; omega)) | apply (zs65 ?_) | apply (zs68 ?_) | apply (zs69 ?_) | apply (zs70 ?_) | (apply zg27; refine zs71 ?_) | apply (zs73 ?_) | apply (zs76 ?_) | fail)
      apply YF [0, 1, 2, 3, 4, 5, 6, 7, 8, 9, 10, 11] []
      kernel_rfl
      kernel_rfl
      (simp only [Yi, nthO]; rfl)
      exact rfl
      repeat' (first | apply (zs1 ?_) | (apply zg2; refine zs6 ?_) | (apply zg3; first | refine zs7 ?_ | refine zs60 ?_) | (apply zg5; refine zs57 ?_) | apply (zs87 ?_) | fail)
      first | apply Ya Xh | apply Yb Xh
      exact za
      exact rfl
      exact fun _ hw => (p4 (hc.mono zk) (hd.mono zk) hw)
      repeat' (first | apply (zs2 ?_) | (apply zg20; refine zs48 ?_) | apply (zs65 ?_) | (apply Yp; exact zp) | apply (zs68 ?_) | apply (zs69 ?_) | apply (zs70 ?_) | (apply zg27; refine zs71 ?_) | apply (zs74 ?_) | apply (zs77 ?_) | apply (zs78 ?_) | (apply Ym; (repeat (first | with_reducible exact Yh | (with_reducible apply Yg; (repeat (first | with_reducible exact Yf | with_reducible apply Ye)))))) | apply (zs93 ?_) | apply (zs94 ?_) | fail)
      · show Perm H (H ++ [])
        rw [List.append_nil]; exact Perm.refl _
      repeat' (first | fail)
      apply Yj H
      · exact zk
      apply Yc; exact rfl; exact rfl; exact ⟨rfl, rfl⟩
  · rw [List.take_of_length_le (by omega), List.take_of_length_le (by omega)] at hz
    rw [decide_eq_true hz]
    clear hK
    repeat' (first | apply (zs1 ?_) | apply (zs2 ?_) | (apply zg2; refine zs6 ?_) | (apply zg3; refine zs7 ?_) | (apply zg4; refine zs9 ?_) | (apply (zs17 ?_ ?_) <;> intro _ <;> try (exfalso; omega)) | apply (zs65 ?_) | apply (zs68 ?_) | apply (zs69 ?_) | apply (zs70 ?_) | (apply zg27; refine zs72 ?_) | apply (zs74 ?_) | apply (zs75 ?_) | apply (zs80 ?_) | apply (zs81 ?_) | fail)
    apply Yj H
    · exact zk
    apply Yc; exact rfl; exact rfl; exact ⟨rfl, rfl⟩
set_option maxRecDepth 10000 in
set_option maxHeartbeats 2000000 in
theorem Vj (c d : List ClM) {A A2 : Option Addr} {cap cap2 B : Nat} {w0 : World} {H : List HP} {w : World} (hc : CIn B w0 H A c) (hd : CIn B w0 H A2 d) (hw : St B w0 H w) :
    Calls Tryz.prog 21 [.slice A c.length cap, .slice A2 d.length cap2].toArray w (Post B w0 fun u K => u = .bool (decide (c.map ClM.clm = d.map ClM.clm)) ∧ K = H) := by
  refine Yd Tryz.func21 Tryz.ntmps21 rfl rfl hw ?_
  have hcl := hc.ln
  have hdl := hd.ln
  have hcr := hc.rd
  have hdr := hd.rd
  by_cases h6 : c.length = d.length
  rotate_left
  · rw [decide_eq_false (fun e => h6 (by have := congrArg List.length e; rwa [List.length_map, List.length_map] at this))]
    repeat' (first | apply (zs1 ?_) | apply (zs2 ?_) | (apply zg4; refine zs9 ?_) | (apply zg8; (refine zs16 ?_ ?_ <;> intro _ <;> try (exfalso; omega))) | apply (zs65 ?_) | apply (zs68 ?_) | apply (zs69 ?_) | apply (zs70 ?_) | (apply zg27; refine zs71 ?_) | apply (zs74 ?_) | apply (zs77 ?_) | fail)
    apply Yc; exact rfl; exact rfl; exact ⟨rfl, rfl⟩
  repeat' (first | apply (zs1 ?_) | apply (zs2 ?_) | (apply zg4; refine zs9 ?_) | (apply zg8; (refine zs16 ?_ ?_ <;> intro _ <;> try (exfalso; omega))) | apply (zs65 ?_) | apply (zs68 ?_) | apply (zs69 ?_) | apply (zs70 ?_) | (apply zg27; refine zs72 ?_) | apply (zs73 ?_) | apply (zs76 ?_) | fail)
  refine Yk (fun k : Nat => [(5, .int .i64 (k : Nat)), (0, .slice A c.length cap), (1, .slice A2 d.length cap2)]) (fun _ => H) (fun k => k ≤ c.length ∧ (c.take k).map ClM.clm = (d.take k).map ClM.clm) (fun k => c.length - k) 0 ⟨Nat.zero_le _, by simp⟩ ?_ (fun w hw => hw) ?_
  · exact zu
  rintro k ⟨hk, hz⟩ K hK
  by_cases hlt : k < c.length
  · obtain ⟨a, ha⟩ : ∃ a, c[k]? = some a := ⟨_, List.getElem?_eq_getElem hlt⟩
    obtain ⟨b, hb⟩ : ∃ b, d[k]? = some b := ⟨_, List.getElem?_eq_getElem (by omega)⟩
    have hax := hc.x a (List.mem_of_getElem? ha)
    have hbx := hd.x b (List.mem_of_getElem? hb)
    have p2 := fun {H' : List HP} {w : World} (hx : a.In B w0 H') (hy : b.In B w0 H') (hw : St B w0 H' w) => WE a b hx hy hw
    by_cases he : a.clm = b.clm
    · rw [decide_eq_true he] at p2
      repeat' (first | apply (zs1 ?_) | (apply zg4; refine zs9 ?_) | (apply (zs17 ?_ ?_) <;> intro _ <;> try (exfalso; omega)) | apply (zs65 ?_) | apply (zs68 ?_) | apply (zs69 ?_) | apply (zs70 ?_) | (apply zg27; refine zs71 ?_) | apply (zs73 ?_) | apply (zs76 ?_) | fail)
      apply YF [0, 1, 2, 3, 4, 5, 6, 7, 8, 9] []
      kernel_rfl
      kernel_rfl
      (simp only [Yi, nthO]; rfl)
      exact rfl
      repeat' (first | apply (zs1 ?_) | (apply zg3; refine zs61 ?_) | (apply zg5; refine zs57 ?_) | apply (zs87 ?_) | fail)
      first | apply Ya en73 | apply Yb en73
      exact za
      exact rfl
      exact fun _ hw => (p2 hax hbx hw)
      repeat' (first | apply (zs1 ?_) | apply (zs2 ?_) | (apply zg13; refine zs30 ?_) | (apply zg20; refine zs47 ?_) | apply (zs65 ?_) | (apply Yp; exact zp) | apply (zs68 ?_) | apply (zs70 ?_) | (apply zg27; refine zs72 ?_) | apply (zs76 ?_) | apply (zs79 ?_) | (apply Ym; (repeat (first | with_reducible exact Yh | (with_reducible apply Yg; (repeat (first | with_reducible exact Yf | with_reducible apply Ye)))))) | apply (zs93 ?_) | apply (zs94 ?_) | fail)
      · show Perm H (H ++ [])
        rw [List.append_nil]; exact Perm.refl _
      repeat' (first | fail)
      apply hK (k + 1)
      · exact ⟨by omega, by rw [List.take_add_one, List.take_add_one, ha, hb, List.map_append, List.map_append, hz]; simp [he]⟩
      · omega
      · exact zu
      · exact fun w hw => hw
    · rw [decide_eq_false he] at p2
      have hne : ¬ (c.map ClM.clm = d.map ClM.clm) := fun e => by
        have h1 : (c.map ClM.clm)[k]? = (d.map ClM.clm)[k]? := by rw [e]
        rw [List.getElem?_map, List.getElem?_map, ha, hb] at h1
        exact he (Option.some.inj h1)
      rw [decide_eq_false hne]
      clear hK
      repeat' (first | apply (zs1 ?_) | (apply zg4; refine zs9 ?_) | (apply (zs17 ?_ ?_) <;> intro _ <;> try (exfalso; omega)) | apply (zs65 ?_) | apply (zs68 ?_) | apply (zs69 ?_) | apply (zs70 ?_) | (apply zg27; refine zs71 ?_) | apply (zs73 ?_) | apply (zs76 ?_) | fail)
      apply YF [0, 1, 2, 3, 4, 5, 6, 7, 8, 9] []
      kernel_rfl
      kernel_rfl
      (simp only [Yi, nthO]; rfl)
      exact rfl
      repeat' (first | apply (zs1 ?_) | (apply zg3; refine zs61 ?_) | (apply zg5; refine zs57 ?_) | apply (zs87 ?_) | fail)
      first | apply Ya en73 | apply Yb en73
      exact za
      exact rfl
      exact fun _ hw => (p2 hax hbx hw)
      repeat' (first | apply (zs2 ?_) | (apply zg20; refine zs48 ?_) | apply (zs65 ?_) | (apply Yp; exact zp) | apply (zs68 ?_) | apply (zs69 ?_) | apply (zs70 ?_) | (apply zg27; refine zs71 ?_) | apply (zs74 ?_) | apply (zs77 ?_) | apply (zs78 ?_) | (apply Ym; (repeat (first | with_reducible exact Yh | (with_reducible apply Yg; (repeat (first | with_reducible exact Yf | with_reducible apply Ye)))))) | apply (zs93 ?_) | apply (zs94 ?_) | fail)
      · show Perm H (H ++ [])
        rw [List.append_nil]; exact Perm.refl _
      repeat' (first | fail)
      apply Yc; exact rfl; exact rfl; exact ⟨rfl, rfl⟩
  · rw [List.take_of_length_le (by omega), List.take_of_length_le (by omega)] at hz
    rw [decide_eq_true hz]
    repeat' (first | apply (zs1 ?_) | apply (zs2 ?_) | (apply zg4; refine zs9 ?_) | (apply (zs17 ?_ ?_) <;> intro _ <;> try (exfalso; omega)) | apply (zs65 ?_) | apply (zs68 ?_) | apply (zs69 ?_) | apply (zs70 ?_) | (apply zg27; refine zs72 ?_) | apply (zs74 ?_) | apply (zs75 ?_) | apply (zs80 ?_) | apply (zs81 ?_) | fail)
    apply Yc; exact rfl; exact rfl; exact ⟨rfl, rfl⟩
end Go.Proofs.YtmalhidldgfeoaaGreatDoor
namespace Go.Eng
open Go.RowKit
section
variable {P : Program} {B : Nat} {w0 : World} {Q : Exit → Act → World → Prop} {env : Env} {H : List HP} {m : Mode} {n : Shp} {ops : Array Oper} {rest : List Oper} {d : Nat} {ty : TypeId} {pos : String} {after : Array Edge}
theorem Yg5 {tx : Array TypeId} {x y : Operand} {a b : Int} {k k' : IntKind} (hx : evo env x = some (.int k a)) (hy : evo env y = some (.int k' b)) (hn : Nat.ble (d + 1) n.k = true) (h : VL P m n B w0 ops Q rest ((d, .int k (if b < a then b else a)) :: env) H) :
    VL P m n B w0 ops Q (⟨some d, .call ⟨.builtin .min, #[x, y], tx⟩, ty, pos, after, none⟩ :: rest) env H :=
  Yu rfl rfl hn rfl (fun f w ha _ => by simp [execOp, resolve, invoke, builtin, ha.eval hx, ha.eval hy, run_min_int2]) h
end
end Go.Eng
namespace Go.Proofs.YtmalhidldgfeoaaGreatDoor
open Go.RowKit Go.Eng Go.Nw Go.Rt
def Z2 (id : Int) (x : Clm) : Bool := decide (x.flow = id) && decide (0 < x.bounds.length)
theorem Ya7 (x : ClM) (id : Int) (g : Nat) {B : Nat} {w0 : World} {H : List HP} {w : World} (hl : x.bs.length ≤ 1000000000000) (hm : blk g (.cells #[.int .i64 id] 3 (0, 0)) ∈ H) (hw : St B w0 H w) :
    Calls Tryz.prog 90 [clV x, .pointer (some ⟨g, 0, none⟩)].toArray w (Post B w0 fun v K => v = .bool (Z2 id x.clm) ∧ K = H) := by
  refine Yd Tryz.func90 Tryz.ntmps90 rfl rfl hw ?_
  have e1 : Z2 id x.clm = (decide (x.flow = id) && decide (0 < x.bs.length)) := rfl
  unfold clV
  by_cases h1 : x.flow = id
  · by_cases h2 : 0 < x.bs.length
    · rw [e1, decide_eq_true h1, decide_eq_true h2]
      repeat' (first | apply (zs1 ?_) | apply (zs2 ?_) | (apply zg1; refine zs4 ?_) | (apply zg2; refine zs6 ?_) | (apply zg3; refine zs7 ?_) | (apply zg4; refine zs9 ?_) | (apply zg6; refine zs11 ?_) | (apply zg7; (refine zs15 ?_ ?_ <;> intro _ <;> try (exfalso; omega))) | (apply (zs19 ?_ ?_) <;> intro _ <;> try (exfalso; omega)) | (apply zg23; (refine zs52 ?_; intro _)) | apply (zs65 ?_) | apply (zs68 ?_) | apply (zs69 ?_) | apply (zs70 ?_) | apply (zs74 ?_) | fail)
      apply Yj H
      · exact zk
      apply Yc; exact rfl; exact rfl; exact ⟨rfl, rfl⟩
    · rw [e1, decide_eq_true h1, decide_eq_false h2]
      repeat' (first | apply (zs1 ?_) | apply (zs2 ?_) | (apply zg1; refine zs4 ?_) | (apply zg2; refine zs6 ?_) | (apply zg3; refine zs7 ?_) | (apply zg4; refine zs9 ?_) | (apply zg6; refine zs11 ?_) | (apply zg7; (refine zs15 ?_ ?_ <;> intro _ <;> try (exfalso; omega))) | (apply (zs19 ?_ ?_) <;> intro _ <;> try (exfalso; omega)) | (apply zg23; (refine zs52 ?_; intro _)) | apply (zs65 ?_) | apply (zs68 ?_) | apply (zs69 ?_) | apply (zs70 ?_) | apply (zs74 ?_) | fail)
      apply Yj H
      · exact zk
      apply Yc; exact rfl; exact rfl; exact ⟨rfl, rfl⟩
  · rw [e1, decide_eq_false h1]
    repeat' (first | apply (zs1 ?_) | apply (zs2 ?_) | (apply zg1; refine zs3 ?_) | (apply zg2; refine zs6 ?_) | (apply zg3; refine zs7 ?_) | (apply zg6; refine zs12 ?_) | (apply zg7; (refine zs15 ?_ ?_ <;> intro _ <;> try (exfalso; omega))) | (apply zg23; (refine zs52 ?_; intro _)) | apply (zs65 ?_) | apply (zs68 ?_) | apply (zs69 ?_) | apply (zs70 ?_) | apply (zs74 ?_) | fail)
    apply Yj H
    · exact zk
    apply Yc; exact rfl; exact rfl; exact ⟨rfl, rfl⟩
def idxC (P : Clm → Bool) (c : List Clm) : Int := match c.findIdx? P with | none => -1 | some i => (i : Nat)
theorem QM {P : Clm → Bool} {c : List Clm} (h : ∀ x ∈ c, P x = false) : idxC P c = -1 := by
  have : c.findIdx? P = none := by rw [List.findIdx?_eq_none_iff]; exact h
  unfold idxC; rw [this]
theorem QV {P : Clm → Bool} {c : List Clm} {i : Nat} {x : Clm} (h0 : ∀ y ∈ c.take i, P y = false) (hx : c[i]? = some x) (hp : P x = true) : idxC P c = (i : Nat) ∧ c.find? P = some x := by
  have hc : c = c.take i ++ (x :: c.drop (i + 1)) := by
    have hi := (List.getElem?_eq_some_iff.1 hx)
    obtain ⟨hi, e⟩ := hi
    rw [← e, List.getElem_cons_drop, List.take_append_drop]
  have hl : (c.take i).length = i := by
    have hi := (List.getElem?_eq_some_iff.1 hx).1
    rw [List.length_take]; omega
  have h1 : c.findIdx? P = some i := by
    rw [hc, List.findIdx?_append]
    have : (c.take i).findIdx? P = none := by rw [List.findIdx?_eq_none_iff]; exact h0
    rw [this]
    simp [List.findIdx?_cons, hp, hl]
  refine ⟨by unfold idxC; rw [h1], ?_⟩
  rw [hc, List.find?_append]
  have : (c.take i).find? P = none := by rw [List.find?_eq_none]; exact fun y hy => by rw [h0 y hy]; decide
  rw [this]
  simp [hp]
set_option maxRecDepth 10000 in
set_option maxHeartbeats 2000000 in
theorem Yb2 (c : List ClM) (id : Int) (g : Nat) {A : Option Addr} {cap B : Nat} {w0 : World} {H : List HP} {w : World} (hc : CIn B w0 H A c) (hm : blk g (.cells #[.int .i64 id] 3 (0, 0)) ∈ H) (hw : St B w0 H w) :
    Calls Tryz.prog 87 [.slice A c.length cap, .func (.func 90) #[] #[.pointer (some ⟨g, 0, none⟩)]].toArray w (Post B w0 fun v K => v = .int .i64 (idxC (Z2 id) (c.map ClM.clm)) ∧ K = H) := by
  refine Yd Tryz.func87 Tryz.ntmps87 rfl rfl hw ?_
  have hcl := hc.ln
  have hcr := hc.rd
  repeat' (first | apply (zs1 ?_) | apply (zs2 ?_) | (apply zg4; refine zs9 ?_) | apply (zs65 ?_) | apply (zs68 ?_) | apply (zs69 ?_) | apply (zs70 ?_) | apply (zs73 ?_) | fail)
  refine Yk (fun k : Nat => [(8, .int .i64 (k : Nat)), (7, .int .i64 c.length), (6, .slice A c.length cap), (0, .slice A c.length cap), (1, .func (.func 90) #[] #[.pointer (some ⟨g, 0, none⟩)])]) (fun _ => H) (fun k => k ≤ c.length ∧ ∀ y ∈ (c.map ClM.clm).take k, Z2 id y = false) (fun k => c.length - k) 0 ⟨Nat.zero_le _, by simp⟩ ?_ (fun w hw => hw) ?_
  · exact zu
  rintro k ⟨hk, hz⟩ K hK
  by_cases hlt : k < c.length
  · obtain ⟨x, hx⟩ : ∃ x, c[k]? = some x := ⟨_, List.getElem?_eq_getElem hlt⟩
    have hxm : (c.map ClM.clm)[k]? = some x.clm := by rw [List.getElem?_map, hx]; rfl
    have hxi := hc.x x (List.mem_of_getElem? hx)
    have p1 := fun {w : World} (hw : St B w0 H w) => Ya7 x id g hxi.ln.2.1 hm hw
    cases hb : Z2 id x.clm with
    | true =>
      rw [hb] at p1
      have hi := (QV hz hxm hb).1
      rw [hi]
      clear hK
      repeat' (first | ((first | apply YE (cs := [.pointer (some ⟨g, 0, none⟩)]) | apply Y4 (cs := [.pointer (some ⟨g, 0, none⟩)])); exact rfl; exact en90; exact za; exact rfl; exact fun _ hw => (p1 hw)) | apply (zs1 ?_) | apply (zs2 ?_) | (apply zg3; refine zs61 ?_) | (apply zg5; refine zs57 ?_) | (apply (zs17 ?_ ?_) <;> intro _ <;> try (exfalso; omega)) | apply (zs65 ?_) | apply (zs68 ?_) | apply (zs69 ?_) | apply (zs70 ?_) | (apply zg27; refine zs71 ?_) | apply (zs73 ?_) | apply (zs74 ?_) | apply (zs76 ?_) | apply (zs77 ?_) | apply (zs78 ?_) | fail)
      apply Yc; exact rfl; exact rfl; exact ⟨rfl, rfl⟩
    | false =>
      rw [hb] at p1
      repeat' (first | ((first | apply YE (cs := [.pointer (some ⟨g, 0, none⟩)]) | apply Y4 (cs := [.pointer (some ⟨g, 0, none⟩)])); exact rfl; exact en90; exact za; exact rfl; exact fun _ hw => (p1 hw)) | apply (zs1 ?_) | apply (zs2 ?_) | (apply zg3; refine zs61 ?_) | (apply zg5; refine zs57 ?_) | (apply (zs17 ?_ ?_) <;> intro _ <;> try (exfalso; omega)) | (apply zg13; refine zs30 ?_) | apply (zs65 ?_) | apply (zs68 ?_) | apply (zs69 ?_) | apply (zs70 ?_) | (apply zg27; first | refine zs71 ?_ | refine zs72 ?_) | apply (zs73 ?_) | apply (zs76 ?_) | apply (zs79 ?_) | fail)
      apply hK (k + 1)
      · exact ⟨by omega, fun y hy => by
          rw [List.take_add_one, hxm, Option.toList_some] at hy
          rcases List.mem_append.1 hy with h | h
          · exact hz y h
          · rw [List.mem_singleton.1 h]; exact hb⟩
      · omega
      · exact zu
      · exact fun w hw => hw
  · rw [List.take_of_length_le (by rw [List.length_map]; omega)] at hz
    rw [QM hz]
    repeat' (first | apply (zs2 ?_) | (apply (zs17 ?_ ?_) <;> intro _ <;> try (exfalso; omega)) | apply (zs65 ?_) | apply (zs68 ?_) | apply (zs69 ?_) | apply (zs70 ?_) | (apply zg27; refine zs72 ?_) | apply (zs74 ?_) | apply (zs75 ?_) | apply (zs80 ?_) | apply (zs81 ?_) | fail)
    apply Yc; exact rfl; exact rfl; exact ⟨rfl, rfl⟩
theorem YeT {l : List Int} {k : Nat} {y : Int} (h0 : 1 ≤ k) (h : l[k]? = some y) : minI (l.take (k + 1)) = if y < minI (l.take k) then y else minI (l.take k) := by
  rw [List.take_add_one, h, Option.toList_some]
  cases l with
  | nil => cases h
  | cons a l =>
    obtain ⟨k, rfl⟩ : ∃ j, k = j + 1 := ⟨k - 1, by omega⟩
    rw [List.take_succ_cons]
    show List.foldl (fun x y => if y < x then y else x) a (l.take k ++ [y]) = _
    rw [List.foldl_append]
    rfl
set_option maxRecDepth 10000 in
set_option maxHeartbeats 2000000 in
theorem Yd1 (l : List Int) (hlen : l.length ≤ 1000000000000) (h0 : 1 ≤ l.length) {A : Option Addr} {cap B : Nat} {w0 : World} {H : List HP} {w : World} (hr : Rd B w0 H A (l.flatMap numF)) (hw : St B w0 H w) :
    Calls Tryz.prog 91 [.slice A l.length cap].toArray w (Post B w0 fun v K => v = .int .i64 (minI l) ∧ K = H) := by
  refine Yd Tryz.func91 Tryz.ntmps91 rfl rfl hw ?_
  obtain ⟨a, ha⟩ : ∃ a, l[0]? = some a := ⟨_, List.getElem?_eq_getElem (by omega)⟩
  have ha2 : l[(0 : Int).toNat]? = some a := ha
  have hm1 : minI (l.take 1) = a := by
    cases l with
    | nil => cases ha
    | cons b l => exact Option.some.inj ha
  repeat' (first | apply (zs1 ?_) | apply (zs2 ?_) | (apply zg3; refine zs60 ?_) | (apply zg4; refine zs9 ?_) | (apply zg5; refine zs57 ?_) | (apply (zs17 ?_ ?_) <;> intro _ <;> try (exfalso; omega)) | apply (zs65 ?_) | apply (zs68 ?_) | apply (zs69 ?_) | apply (zs70 ?_) | (apply zg27; refine zs72 ?_) | apply (zs73 ?_) | apply (zs76 ?_) | fail)
  refine Yk (fun k : Nat => [(4, .int .i64 (k : Nat)), (3, .int .i64 (minI (l.take k))), (0, .slice A l.length cap)]) (fun _ => H) (fun k => 1 ≤ k ∧ k ≤ l.length) (fun k => l.length - k) 1 ⟨Nat.le_refl _, h0⟩ ?_ (fun w hw => hw) ?_
  · rw [hm1]
    exact zu
  rintro k ⟨hk1, hk⟩ K hK
  by_cases hlt : k < l.length
  · obtain ⟨y, hy⟩ : ∃ y, l[k]? = some y := ⟨_, List.getElem?_eq_getElem hlt⟩
    repeat' (first | (apply Yg5; exact rfl; exact rfl; exact rfl) | apply (zs1 ?_) | apply (zs2 ?_) | (apply zg3; refine zs60 ?_) | (apply zg4; refine zs9 ?_) | (apply zg5; refine zs57 ?_) | (apply (zs17 ?_ ?_) <;> intro _ <;> try (exfalso; omega)) | (apply zg13; refine zs30 ?_) | apply (zs65 ?_) | apply (zs68 ?_) | apply (zs69 ?_) | apply (zs70 ?_) | (apply zg27; refine zs71 ?_) | apply (zs73 ?_) | apply (zs76 ?_) | apply (zs79 ?_) | fail)
    apply hK (k + 1)
    · exact ⟨by omega, by omega⟩
    · omega
    · rw [YeT hk1 hy]
      exact zu
    · exact fun w hw => hw
  · rw [show l.take k = l from List.take_of_length_le (by omega)]
    repeat' (first | apply (zs1 ?_) | apply (zs2 ?_) | (apply zg4; refine zs9 ?_) | (apply (zs17 ?_ ?_) <;> intro _ <;> try (exfalso; omega)) | apply (zs65 ?_) | apply (zs68 ?_) | apply (zs69 ?_) | apply (zs70 ?_) | (apply zg27; refine zs72 ?_) | apply (zs74 ?_) | apply (zs75 ?_) | apply (zs80 ?_) | apply (zs81 ?_) | fail)
    apply Yc; exact rfl; exact rfl; exact ⟨rfl, rfl⟩
set_option maxRecDepth 10000 in
set_option maxHeartbeats 2000000 in
theorem Yb9 (c : List ClM) (id : Int) {A : Option Addr} {cap B : Nat} {w0 : World} {H : List HP} {w : World} (hc : CIn B w0 H A c) (hw : St B w0 H w) :
    Calls Tryz.prog 37 [.slice A c.length cap, .int .i64 id].toArray w (Post B w0 fun v K => v = .tuple #[.int .i64 (bndE (c.map ClM.clm) id).1, .bool (bndE (c.map ClM.clm) id).2] ∧ K = H) := by
  refine Yd Tryz.func37 Tryz.ntmps37 rfl rfl hw ?_
  have hcl := hc.ln
  have hcr := hc.rd
  repeat' (first | apply (zs1 ?_) | apply (zs2 ?_) | (apply zg23; (refine zs53 ?_; intro _)) | apply (zs65 ?_) | apply (zs68 ?_) | apply (zs69 ?_) | apply (zs70 ?_) | (apply zg29; (apply Yo; exact za ; exact rfl)) | fail)
  rename_i g
  have p1 := fun {H' : List HP} {w : World} (hc : CIn B w0 H' A c) (hm : blk g (.cells #[.int .i64 id] 3 (0, 0)) ∈ H') (hw : St B w0 H' w) => Yb2 c id g (cap := cap) hc hm hw
  by_cases hex : ∃ i x, (c.map ClM.clm)[i]? = some x ∧ Z2 id x = true ∧ ∀ y ∈ (c.map ClM.clm).take i, Z2 id y = false
  · obtain ⟨i, x, hx, hb, hz⟩ := hex
    obtain ⟨h1, h2⟩ := QV hz hx hb
    have hbe : bndE (c.map ClM.clm) id = (minI x.bounds, true) := by
      unfold bndE
      rw [show (c.map ClM.clm).find? (fun x => decide (x.flow = id) && decide (0 < x.bounds.length)) = some x from h2]
    rw [List.getElem?_map] at hx
    obtain ⟨y, hy, rfl⟩ : ∃ y, c[i]? = some y ∧ y.clm = x := by
      cases hc0 : c[i]? with
      | none => rw [hc0] at hx; cases hx
      | some y => rw [hc0] at hx; exact ⟨y, rfl, Option.some.inj hx⟩
    have hyi := hc.x y (List.mem_of_getElem? hy)
    have hi := (List.getElem?_eq_some_iff.1 hy).1
    have hpos : 1 ≤ y.bs.length := by
      unfold Z2 at hb
      rw [Bool.and_eq_true, decide_eq_true_eq, decide_eq_true_eq] at hb
      exact hb.2
    rw [h1] at p1
    rw [hbe]
    have p2 := fun {H' : List HP} {w : World} (hr : Rd B w0 H' y.bA (y.bs.flatMap numF)) (hw : St B w0 H' w) => Yd1 y.bs hyi.ln.2.1 hpos (cap := y.bcap) hr hw
    have hcr2 : Rd B w0 (blk g (.cells #[.int .i64 id] 3 (0, 0)) :: H) A (c.flatMap clF) := hcr.cons
    first | apply Ya en87 | apply Yb en87
    exact za
    exact rfl
    exact fun _ hw => (p1 hc.cons (.head _) hw)
    repeat' (first | apply (zs1 ?_) | apply (zs2 ?_) | (apply zg2; refine zs58 ?_) | (apply zg3; refine zs59 ?_) | (apply zg5; refine zs57 ?_) | (apply (zs17 ?_ ?_) <;> intro _ <;> try (exfalso; omega)) | apply (zs65 ?_) | apply (zs68 ?_) | apply (zs69 ?_) | apply (zs70 ?_) | (apply zg27; refine zs72 ?_) | apply (zs76 ?_) | fail)
    first | apply Ya en91 | apply Yb en91
    exact za
    exact rfl
    exact fun _ hw => (p2 hyi.bd.cons hw)
    repeat' (first | apply (zs2 ?_) | apply (zs65 ?_) | apply (zs68 ?_) | apply (zs74 ?_) | fail)
    apply Yj H
    · exact zk
    apply Yt; exact rfl; exact rfl; exact rfl; exact ⟨rfl, rfl⟩
  · have hall : ∀ y ∈ c.map ClM.clm, Z2 id y = false := by
      intro y hy
      cases hb : Z2 id y with
      | false => rfl
      | true =>
        exfalso
        have hsm : ((c.map ClM.clm).find? (Z2 id)).isSome = true := by
          rw [List.find?_isSome]; exact ⟨y, hy, hb⟩
        have hsi : ((c.map ClM.clm).findIdx? (Z2 id)).isSome = true := by
          rw [List.findIdx?_isSome, List.any_eq_true]; exact ⟨y, hy, hb⟩
        obtain ⟨i, hi⟩ := Option.isSome_iff_exists.1 hsi
        rw [List.findIdx?_eq_some_iff_getElem] at hi
        obtain ⟨hlt, hpi, hno⟩ := hi
        refine hex ⟨i, _, List.getElem?_eq_getElem hlt, hpi, fun z hz => ?_⟩
        obtain ⟨j, hj⟩ := List.mem_iff_getElem?.1 hz
        rw [List.getElem?_take] at hj
        split at hj
        · rename_i hji
          obtain ⟨hj1, hj2⟩ := List.getElem?_eq_some_iff.1 hj
          have := hno j hji
          rw [hj2] at this
          simpa using this
        · cases hj
    have hbe : bndE (c.map ClM.clm) id = (0, false) := by
      unfold bndE
      have : (c.map ClM.clm).find? (Z2 id) = none := by rw [List.find?_eq_none]; exact fun y hy => by rw [hall y hy]; decide
      rw [show (c.map ClM.clm).find? (fun x => decide (x.flow = id) && decide (0 < x.bounds.length)) = none from this]
    rw [QM hall] at p1
    rw [hbe]
    first | apply Ya en87 | apply Yb en87
    exact za
    exact rfl
    exact fun _ hw => (p1 hc.cons (.head _) hw)
    repeat' (first | apply (zs1 ?_) | apply (zs2 ?_) | (apply (zs17 ?_ ?_) <;> intro _ <;> try (exfalso; omega)) | apply (zs65 ?_) | apply (zs68 ?_) | apply (zs69 ?_) | apply (zs70 ?_) | (apply zg27; refine zs71 ?_) | apply (zs74 ?_) | apply (zs77 ?_) | fail)
    apply Yj H
    · exact zk
    apply Yt; exact rfl; exact rfl; exact rfl; exact ⟨rfl, rfl⟩
open Go.RowKit Go.Eng Go.Nw Go.Rt
structure ClM.Bg (B : Nat) (w0 : World) (H : List HP) (c : ClM) : Prop where
  rt : Rd B w0 H c.rA (c.rs.flatMap rowF)
  rw_ : ∀ r ∈ c.rs, Rd B w0 H r.A (r.xs.flatMap numF)
  bd : Rd B w0 H c.bA (c.bs.flatMap numF)
  ws : Rd B w0 H c.wA (c.ws.flatMap numF)
  st : Rd B w0 H c.sA (c.ss.flatMap rowF)
  sw : ∀ r ∈ c.ss, Rd B w0 H r.A (r.xs.flatMap numF)
  ln : c.rs.length ≤ 9223372036854775807 ∧ c.bs.length ≤ 9223372036854775807 ∧ c.ws.length ≤ 9223372036854775807 ∧ c.ss.length ≤ 9223372036854775807
  rl : ∀ r ∈ c.rs, r.xs.length ≤ 9223372036854775807
  sl : ∀ r ∈ c.ss, r.xs.length ≤ 9223372036854775807
structure CBg (B : Nat) (w0 : World) (H : List HP) (A : Option Addr) (c : List ClM) : Prop where
  rd : Rd B w0 H A (c.flatMap clF)
  x : ∀ x ∈ c, x.Bg B w0 H
  ln : c.length ≤ 9223372036854775807
def FewX (x : ClM) : Prop := x.rs.length ≤ 3 ∧ x.bs.length ≤ 8 ∧ x.ws.length ≤ 8 ∧ x.ss.length ≤ 8 ∧ (∀ r ∈ x.rs, r.xs.length ≤ 12) ∧ ∀ r ∈ x.ss, r.xs.length ≤ 70
def FewC (c : List ClM) : Prop := c.length ≤ 17 ∧ ∀ x ∈ c, FewX x
theorem CBg.small {B : Nat} {w0 : World} {H : List HP} {A : Option Addr} {c : List ClM} (h : CBg B w0 H A c) (hf : FewC c) : CIn B w0 H A c := by
  refine ⟨h.rd, fun x hx => ?_, by have := hf.1; omega⟩
  have h1 := h.x x hx
  obtain ⟨f1, f2, f3, f4, f5, f6⟩ := hf.2 x hx
  exact ⟨h1.rt, h1.rw_, h1.bd, h1.ws, h1.st, h1.sw, by omega, fun r hr => by have := f5 r hr; omega, fun r hr => by have := f6 r hr; omega⟩
theorem W5 {α : Type} {P : α → Prop} {l : List α} {k : Nat} {x : α} (h : ∀ y ∈ l.take k, P y) (hx : l[k]? = some x) (hp : P x) : ∀ y ∈ l.take (k + 1), P y := fun y hy => by
  rw [List.take_add_one, hx, Option.toList_some] at hy
  rcases List.mem_append.1 hy with h1 | h1
  · exact h y h1
  · rw [List.mem_singleton.1 h1]; exact hp
theorem YaT {α : Type} {P : α → Prop} {l : List α} {k : Nat} (h : ∀ y ∈ l.take k, P y) (hk : ¬ k < l.length) : ∀ y ∈ l, P y := by
  rw [List.take_of_length_le (by omega)] at h
  exact h
set_option maxRecDepth 10000 in
set_option maxHeartbeats 4000000 in
theorem Ov (c : List ClM) {A : Option Addr} {cap B : Nat} {w0 : World} {H : List HP} {w : World} (hc : CBg B w0 H A c) (hw : St B w0 H w) :
    Calls Tryz.prog 22 [.slice A c.length cap].toArray w (Post B w0 fun v K => (∃ b, v = .bool b ∧ (b = true → FewC c)) ∧ K = H) := by
  refine Yd Tryz.func22 Tryz.ntmps22 rfl rfl hw ?_
  have hcl := hc.ln
  have hcr := hc.rd
  repeat' (first | apply (zs1 ?_) | apply (zs2 ?_) | (apply zg1; first | refine zs3 ?_ | refine zs4 ?_) | (apply zg4; refine zs9 ?_) | (apply zg6; first | refine zs11 ?_ | refine zs12 ?_) | (apply zg8; (refine zs16 ?_ ?_ <;> intro _ <;> try (exfalso; omega))) | (apply (zs19 ?_ ?_) <;> intro _ <;> try (exfalso; omega)) | apply (zs65 ?_) | apply (zs68 ?_) | apply (zs69 ?_) | apply (zs70 ?_) | (apply zg27; first | refine zs71 ?_ | refine zs72 ?_) | apply (zs73 ?_) | apply (zs74 ?_) | apply (zs76 ?_) | apply (zs77 ?_) | fail)
  any_goals (apply Yc; exact rfl; exact rfl; exact ⟨⟨_, rfl, fun h => by cases h⟩, rfl⟩)
  all_goals (
    have hc17 : c.length ≤ 17 := by omega
    refine Yk (fun k : Nat => [(3, .int .i64 (k : Nat)), (0, .slice A c.length cap)]) (fun _ => H) (fun k => k ≤ c.length ∧ ∀ x ∈ c.take k, FewX x) (fun k => c.length - k) 0 ⟨Nat.zero_le _, by simp⟩ ?_ (fun w hw => hw) ?_
    · exact zu
    rintro i ⟨hi, hz⟩ K hK
    by_cases hlt : i < c.length
    rotate_left
    · repeat' (first | apply (zs1 ?_) | apply (zs2 ?_) | (apply zg4; refine zs9 ?_) | (apply (zs17 ?_ ?_) <;> intro _ <;> try (exfalso; omega)) | apply (zs65 ?_) | apply (zs68 ?_) | apply (zs69 ?_) | apply (zs70 ?_) | (apply zg27; refine zs72 ?_) | apply (zs74 ?_) | apply (zs75 ?_) | apply (zs80 ?_) | apply (zs81 ?_) | fail)
      apply Yc; exact rfl; exact rfl; exact ⟨⟨_, rfl, fun _ => ⟨hc17, YaT hz hlt⟩⟩, rfl⟩
    obtain ⟨x, hx⟩ : ∃ x, c[i]? = some x := ⟨_, List.getElem?_eq_getElem hlt⟩
    have hxi := hc.x x (List.mem_of_getElem? hx)
    have hxl := hxi.ln
    have hxr := hxi.rt
    have hxs := hxi.st
    repeat' (first | apply (zs1 ?_) | apply (zs2 ?_) | (apply zg1; first | refine zs3 ?_ | refine zs4 ?_) | (apply zg2; refine zs58 ?_) | (apply zg3; refine zs59 ?_) | (apply zg4; refine zs9 ?_) | (apply zg5; refine zs57 ?_) | (apply zg6; first | refine zs11 ?_ | refine zs12 ?_) | (apply (zs17 ?_ ?_) <;> intro _ <;> try (exfalso; omega)) | (apply (zs19 ?_ ?_) <;> intro _ <;> try (exfalso; omega)) | apply (zs65 ?_) | apply (zs68 ?_) | apply (zs69 ?_) | apply (zs70 ?_) | (apply zg27; first | refine zs71 ?_ | refine zs72 ?_) | apply (zs73 ?_) | apply (zs74 ?_) | apply (zs76 ?_) | apply (zs77 ?_) | apply (zs78 ?_) | fail)
    any_goals (apply Yc; exact rfl; exact rfl; exact ⟨⟨_, rfl, fun h => by cases h⟩, rfl⟩)
    have hx4 : x.rs.length ≤ 3 ∧ x.bs.length ≤ 8 ∧ x.ws.length ≤ 8 ∧ x.ss.length ≤ 8 := by omega
    refine Yk (fun k : Nat => [(4, .int .i64 (k : Nat)), (3, .int .i64 (i : Nat)), (0, .slice A c.length cap)]) (fun _ => H) (fun k => k ≤ x.rs.length ∧ ∀ r ∈ x.rs.take k, r.xs.length ≤ 12) (fun k => x.rs.length - k) 0 ⟨Nat.zero_le _, by simp⟩ ?_ (fun w hw => hw) ?_
    · exact zu
    rintro k ⟨hk, hz2⟩ K2 hK2
    by_cases hlk : k < x.rs.length
    · obtain ⟨r, hr⟩ : ∃ r, x.rs[k]? = some r := ⟨_, List.getElem?_eq_getElem hlk⟩
      have hrl := hxi.rl r (List.mem_of_getElem? hr)
      repeat' (first | apply (zs1 ?_) | apply (zs2 ?_) | (apply zg2; refine zs58 ?_) | (apply zg3; first | refine zs59 ?_ | refine zs60 ?_) | (apply zg4; refine zs9 ?_) | (apply zg5; refine zs57 ?_) | (apply (zs17 ?_ ?_) <;> intro _ <;> try (exfalso; omega)) | (apply (zs19 ?_ ?_) <;> intro _ <;> try (exfalso; omega)) | (apply zg13; refine zs30 ?_) | apply (zs65 ?_) | apply (zs68 ?_) | apply (zs69 ?_) | apply (zs70 ?_) | (apply zg27; first | refine zs71 ?_ | refine zs72 ?_) | apply (zs73 ?_) | apply (zs74 ?_) | apply (zs76 ?_) | apply (zs77 ?_) | apply (zs78 ?_) | apply (zs79 ?_) | fail)
      any_goals (apply Yc; exact rfl; exact rfl; exact ⟨⟨_, rfl, fun h => by cases h⟩, rfl⟩)
      apply hK2 (k + 1)
      · exact ⟨by omega, W5 hz2 hr (by omega)⟩
      · omega
      · exact zu
      · exact fun w hw => hw
    clear hK2
    repeat' (first | apply (zs1 ?_) | apply (zs2 ?_) | (apply zg2; refine zs58 ?_) | (apply zg3; refine zs59 ?_) | (apply zg4; refine zs9 ?_) | (apply zg5; refine zs57 ?_) | (apply (zs17 ?_ ?_) <;> intro _ <;> try (exfalso; omega)) | apply (zs65 ?_) | apply (zs68 ?_) | apply (zs69 ?_) | apply (zs70 ?_) | (apply zg27; refine zs72 ?_) | apply (zs73 ?_) | apply (zs75 ?_) | apply (zs80 ?_) | apply (zs81 ?_) | fail)
    refine Yk (fun k : Nat => [(5, .int .i64 (k : Nat)), (3, .int .i64 (i : Nat)), (0, .slice A c.length cap)]) (fun _ => H) (fun k => k ≤ x.ss.length ∧ ∀ r ∈ x.ss.take k, r.xs.length ≤ 70) (fun k => x.ss.length - k) 0 ⟨Nat.zero_le _, by simp⟩ ?_ (fun w hw => hw) ?_
    · exact zu
    have hz2 := YaT hz2 hlk
    rintro k ⟨hk, hz3⟩ K2 hK2
    by_cases hlk : k < x.ss.length
    · obtain ⟨r, hr⟩ : ∃ r, x.ss[k]? = some r := ⟨_, List.getElem?_eq_getElem hlk⟩
      have hrl := hxi.sl r (List.mem_of_getElem? hr)
      repeat' (first | apply (zs1 ?_) | apply (zs2 ?_) | (apply zg2; refine zs58 ?_) | (apply zg3; first | refine zs59 ?_ | refine zs60 ?_) | (apply zg4; refine zs9 ?_) | (apply zg5; refine zs57 ?_) | (apply (zs17 ?_ ?_) <;> intro _ <;> try (exfalso; omega)) | (apply (zs19 ?_ ?_) <;> intro _ <;> try (exfalso; omega)) | (apply zg13; refine zs30 ?_) | apply (zs65 ?_) | apply (zs68 ?_) | apply (zs69 ?_) | apply (zs70 ?_) | (apply zg27; first | refine zs71 ?_ | refine zs72 ?_) | apply (zs73 ?_) | apply (zs74 ?_) | apply (zs76 ?_) | apply (zs77 ?_) | apply (zs78 ?_) | apply (zs79 ?_) | fail)
      any_goals (apply Yc; exact rfl; exact rfl; exact ⟨⟨_, rfl, fun h => by cases h⟩, rfl⟩)
      apply hK2 (k + 1)
      · exact ⟨by omega, W5 hz3 hr (by omega)⟩
      · omega
      · exact zu
      · exact fun w hw => hw
    clear hK2
    repeat' (first | apply (zs1 ?_) | apply (zs2 ?_) | (apply zg2; refine zs58 ?_) | (apply zg3; refine zs59 ?_) | (apply zg4; refine zs9 ?_) | (apply zg5; refine zs57 ?_) | (apply (zs17 ?_ ?_) <;> intro _ <;> try (exfalso; omega)) | (apply zg13; refine zs30 ?_) | apply (zs65 ?_) | apply (zs68 ?_) | apply (zs69 ?_) | apply (zs70 ?_) | (apply zg27; refine zs72 ?_) | apply (zs75 ?_) | apply (zs79 ?_) | apply (zs80 ?_) | apply (zs81 ?_) | fail)
    apply hK (i + 1)
    · exact ⟨by omega, W5 hz hx ⟨hx4.1, hx4.2.1, hx4.2.2.1, hx4.2.2.2, hz2, YaT hz3 hlk⟩⟩
    · omega
    · exact zu
    · exact fun w hw => hw)
open Go.RowKit Go.Eng Go.Nw
theorem Z7 {n : Int} (h : 0 ≤ n ∧ n < 10) : Lib.itoa n = [UInt8.ofNat (48 + n.toNat)] := by
  rw [Z4 h.1, Lib.decDigits_one (by omega)]
end Go.Proofs.YtmalhidldgfeoaaGreatDoor
namespace Go.Eng
open Go.RowKit
theorem Yd4 {P : Program} {B : Nat} {w0 : World} {env : Env} {H : List HP} {n : Nat} (T : Tab P) {fn : Func} {Φ : Value → List HP → Prop} {p g k u p2 g2 k2 rt rt2 : Nat} {x : Value} {cs cs2 : Array Value} {tt tt2 : TypeId} {fr fr2 : Nat × Nat} (hr : fn.results = #[.cell p rt, .tmp u, .cell p2 rt2]) (hp : get env p = some (.pointer (some ⟨g, 0, none⟩))) (hu : get env u = some x) (hp2 : get env p2 = some (.pointer (some ⟨g2, 0, none⟩)))
    (hm : blk g (.cells cs tt fr) ∈ H) (hm2 : blk g2 (.cells cs2 tt2 fr2) ∈ H) (ht : look T.ag rt = some k) (ht2 : look T.ag rt2 = some k2) (hk : cs.size = k) (hk2 : cs2.size = k2) {H2 : List HP} (hH : ∀ w, St B w0 H w → St B w0 H2 w) (h : Φ (.tuple #[.agg cs, x, .agg cs2]) H2) : VQ ⟨n, [], none⟩ B w0 (bodyPost P fn (Post B w0 Φ)) .ret env H := by
  refine ⟨fun a w ha hw => bodyPost_ret (v := .tuple #[.agg cs, x, .agg cs2]) ?_ ha.defers ⟨_, H2, rfl, hH w hw, h⟩⟩
  have hp' := ha.slot p _ hp
  have hp2' := ha.slot p2 _ hp2
  simp [results, hr, Array.getD_eq_getD_getElem?, hp', hp2', ha.slot u _ hu, asAddr, Zh T (hw.blk hm).1 ht hk, Zh T (hw.blk hm2).1 ht2 hk2]
end Go.Eng
namespace Go.Proofs.YtmalhidldgfeoaaGreatDoor
open Go.RowKit Go.Eng Go.Nw Go.Rt
def exN8 : Net := ⟨3, [[0, 9, 9], [9, 0, 9], [9, 9, 0]], 1, 1000, [(0, 1, 1), (1, 0, 0), (1, 2, 1), (2, 1, 0)], [9, 9, 9, 9]⟩
def exQ : List Rqs := [((3, 0, 2, 6, 0, 6), [[0, 1, 2]])]
def exZ : Sch := ⟨6, 1, [(0, 0, 0, 1, 3), (1, 0, 1, 2, 3), (2, 0, 0, 1, 3), (3, 0, 1, 2, 3), (4, 0, 1, 2, 3)]⟩
set_option maxRecDepth 10000 in
set_option maxHeartbeats 4000000 in
theorem YcW {B : Nat} {w0 : World} {H : List HP} {w : World} (hw : St B w0 H w) :
    Calls Tryz.prog 65 [].toArray w (Post B w0 fun v K => ∃ (n : NetM) (A : Option Addr) (cap : Nat) (q : List RqM) (s : SchM), v = .tuple #[n.val, .slice A q.length cap, s.val] ∧ n.net = exN8 ∧ q.map RqM.rq = exQ ∧ s.sch = exZ ∧ n.In B w0 K ∧ QIn B w0 K A q ∧ Rd B w0 K s.A (s.cells.flatMap celF) ∧ ∀ w, St B w0 K w → St B w0 H w) := by
  refine Yd Tryz.func65 Tryz.ntmps65 rfl rfl hw ?_
  repeat' (first | apply (zs2 ?_) | (apply zg2; refine zs6 ?_) | (apply zg22; first | refine zs50 ?_ | refine zs51 ?_) | (apply zg24; (refine zs54 ?_; intro _)) | (apply zg25; refine zs55 ?_) | (apply zg26; (refine zs56 ?_; intro _)) | apply (zs65 ?_) | apply (zs68 ?_) | apply (zs69 ?_) | apply (zs70 ?_) | fail)
  rename_i g0 g2 r5 r6 r7 gp gm g3 gl gc g4
  apply WQ (.n1 0 (.n1 1 (.n1 6 (.n2 2 (.n2 3 (.n1 4 (.n2 5 (.n1 7 (.n1 8 .done)) 7 (.n1 5 (.n1 8 .done)))) 7 (.n1 3 (.n1 4 (.n1 5 (.n1 8 .done))))) 7 (.n1 2 (.n1 3 (.n1 4 (.n1 5 (.n1 8 .done))))))))) [9] [true, false, false, true]
  kernel_rfl
  kernel_rfl
  exact zy
  (simp only [Yi, nthO]; rfl)
  repeat' (first | apply (zs2 ?_) | (apply zg3; refine zs8 ?_) | (apply zg22; refine zs51 ?_) | (apply zg25; refine zs55 ?_) | (apply zg26; (refine zs56 ?_; intro _)) | apply (zs65 ?_) | (apply Yp; exact zp) | apply (zs68 ?_) | apply (zs74 ?_) | apply (zs87 ?_) | (apply Ym; (repeat (first | with_reducible exact Yh | (with_reducible apply Yg; (repeat (first | with_reducible exact Yf | with_reducible apply Ye)))))) | (apply WK; exact zp) | apply (zs90 ?_) | apply (zs91 ?_ ?_) | (apply X5; (repeat (first | with_reducible exact Yh | (with_reducible apply Yg; (repeat (first | with_reducible exact Yf | with_reducible apply Ye)))))) | apply (zs93 ?_) | apply (zs94 ?_) | fail)
  all_goals (
    rename_i gi gr gq
    apply Yd4 T; exact rfl; exact rfl; exact rfl; exact rfl; exact zm; exact zm; exact rfl; exact rfl; exact rfl; exact rfl; exact fun w hw => hw
    refine ⟨⟨3, (some ⟨gp, 0, none⟩), 3, [⟨(some ⟨r5, 0, none⟩), 3, [0, 9, 9]⟩, ⟨(some ⟨r6, 0, none⟩), 3, [9, 0, 9]⟩, ⟨(some ⟨r7, 0, none⟩), 3, [9, 9, 0]⟩], 1, 1000, (some ⟨gl, 0, none⟩), 4, [(0, 1, 1), (1, 0, 0), (1, 2, 1), (2, 1, 0)], (some ⟨gm, 0, none⟩), 4, [9, 9, 9, 9]⟩, (some ⟨gq, 0, none⟩), 1, [⟨(3, 0, 2, 6, 0, 6), (some ⟨gr, 0, none⟩), 1, [⟨(some ⟨gi, 0, none⟩), 3, [0, 1, 2]⟩]⟩], ⟨6, 1, (some ⟨gc, 0, none⟩), 5, exZ.cells⟩, rfl, rfl, rfl, rfl, ?_, ?_, ?_, ?_⟩
    · refine ⟨Rd.blk (cs := #[.slice (some ⟨r5, 0, none⟩) 3 3, .slice (some ⟨r6, 0, none⟩) 3 3, .slice (some ⟨r7, 0, none⟩) 3 3]) (t := 24) (fr := (0, 0)) zm, fun r hr => ?_, Rd.blk (cs := #[.int .i64 0, .int .i64 1, .int .i64 1, .int .i64 1, .int .i64 0, .int .i64 0, .int .i64 1, .int .i64 2, .int .i64 1, .int .i64 2, .int .i64 1, .int .i64 0]) (t := 172) (fr := (0, 0)) zm, Rd.blk (cs := #[.int .i64 9, .int .i64 9, .int .i64 9, .int .i64 9]) (t := 3) (fr := (0, 0)) zm, by show 3 ≤ _; omega, fun r hr => ?_, by show 4 ≤ _; omega, by show 4 ≤ _; omega⟩
      · simp only [List.mem_cons, List.not_mem_nil, or_false] at hr
        rcases hr with rfl | rfl | rfl
        · exact Rd.blk (cs := #[.int .i64 0, .int .i64 9, .int .i64 9]) (t := 3) (fr := (0, 0)) zm
        · exact Rd.blk (cs := #[.int .i64 9, .int .i64 0, .int .i64 9]) (t := 3) (fr := (0, 0)) zm
        · exact Rd.blk (cs := #[.int .i64 9, .int .i64 9, .int .i64 0]) (t := 3) (fr := (0, 0)) zm
      · simp only [List.mem_cons, List.not_mem_nil, or_false] at hr
        rcases hr with rfl | rfl | rfl <;> (show 3 ≤ _; omega)
    · refine ⟨Rd.blk (cs := #[.int .i64 3, .int .i64 0, .int .i64 2, .int .i64 6, .int .i64 0, .int .i64 6, .slice (some ⟨gr, 0, none⟩) 1 1]) (t := 70) (fr := (0, 0)) zm, fun x hx => ?_, by show 1 ≤ _; omega⟩
      obtain rfl := List.mem_singleton.1 hx
      refine ⟨Rd.blk (cs := #[.slice (some ⟨gi, 0, none⟩) 3 3]) (t := 72) (fr := (0, 0)) zm, fun r hr => ?_, by show 1 ≤ _; omega, fun r hr => ?_⟩
      · obtain rfl := List.mem_singleton.1 hr
        exact Rd.blk (cs := #[.int .i64 0, .int .i64 1, .int .i64 2]) (t := 3) (fr := (0, 0)) zm
      · obtain rfl := List.mem_singleton.1 hr
        exact ⟨by show 3 ≤ _; omega, by show 3 ≤ 3; omega⟩
    · exact Rd.blk (cs := #[.int .i64 0, .int .i64 0, .int .i64 0, .int .i64 1, .int .i64 3, .int .i64 1, .int .i64 0, .int .i64 1, .int .i64 2, .int .i64 3, .int .i64 2, .int .i64 0, .int .i64 0, .int .i64 1, .int .i64 3, .int .i64 3, .int .i64 0, .int .i64 1, .int .i64 2, .int .i64 3, .int .i64 4, .int .i64 0, .int .i64 1, .int .i64 2, .int .i64 3]) (t := 40) (fr := (0, 0)) zm
    · exact zk)
open Go.RowKit Go.Eng Go.Nw Go.Rt
def exK : Clm := ⟨3, [[0, 1, 2]], [5], [0], [[0, 2, 3, 4]]⟩
theorem Ydw : V9 exN8 exQ exZ = ([exK], (-1, 0)) := by decide
theorem QH : ZA [exK] = true := by decide
theorem YeX : bndE [exK] 3 = (5, true) := by decide
def Qe : List UInt8 := [102, 108, 111, 119, 32, 51, 10, 114, 111, 117, 116, 101, 32, 48, 32, 49, 32, 50, 10, 98, 111, 117, 110, 100, 32, 53, 32, 48, 10, 115, 108, 111, 116, 115, 32, 48, 32, 50, 32, 51, 32, 52, 10]
theorem Q9 : JK [exK] = Qe := by
  have h0 : Lib.itoa 0 = [48] := Z7 (by omega)
  have h1 : Lib.itoa 1 = [49] := Z7 (by omega)
  have h2 : Lib.itoa 2 = [50] := Z7 (by omega)
  have h3 : Lib.itoa 3 = [51] := Z7 (by omega)
  have h4 : Lib.itoa 4 = [52] := Z7 (by omega)
  have h5 : Lib.itoa 5 = [53] := Z7 (by omega)
  unfold JK XJ exK
  simp only [List.flatMap_cons, List.flatMap_nil, List.length_cons, List.length_nil, show List.range (0 + 1) = [0] from rfl]
  unfold Ybk YA rtAt
  simp [h0, h1, h2, h3, h4, h5, Qe, wordF, wordR, wordB, wordL]
set_option maxRecDepth 10000 in
set_option maxHeartbeats 4000000 in
theorem YbD {B : Nat} {w0 : World} {H : List HP} {w : World} (ht : TabsB B w0) (hw : St B w0 H w) :
    Calls Tryz.prog 17 [].toArray w (Post B w0 fun v K => v = .bool true ∧ K = H) := by
  refine Yd Tryz.func17 Tryz.ntmps17 rfl rfl hw ?_
  have hpr : YU [exK] = (Qe, 0) := by unfold YU; rw [QH, if_neg (by decide), Q9]
  have hpa : XO Qe = ([exK], (-1, 0)) := by rw [← Q9]; exact V7 QH
  repeat' (first | apply (zs2 ?_) | apply (zs65 ?_) | apply (zs68 ?_) | apply (zs69 ?_) | apply (zs70 ?_) | fail)
  apply Ys _ en65
  exact za
  exact rfl
  exact fun _ hw => (YcW (hw))
  rintro _ K0 ⟨n, A, cap, q, s, rfl, hn, hq, hs, hin, hqin, hrs, hback⟩
  have hsl : s.cells.length ≤ 1000000000000 := by
    have h1 : s.sch.cells.length = 5 := by rw [hs]; rfl
    have h2 : s.cells.length = 5 := h1
    omega
  have p1 : ∀ {H' : List HP} {w : World}, n.In B w0 H' → QIn B w0 H' A q → Rd B w0 H' s.A (s.cells.flatMap celF) → St B w0 H' w → Calls Tryz.prog 19 [n.val, .slice A q.length cap, s.val].toArray w (Post B w0 (OutC H' ([exK], (-1, 0)))) := fun hin hqin hrs hw => by
    have h := QN n q s (cap := cap) ht hin hqin hrs hsl hw
    rw [hn, hq, hs, Ydw] at h
    exact h
  have hchk : chkE exN8 exQ exZ [exK] = (-1, 0) := by unfold chkE; rw [Ydw]; decide
  unfold NetM.val SchM.val
  unfold NetM.val SchM.val at p1
  repeat' (first | apply (zs1 ?_) | apply (zs2 ?_) | (apply zg3; refine zs8 ?_) | apply (zs13 ?_) | (apply zg22; refine zs51 ?_) | (apply zg24; (refine zs54 ?_; intro _)) | apply (zs65 ?_) | apply (zs68 ?_) | apply (zs69 ?_) | apply (zs70 ?_) | fail)
  apply Ys _ en19
  exact za
  exact rfl
  exact fun _ hw => (p1 (hin.mono zk) (hqin.mono zk) (hrs.mono zk) (hw))
  rintro _ _ ⟨A2, cap2, C, rfl, hC, hCl, rfl⟩
  have hC : C.map ClM.clm = [exK] := hC
  have hCn : C.length = 1 := by have := congrArg List.length hC; rwa [List.length_map] at this
  have hcin : ∀ {H' : List HP}, clsP A2 cap2 C ∈ H' → many (C.map clQ) ∈ H' → CIn B w0 H' A2 C := fun h1 h2 => ⟨.sl h1, fun x hx => Vd h2 hx (hCl x hx), by omega⟩
  have p2 : ∀ {H' : List HP} {w : World}, CIn B w0 H' A2 C → St B w0 H' w → Calls Tryz.prog 25 [.slice A2 C.length cap2].toArray w (Post B w0 fun v K => v = .tuple #[strV Qe, .int .i64 0] ∧ K = H') := fun hc hw => by
    have h := ZT C (cap := cap2) ht hc hw
    rw [hC, hpr] at h
    exact h
  have p3 : ∀ {H' : List HP} {w : World}, n.In B w0 H' → QIn B w0 H' A q → Rd B w0 H' s.A (s.cells.flatMap celF) → CIn B w0 H' A2 C → St B w0 H' w → Calls Tryz.prog 23 [n.val, .slice A q.length cap, s.val, .slice A2 C.length cap2].toArray w (Post B w0 fun v K => v = .tuple #[.int .i64 (-1), .int .i64 0] ∧ K = H') := fun hin hqin hrs hc hw => by
    have h := Ya2 n q s C (cap := cap) (cap1 := cap2) ht hin hqin hrs hsl hc hw
    rw [hn, hq, hs, hC, hchk] at h
    exact h
  have p4 : ∀ {H' : List HP} {w : World}, St B w0 H' w → Calls Tryz.prog 27 [strV Qe].toArray w (Post B w0 (OutC H' ([exK], (-1, 0)))) := fun hw => by
    have h := JP Qe (by decide) ht hw
    rw [hpa] at h
    exact h
  have p5 : ∀ {H' : List HP} {w : World}, CIn B w0 H' A2 C → St B w0 H' w → Calls Tryz.prog 37 [.slice A2 C.length cap2, .int .i64 3].toArray w (Post B w0 fun v K => v = .tuple #[.int .i64 5, .bool true] ∧ K = H') := fun hc hw => by
    have h := Yb9 C 3 (cap := cap2) hc hw
    rw [hC, YeX] at h
    exact h
  unfold NetM.val SchM.val at p3
  repeat' (first | apply (zs1 ?_) | apply (zs2 ?_) | apply (zs13 ?_) | apply (zs65 ?_) | apply (zs68 ?_) | apply (zs69 ?_) | apply (zs70 ?_) | fail)
  first | apply Ya en25 | apply Yb en25
  exact za
  exact rfl
  exact fun _ hw => (p2 (hcin zm zm) hw)
  repeat' (first | apply (zs1 ?_) | apply (zs2 ?_) | (apply zg3; refine zs8 ?_) | apply (zs13 ?_) | apply (zs65 ?_) | apply (zs68 ?_) | apply (zs69 ?_) | apply (zs70 ?_) | fail)
  first | apply Ya en23 | apply Yb en23
  exact za
  exact rfl
  exact fun _ hw => (p3 (hin.mono zk) (hqin.mono zk) (hrs.mono zk) (hcin zm zm) hw)
  repeat' (first | apply (zs1 ?_) | apply (zs2 ?_) | apply (zs13 ?_) | apply (zs65 ?_) | apply (zs68 ?_) | apply (zs69 ?_) | apply (zs70 ?_) | fail)
  apply Ys _ en27
  exact za
  exact rfl
  exact fun _ hw => (p4 (hw))
  rintro _ _ ⟨A3, cap3, C3, rfl, hC3, hCl3, rfl⟩
  have hC3 : C3.map ClM.clm = [exK] := hC3
  have hCn3 : C3.length = 1 := by have := congrArg List.length hC3; rwa [List.length_map] at this
  have hcin3 : ∀ {H' : List HP}, clsP A3 cap3 C3 ∈ H' → many (C3.map clQ) ∈ H' → CIn B w0 H' A3 C3 := fun h1 h2 => ⟨.sl h1, fun x hx => Vd h2 hx (hCl3 x hx), by omega⟩
  have p6 : ∀ {H' : List HP} {w : World}, CIn B w0 H' A2 C → CIn B w0 H' A3 C3 → St B w0 H' w → Calls Tryz.prog 21 [.slice A2 C.length cap2, .slice A3 C3.length cap3].toArray w (Post B w0 fun v K => v = .bool true ∧ K = H') := fun hc hd hw => by
    have h := Vj C C3 (cap := cap2) (cap2 := cap3) hc hd hw
    rw [hC, hC3, decide_eq_true rfl] at h
    exact h
  dsimp only
  repeat' (first | apply (zs1 ?_) | apply (zs2 ?_) | apply (zs13 ?_) | apply (zs65 ?_) | apply (zs68 ?_) | apply (zs69 ?_) | apply (zs70 ?_) | fail)
  first | apply Ya en37 | apply Yb en37
  exact za
  exact rfl
  exact fun _ hw => (p5 (hcin zm zm) hw)
  repeat' (first | (apply YaP; exact rfl; exact rfl; exact rfl; all_goals (intro hE; try (exact absurd rfl hE))) | apply (zs1 ?_) | apply (zs2 ?_) | (apply zg1; refine zs4 ?_) | (apply zg6; refine zs11 ?_) | apply (zs13 ?_) | (apply zg7; (refine zs15 ?_ ?_ <;> intro _ <;> try (exfalso; omega))) | apply (zs65 ?_) | apply (zs68 ?_) | apply (zs69 ?_) | apply (zs70 ?_) | fail)
  first | apply Ya en21 | apply Yb en21
  exact za
  exact rfl
  exact fun _ hw => (p6 (hcin zm zm) (hcin3 zm zm) hw)
  repeat' (first | apply (zs1 ?_) | apply (zs2 ?_) | (apply zg1; refine zs4 ?_) | (apply zg6; refine zs11 ?_) | (apply zg7; (refine zs15 ?_ ?_ <;> intro _ <;> try (exfalso; omega))) | apply (zs65 ?_) | apply (zs68 ?_) | apply (zs74 ?_) | fail)
  apply Yj H
  · intro w hw
    refine hback w ?_
    revert w
    exact zk
  apply Yc; exact rfl; exact rfl
  exact ⟨rfl, rfl⟩
open Go.RowKit Go.Eng Go.Nw Go.Rt
theorem QO {text : List UInt8} {c : List Clm} {i e : Int} (h : XO text = (c, (i, e))) (he : e ≠ 0) : c = [] := by
  unfold XO ZU at h
  split at h
  · injection h with h1 _; exact h1.symm
  · split at h
    · injection h with h1 _; exact h1.symm
    · split at h
      · injection h with h1 _; exact h1.symm
      · injection h with _ h2
        injection h2 with _ h3
        exact absurd h3.symm he
theorem Yej (text : List UInt8) : (XO text).1.length ≤ text.length + 1 := by
  have hc := Vq (c := 10) text
  unfold XO ZU
  split
  · exact Nat.zero_le _
  · split
    · exact Nat.zero_le _
    · split
      · exact Nat.zero_le _
      · unfold JJ
        cases hp : XM (cutC 10 text) ((cutC 10 text).length - 1) with
        | none => exact Nat.zero_le _
        | some p =>
          have := (Ybb hp).2
          show p.c.length ≤ _
          omega
set_option maxRecDepth 10000 in
set_option maxHeartbeats 4000000 in
theorem Qm (c : List ClM) (text : List UInt8) {A : Option Addr} {cap B : Nat} {w0 : World} {H : List HP} {w : World} (ht : TabsB B w0) (hcb : CBg B w0 H A c) (hw : St B w0 H w) :
    Calls Tryz.prog 8 [.slice A c.length cap, strV text].toArray w (Post B w0 fun v K => v = .bool true ∧ K = H) := by
  have hs : (⟨text.toArray⟩ : ByteArray).size = text.length := by simp [ByteArray.size]
  refine Yd Tryz.func8 Tryz.ntmps8 rfl rfl hw ?_
  have p0 := fun {H' : List HP} {w : World} (hc : CBg B w0 H' A c) (hw : St B w0 H' w) => Ov c (cap := cap) hc hw
  repeat' (first | apply (zs2 ?_) | apply (zs65 ?_) | apply (zs68 ?_) | apply (zs69 ?_) | apply (zs70 ?_) | fail)
  first | apply Ya en17 | apply Yb en17
  exact za
  exact rfl
  exact fun _ hw => (YbD ht hw)
  repeat' (first | apply (zs1 ?_) | (apply zg20; refine zs47 ?_) | apply (zs65 ?_) | apply (zs68 ?_) | apply (zs69 ?_) | apply (zs70 ?_) | (apply zg27; refine zs72 ?_) | apply (zs76 ?_) | fail)
  apply Ys _ en22
  exact za
  exact rfl
  exact fun _ hw => (p0 hcb (hw))
  rintro _ _ ⟨⟨b, rfl, hfew⟩, hK0⟩
  rw [hK0]
  cases b with
  | false =>
    repeat' (first | apply (zs1 ?_) | apply (zs2 ?_) | (apply zg1; refine zs3 ?_) | (apply zg6; refine zs11 ?_) | (apply zg20; refine zs48 ?_) | apply (zs65 ?_) | apply (zs68 ?_) | apply (zs69 ?_) | apply (zs70 ?_) | (apply zg27; refine zs71 ?_) | apply (zs74 ?_) | apply (zs77 ?_) | fail)
    apply Yc; exact rfl; exact rfl; exact ⟨rfl, rfl⟩
  | true =>
  have hc := hcb.small (hfew rfl)
  by_cases hg2 : 2000 < text.length
  · repeat' (first | apply (zs1 ?_) | apply (zs2 ?_) | (apply zg1; refine zs4 ?_) | (apply zg4; refine zs14 ?_) | (apply zg6; refine zs12 ?_) | (apply (zs19 ?_ ?_) <;> intro _ <;> try (exfalso; omega)) | (apply zg20; refine zs47 ?_) | apply (zs65 ?_) | apply (zs68 ?_) | apply (zs69 ?_) | apply (zs70 ?_) | (apply zg27; refine zs71 ?_) | apply (zs74 ?_) | apply (zs77 ?_) | fail)
    apply Yc; exact rfl; exact rfl; exact ⟨rfl, rfl⟩
  obtain ⟨⟨pc, pi, pe⟩, hR⟩ : ∃ R, XO text = R := ⟨_, rfl⟩
  have hpn := Yej text
  rw [hR] at hpn
  dsimp only at hpn
  have q1 : ∀ {H' : List HP} {w : World}, St B w0 H' w → Calls Tryz.prog 27 [strV text].toArray w (Post B w0 (OutC H' (pc, (pi, pe)))) := fun hw => by
    have h := JP text (by omega) ht hw
    rw [hR] at h
    exact h
  obtain ⟨cs, hcs⟩ : ∃ cs, c.map ClM.clm = cs := ⟨_, rfl⟩
  have p1 : ∀ {H' : List HP} {w : World}, CIn B w0 H' A c → St B w0 H' w → Calls Tryz.prog 25 [.slice A c.length cap].toArray w (Post B w0 fun v K => v = .tuple #[strV (YU cs).1, .int .i64 (YU cs).2] ∧ K = H') := fun hc hw => by
    have h := ZT c (cap := cap) ht hc hw
    rw [hcs] at h
    exact h
  cases hf : ZA cs with
  | false =>
    have hp : YU cs = ([], 1) := by unfold YU; rw [if_pos hf]
    rw [hp] at p1
    repeat' (first | apply (zs1 ?_) | (apply zg1; refine zs4 ?_) | (apply zg4; refine zs14 ?_) | (apply zg6; refine zs12 ?_) | (apply (zs19 ?_ ?_) <;> intro _ <;> try (exfalso; omega)) | (apply zg20; refine zs47 ?_) | apply (zs65 ?_) | apply (zs68 ?_) | apply (zs69 ?_) | apply (zs70 ?_) | (apply zg27; refine zs72 ?_) | apply (zs76 ?_) | fail)
    first | apply Ya en25 | apply Yb en25
    exact za
    exact rfl
    exact fun _ hw => (p1 hc hw)
    repeat' (first | apply (zs1 ?_) | apply (zs2 ?_) | apply (zs13 ?_) | (apply zg7; (refine zs15 ?_ ?_ <;> intro _ <;> try (exfalso; omega))) | apply (zs65 ?_) | apply (zs68 ?_) | apply (zs69 ?_) | apply (zs70 ?_) | (apply zg27; refine zs72 ?_) | apply (zs76 ?_) | fail)
    apply Ys _ en27
    exact za
    exact rfl
    exact fun _ hw => (q1 (hw))
    rintro _ _ ⟨A4, cap4, C4, rfl, hC4, hCl4, rfl⟩
    have hC4 : C4.map ClM.clm = pc := hC4
    have hCn4 : C4.length ≤ 1000000 := by have := congrArg List.length hC4; rw [List.length_map] at this; omega
    have hcin4 : ∀ {H' : List HP}, clsP A4 cap4 C4 ∈ H' → many (C4.map clQ) ∈ H' → CIn B w0 H' A4 C4 := fun h1 h2 => ⟨.sl h1, fun x hx => Vd h2 hx (hCl4 x hx), by omega⟩
    have q2 : ∀ {H' : List HP} {w : World}, CIn B w0 H' A4 C4 → St B w0 H' w → Calls Tryz.prog 25 [.slice A4 C4.length cap4].toArray w (Post B w0 fun v K => v = .tuple #[strV (YU pc).1, .int .i64 (YU pc).2] ∧ K = H') := fun hc hw => by
      have h := ZT C4 (cap := cap4) ht hc hw
      rw [hC4] at h
      exact h
    dsimp only
    by_cases he : pe = 0
    · subst he
      obtain ⟨hf4, ht4, _⟩ := V1 hR
      have hp4 : YU pc = (text, 0) := by unfold YU; rw [hf4, if_neg (by decide), ht4]
      rw [hp4] at q2
      repeat' (first | apply (zs1 ?_) | apply (zs2 ?_) | apply (zs13 ?_) | (apply zg8; (refine zs16 ?_ ?_ <;> intro _ <;> try (exfalso; omega))) | apply (zs65 ?_) | apply (zs68 ?_) | apply (zs69 ?_) | apply (zs70 ?_) | (apply zg27; refine zs72 ?_) | apply (zs76 ?_) | fail)
      first | apply Ya en25 | apply Yb en25
      exact za
      exact rfl
      exact fun _ hw => (q2 (hcin4 zm zm) hw)
      repeat' (first | (apply YaP; exact rfl; exact rfl; exact rfl; all_goals (intro hE; try (exact absurd rfl hE))) | apply (zs1 ?_) | apply (zs2 ?_) | (apply zg1; refine zs4 ?_) | (apply zg6; refine zs11 ?_) | apply (zs13 ?_) | (apply zg7; (refine zs15 ?_ ?_ <;> intro _ <;> try (exfalso; omega))) | apply (zs65 ?_) | apply (zs68 ?_) | apply (zs69 ?_) | apply (zs70 ?_) | apply (zs74 ?_) | fail)
      apply Yj H
      · exact zk
      apply Yc; exact rfl; exact rfl; exact ⟨rfl, rfl⟩
    · have hnil : C4.length = 0 := by
        have h1 := QO hR he
        have := congrArg List.length hC4
        rwa [h1, List.length_map, List.length_nil] at this
      repeat' (first | apply (zs1 ?_) | apply (zs2 ?_) | (apply zg4; refine zs9 ?_) | apply (zs13 ?_) | (apply zg7; (refine zs15 ?_ ?_ <;> intro _ <;> try (exfalso; omega))) | (apply zg8; (refine zs16 ?_ ?_ <;> intro _ <;> try (exfalso; omega))) | apply (zs65 ?_) | apply (zs68 ?_) | apply (zs69 ?_) | apply (zs70 ?_) | (apply zg27; refine zs71 ?_) | apply (zs74 ?_) | apply (zs77 ?_) | fail)
      apply Yj H
      · exact zk
      apply Yc; exact rfl; exact rfl; exact ⟨rfl, rfl⟩
  | true =>
    have hp : YU cs = (JK cs, 0) := by unfold YU; rw [hf, if_neg (by decide)]
    rw [hp] at p1
    obtain ⟨hf1, hf2⟩ := Ob hf
    obtain ⟨tx, htx⟩ : ∃ tx, JK cs = tx := ⟨_, rfl⟩
    have htl : tx.length ≤ 100000 := by
      have := UJ hf2 cs.length (Nat.le_refl _)
      rw [← QQ hf2, htx] at this
      omega
    have hpp := V7 hf
    rw [htx] at p1 hpp
    have p2 : ∀ {H' : List HP} {w : World}, St B w0 H' w → Calls Tryz.prog 27 [strV tx].toArray w (Post B w0 (OutC H' (cs, (-1, 0)))) := fun hw => by
      have h := JP tx htl ht hw
      rw [hpp] at h
      exact h
    repeat' (first | apply (zs1 ?_) | (apply zg1; refine zs4 ?_) | (apply zg4; refine zs14 ?_) | (apply zg6; refine zs12 ?_) | (apply (zs19 ?_ ?_) <;> intro _ <;> try (exfalso; omega)) | (apply zg20; refine zs47 ?_) | apply (zs65 ?_) | apply (zs68 ?_) | apply (zs69 ?_) | apply (zs70 ?_) | (apply zg27; refine zs72 ?_) | apply (zs76 ?_) | fail)
    first | apply Ya en25 | apply Yb en25
    exact za
    exact rfl
    exact fun _ hw => (p1 hc hw)
    repeat' (first | apply (zs1 ?_) | apply (zs2 ?_) | apply (zs13 ?_) | (apply zg7; (refine zs15 ?_ ?_ <;> intro _ <;> try (exfalso; omega))) | apply (zs65 ?_) | apply (zs68 ?_) | apply (zs69 ?_) | apply (zs70 ?_) | (apply zg27; refine zs71 ?_) | fail)
    apply Ys _ en27
    exact za
    exact rfl
    exact fun _ hw => (p2 (hw))
    rintro _ _ ⟨A3, cap3, C3, rfl, hC3, hCl3, rfl⟩
    have hC3 : C3.map ClM.clm = cs := hC3
    have hCn3 : C3.length ≤ 16 := by have := congrArg List.length hC3; rw [List.length_map] at this; omega
    have hcin3 : ∀ {H' : List HP}, clsP A3 cap3 C3 ∈ H' → many (C3.map clQ) ∈ H' → CIn B w0 H' A3 C3 := fun h1 h2 => ⟨.sl h1, fun x hx => Vd h2 hx (hCl3 x hx), by omega⟩
    have p6 : ∀ {H' : List HP} {w : World}, CIn B w0 H' A c → CIn B w0 H' A3 C3 → St B w0 H' w → Calls Tryz.prog 21 [.slice A c.length cap, .slice A3 C3.length cap3].toArray w (Post B w0 fun v K => v = .bool true ∧ K = H') := fun hc hd hw => by
      have h := Vj c C3 (cap := cap) (cap2 := cap3) hc hd hw
      rw [hcs, hC3, decide_eq_true rfl] at h
      exact h
    dsimp only
    repeat' (first | apply (zs1 ?_) | apply (zs2 ?_) | (apply zg1; refine zs4 ?_) | (apply zg6; refine zs12 ?_) | apply (zs13 ?_) | (apply zg8; (refine zs16 ?_ ?_ <;> intro _ <;> try (exfalso; omega))) | apply (zs65 ?_) | apply (zs68 ?_) | apply (zs69 ?_) | apply (zs70 ?_) | fail)
    first | apply Ya en21 | apply Yb en21
    exact za
    exact rfl
    exact fun _ hw => (p6 (hc.mono zk) (hcin3 zm zm) hw)
    repeat' (first | apply (zs1 ?_) | (apply zg1; refine zs4 ?_) | (apply zg6; refine zs12 ?_) | (apply zg20; refine zs47 ?_) | apply (zs65 ?_) | apply (zs68 ?_) | apply (zs69 ?_) | apply (zs70 ?_) | (apply zg27; refine zs72 ?_) | apply (zs76 ?_) | fail)
    apply Ys _ en27
    exact za
    exact rfl
    exact fun _ hw => (q1 (hw))
    rintro _ _ ⟨A4, cap4, C4, rfl, hC4, hCl4, rfl⟩
    have hC4 : C4.map ClM.clm = pc := hC4
    have hCn4 : C4.length ≤ 1000000 := by have := congrArg List.length hC4; rw [List.length_map] at this; omega
    have hcin4 : ∀ {H' : List HP}, clsP A4 cap4 C4 ∈ H' → many (C4.map clQ) ∈ H' → CIn B w0 H' A4 C4 := fun h1 h2 => ⟨.sl h1, fun x hx => Vd h2 hx (hCl4 x hx), by omega⟩
    have q2 : ∀ {H' : List HP} {w : World}, CIn B w0 H' A4 C4 → St B w0 H' w → Calls Tryz.prog 25 [.slice A4 C4.length cap4].toArray w (Post B w0 fun v K => v = .tuple #[strV (YU pc).1, .int .i64 (YU pc).2] ∧ K = H') := fun hc hw => by
      have h := ZT C4 (cap := cap4) ht hc hw
      rw [hC4] at h
      exact h
    dsimp only
    by_cases he : pe = 0
    · subst he
      obtain ⟨hf4, ht4, _⟩ := V1 hR
      have hp4 : YU pc = (text, 0) := by unfold YU; rw [hf4, if_neg (by decide), ht4]
      rw [hp4] at q2
      repeat' (first | apply (zs1 ?_) | apply (zs2 ?_) | apply (zs13 ?_) | (apply zg8; (refine zs16 ?_ ?_ <;> intro _ <;> try (exfalso; omega))) | apply (zs65 ?_) | apply (zs68 ?_) | apply (zs69 ?_) | apply (zs70 ?_) | (apply zg27; refine zs72 ?_) | apply (zs76 ?_) | fail)
      first | apply Ya en25 | apply Yb en25
      exact za
      exact rfl
      exact fun _ hw => (q2 (hcin4 zm zm) hw)
      repeat' (first | (apply YaP; exact rfl; exact rfl; exact rfl; all_goals (intro hE; try (exact absurd rfl hE))) | apply (zs1 ?_) | apply (zs2 ?_) | (apply zg1; refine zs4 ?_) | (apply zg6; refine zs11 ?_) | apply (zs13 ?_) | (apply zg7; (refine zs15 ?_ ?_ <;> intro _ <;> try (exfalso; omega))) | apply (zs65 ?_) | apply (zs68 ?_) | apply (zs69 ?_) | apply (zs70 ?_) | apply (zs74 ?_) | fail)
      apply Yj H
      · exact zk
      apply Yc; exact rfl; exact rfl; exact ⟨rfl, rfl⟩
    · have hnil : C4.length = 0 := by
        have h1 := QO hR he
        have := congrArg List.length hC4
        rwa [h1, List.length_map, List.length_nil] at this
      repeat' (first | apply (zs1 ?_) | apply (zs2 ?_) | (apply zg4; refine zs9 ?_) | apply (zs13 ?_) | (apply zg7; (refine zs15 ?_ ?_ <;> intro _ <;> try (exfalso; omega))) | (apply zg8; (refine zs16 ?_ ?_ <;> intro _ <;> try (exfalso; omega))) | apply (zs65 ?_) | apply (zs68 ?_) | apply (zs69 ?_) | apply (zs70 ?_) | (apply zg27; refine zs71 ?_) | apply (zs74 ?_) | apply (zs77 ?_) | fail)
      apply Yj H
      · exact zk
      apply Yc; exact rfl; exact rfl; exact ⟨rfl, rfl⟩
open Go.ChangeShapes Go.WideShapes Go.ChangeAt Go.RowKit Go.Eng Go.Nw Go.Rt
section
variable {H : Type} {enc : TypeId × Value → H} {W : World} {spare : Nat → Bool} {held : Bool}
structure RtG (W : World) (r : RowM) : Prop where
  old : Old W r.A (r.xs.flatMap numF)
  len : r.xs.length ≤ 9223372036854775807
  cap : r.xs.length ≤ r.cap
  good : ∀ z ∈ r.xs, I64 z
theorem Yfv : Opn enc Tryz.prog W spare held 72 rowF (RtG W) :=
  YcL (Va (q := 1) Tryz.underlying72 (by kernel_rfl) (by decide) op_i) YgU (fun _ => rfl) (fun _ h => ⟨h.old, Nat.le_trans h.len maxL, h.cap, h.good⟩)
theorem YaY : Opn enc Tryz.prog W spare held 24 rowF (RtG W) :=
  YcL Yf6 YgU (fun _ => rfl) (fun _ h => ⟨h.old, Nat.le_trans h.len maxL, h.cap, h.good⟩)
theorem YdO : Opn enc Tryz.prog W spare held 59 (fun s : SlM RowM => [s.val]) (SlG W rowF (RtG W)) := Va (q := 1) Tryz.underlying59 (by kernel_rfl) (by decide) Yfv
theorem Yfi : Opn enc Tryz.prog W spare held 22 (fun s : SlM RowM => [s.val]) (SlG W rowF (RtG W)) := Va (q := 1) Tryz.underlying22 (by kernel_rfl) (by decide) YaY
structure ClG (W : World) (c : ClM) : Prop where
  f : I64 c.flow
  rt : Old W c.rA (c.rs.flatMap rowF)
  rg : ∀ r ∈ c.rs, RtG W r
  bd : RtG W ⟨c.bA, c.bcap, c.bs⟩
  ws : RtG W ⟨c.wA, c.wcap, c.ws⟩
  st : Old W c.sA (c.ss.flatMap rowF)
  sg : ∀ r ∈ c.ss, RtG W r
  rl : c.rs.length ≤ 9223372036854775807
  sl : c.ss.length ≤ 9223372036854775807
  rc : c.rs.length ≤ c.rcap
  sc : c.ss.length ≤ c.scap
theorem Ye6 : Opn enc Tryz.prog W spare held 61 clF (ClG W) :=
  YcL (Yef (ts := [3, 59, 24, 24, 22]) (by kernel_rfl) (JV op_i (JV YdO (JV YaY (JV YaY (JV Yfi Ygc))))))
    (fun x => ⟨x.1, x.2.1.A, x.2.1.cap, x.2.1.xs, x.2.2.1.A, x.2.2.1.cap, x.2.2.1.xs, x.2.2.2.1.A, x.2.2.2.1.cap, x.2.2.2.1.xs, x.2.2.2.2.1.A, x.2.2.2.2.1.cap, x.2.2.2.2.1.xs⟩) (fun x => by simp [clF, numF, rowF, SlM.val]) (fun x h => by
      obtain ⟨h1, h2, h3, h4, h5, _⟩ := h
      exact ⟨h1, h2.old, h2.good, h3, h4, h5.old, h5.good, Nat.le_trans h2.len maxL, Nat.le_trans h5.len maxL, h2.cap, h5.cap⟩)
theorem YdY : Opn enc Tryz.prog W spare held 48 (fun s : SlM ClM => [s.val]) (SlG W clF (ClG W)) := Va (q := 5) Tryz.underlying48 (by kernel_rfl) (by decide) Ye6
set_option maxRecDepth 100000 in
theorem YdV {r : Reach} {b0 : Nat} {v : Value} {d : DataW H} {p : List MemPlace} (hv : Value.okWide Tryz.prog W r b0 48 v) (h : DataW.Trod enc Tryz.prog W 0 spare held 48 v d p) : ∃ s : SlM ClM, v = s.val ∧ SlG W clF (ClG W) s := by
  obtain ⟨a, len, cap, rfl⟩ := okWide_slice Tryz.underlying48 hv
  obtain ⟨fuel, hf⟩ := h
  obtain ⟨n, h1, h2⟩ := YdY fuel _ _ hf
  refine ⟨n, ?_, h2⟩
  injection h1
end
open Go.ChangeShapes Go.WideShapes Go.ChangeAt Go.RowKit Go.Eng Go.Nw Go.Rt
theorem ClG.bg {W : World} {c : ClM} {K : List HP} (h : ClG W c) : c.Bg W.heap.size W K :=
  ⟨h.rt.rd, fun r hr => (h.rg r hr).old.rd, h.bd.old.rd, h.ws.old.rd, h.st.rd, fun r hr => (h.sg r hr).old.rd, ⟨h.rl, h.bd.len, h.ws.len, h.sl⟩, fun r hr => (h.rg r hr).len, fun r hr => (h.sg r hr).len⟩
theorem Ygo {W : World} {s : SlM ClM} {K : List HP} (h : SlG W clF (ClG W) s) : CBg W.heap.size W K s.A s.xs :=
  ⟨h.old.rd, fun x hx => (h.good x hx).bg, Nat.le_trans h.len maxL⟩
open Go.ChangeShapes Go.WideShapes Go.ChangeAt Go.RowKit Go.Eng
section
variable {H : Type} {enc : TypeId × Value → H}
theorem Uu {a : Assume} {C : Checked} {os : Os} {f : FuncId} {fn : Func} {s : ChangeSpec} {conds : List PathCond} {apart fresh handsOn again : Bool} {X : World → Prop} (hX : ∀ w w' : World, w.heap = w'.heap → X w → X w')
    (own : ownKnob C.prog.godebug = none) (started : os.Started) (noInit : C.prog.inits.idxOf? f = none) (hfn : C.prog.funcs[f]? = some fn)
    (witness : ∃ (w : World) (tape : Tape) (i : Input), w.os = os ∧ (w.forCall tape i).Shaped C.prog ∧ i.vars = [] ∧ Input.okWide C.prog (w.forCall tape i) .any w.heap.size f i ∧
      ((s.pre enc C.prog fn conds apart (w.forCall tape i).memory i.args ∧ X (w.forCall tape i).memory) ∧ sizedMet enc C.prog fn (OpenSpec.ofChange s) apart (w.forCall tape i).memory i.args) ∧ a.holds C.prog (lone (Frame.enter C.prog f i.args .normal) [] (w.forCall tape i)))
    (contract : ∀ (W : World) (base : Nat) (args : Array Value) (ds gs : List (DataW H)) (before : List MemPlace),
      (∀ (j : Nat) t v, fn.params[j]? = some t → args[j]? = some v → Value.okWide C.prog W .any base t v) →
      DataW.Whole enc C.prog fn.params.toList s.vars apart W args.toList ds gs before → X W → W.ShapedOpen C.prog →
      Calls C.prog f args W fun e W' => ∃ v, e = .returned v ∧ s.post enc C.prog fn apart fresh handsOn again W args v W') :
    ReturnsInHanded a C os f .any (fun w args => (s.pre enc C.prog fn conds apart w args ∧ X w) ∧ sizedMet enc C.prog fn (OpenSpec.ofChange s) apart w args) (s.post enc C.prog fn apart fresh handsOn again) := by
  refine returnsInHanded_of_calls own started noInit witness ?_
  intro w tape i _ hsh _ hok hpre _
  obtain ⟨_, _, _, fn', hfn', _, _, _, _, hval⟩ := hok
  have e : fn' = fn := Option.some.inj (hfn'.symm.trans hfn)
  subst e
  obtain ⟨⟨⟨ds, gs, before, hw, _⟩, hx⟩, _⟩ := hpre
  have hw' := DataW.Whole.of_heap (w' := w.forCall tape i) (by rfl) hw
  refine (contract (w.forCall tape i) w.heap.size i.args ds gs before hval hw' (hX _ _ (by rfl) hx) hsh).mono fun e W' ⟨v, he, hp⟩ => ?_
  subst he
  exact ChangeSpec.post_blind hp
end
def VB : List (String × DataW Unit) := [("math/bits.deBruijn32tab", Rows.laid_math_bits_deBruijn32tab), ("math/bits.deBruijn64tab", Rows.laid_math_bits_deBruijn64tab), ("internal/strconv.uint64pow10", Rows.laid_internal_strconv_uint64pow10), ("unicode/utf8.acceptRanges", Rows.laid_unicode_utf8_acceptRanges), ("strconv.ErrRange", Rows.laid_strconv_ErrRange), ("strconv.ErrSyntax", Rows.laid_strconv_ErrSyntax), ("unicode/utf8.first", Rows.laid_unicode_utf8_first)]
def litV : DataW Unit → Value
  | .lit (.int k z) => .int k z
  | _ => .bool false
def Yh3 : DataW Unit → List Value
  | .agg l => l.map litV
  | _ => []
noncomputable def UO (os : Os) : World :=
  let w0 := World.doorLaid Tryz.prog 72 os
  { w0 with heap := w0.heap.modify ((Tryz.prog.globalNamed "unicode/utf8.first").getD 0) fun
      | .cells _ t frozen => .cells (Yh3 Go.Pinned.utf8First).toArray t frozen
      | o => o }
theorem Wo (w : World) : laidMetH Tryz.prog VB w = laidMet Tryz.prog VB w := MakeChecks.laidMetH_plain _ _ _ (by kernel_rfl)
theorem Qw (os : Os) (args : Array Value) : laidMetH Tryz.prog VB ((UO os).forCall (fun _ _ => 0) ⟨#[], args, []⟩).memory := by
  rw [Wo]
  exact laidMet_of_run3 8 (by kernel_rfl) (by kernel_rfl) (by kernel_rfl)
theorem UG (os : Os) (args : Array Value) : ((UO os).forCall (fun _ _ => 0) ⟨#[], args, []⟩).Shaped Tryz.prog := World.shaped_of_RefB (by kernel_rfl) (by kernel_rfl)
theorem UC {W w : World} {n : String} {cs : Array Value} (h : W.var? Tryz.prog n = some cs) (hb : Below W.heap.size W w) : w.var? Tryz.prog n = some cs := by
  unfold World.var? at h ⊢
  cases hg : Tryz.prog.globalNamed n with
  | none => rw [hg] at h; cases h
  | some g =>
    rw [hg] at h
    simp only [Option.bind_some] at h ⊢
    rcases Nat.lt_or_ge g W.heap.size with hlt | hge
    · rw [hb.block g hlt]; exact h
    · rw [Array.getElem?_eq_none hge] at h; cases h
theorem YbE {W : World} {n : String} {s : String} {d : DataW Unit} (hT : (Tryz.prog.globalNamed n).bind (fun g => (Tryz.prog.globals[g]?).map (·.type)) = some 134) (h : Lib.VarReads Tryz.prog W n (.iface s d)) : ∃ tp p, W.var? Tryz.prog n = some #[.iface tp p] := by
  obtain ⟨g, t, cs, fuel, p, h1, h2, h3, h4⟩ := h
  rw [h1] at hT
  obtain rfl : t = 134 := Option.some.inj (h2.symm.trans hT)
  obtain ⟨_, u, v, e, _⟩ := iface_of_trod Tryz.underlying134 h4
  refine ⟨u, v, ?_⟩
  rw [h3, Array.eq_one_of_toList e]
theorem Yga {W : World} (hL : laidMetH Tryz.prog VB W) (hsh : W.ShapedOpen Tryz.prog) : TabsB W.heap.size W := by
  rw [Wo] at hL
  have hpow : Lib.TabIs Tryz.prog W "internal/strconv.uint64pow10" .u64 Lib.pow10Tab := by
    obtain ⟨g, t, cs, fuel, p, h1, h2, h3, h4⟩ := Lib.laidMet.reads hL (n := "internal/strconv.uint64pow10") (d := Rows.laid_internal_strconv_uint64pow10) (by unfold VB; simp)
    have hT : (Tryz.prog.globalNamed "internal/strconv.uint64pow10").bind (fun g => (Tryz.prog.globals[g]?).map (·.type)) = some 334 := by kernel_rfl
    rw [h1] at hT
    obtain rfl : t = 334 := Option.some.inj (h2.symm.trans hT)
    have h5 : Rows.laid_internal_strconv_uint64pow10 (H := Unit) = Lib.tabData .u64 Lib.pow10Tab := by kernel_rfl
    rw [h5] at h4
    have h6 := Lib.cells_of_tab Tryz.underlying334 Tryz.underlying277 (by kernel_rfl) (by kernel_rfl) h4
    unfold Lib.TabIs
    rw [h3, ← h6]
  obtain ⟨tp1, p1, hsy⟩ := YbE (n := "strconv.ErrSyntax") (by kernel_rfl) (Lib.laidMet.reads hL (n := "strconv.ErrSyntax") (d := Rows.laid_strconv_ErrSyntax) (by unfold VB; simp))
  obtain ⟨tp2, p2, hrg⟩ := YbE (n := "strconv.ErrRange") (by kernel_rfl) (Lib.laidMet.reads hL (n := "strconv.ErrRange") (d := Rows.laid_strconv_ErrRange) (by unfold VB; simp))
  obtain ⟨m, hm⟩ := Go.Proofs.cell_of_shapedOpen_int (P := Tryz.prog) (g := 0) (k := .i64) (zero := #[.int .i64 0]) (t := 3) hsh (of_decide_eq_true (by kernel_rfl)) (by kernel_rfl) rfl (by kernel_rfl) (by kernel_rfl) Tryz.underlying3
  intro w hb
  refine ⟨UC hpow hb, ⟨tp1, p1, UC hsy hb⟩, ⟨tp2, p2, UC hrg hb⟩, m, ?_⟩
  have hlt : 0 < W.heap.size := by
    rcases Nat.eq_zero_or_pos W.heap.size with h | h
    · simp [World.cell?, Array.getElem?_eq_none (show W.heap.size ≤ 0 by omega)] at hm
    · exact h
  exact (hb.cell (p := ⟨0, 0, none⟩) hlt).trans hm
theorem Tryz.own : ownKnob Tryz.prog.godebug = none := by kernel_rfl
theorem Tryz.laidOut : laidOutB Tryz.prog = true := by kernel_rfl
end Go.Proofs.YtmalhidldgfeoaaGreatDoor
