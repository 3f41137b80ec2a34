/- Lemmas for the claim, part 6. -/
import Derived.Test.YtmalhidldgfeoaaGreatDoorRows
import Derived.Lib.LaidU8
import Derived.LaidMore
import Derived.Deep.DeepLaidRun
import Derived.Stop.Joined
import Derived.Test.YtmalhidldgfeoaaGreatDoorQ5

namespace Go.Eng
open Go.RowKit
inductive OW where
  | done
  | z (i : Nat) (t : OW)
  | s (i : Nat) (t : OW)
  | e1 (i : Nat) (t : OW)
  | e2 (i : Nat) (t : OW) (j : Nat) (u : OW)
section
variable {P : Program} {n : Shp} {B : Nat} {w0 : World} {Q : Exit → Act → World → Prop} {env : Env} {H : List HP} {ops : Array Oper}
def Jx (P : Program) (ops : Array Oper) (Q : Exit → Act → World → Prop) (T : Nat → World → Prop) : Nat → Array Bool → Act → World → Prop
  | 0, listed, a, w => Region.ready .any ops listed = [] ∧ Q .normal a w
  | fuel + 1, listed, a, w =>
    (Region.ready .any ops listed = [] → Q .normal a w) ∧
    ∀ i ∈ Region.ready .any ops listed, wpOp P ops Q i (fun a' w' => T i w' ∧ Jx P ops Q T fuel (listed.setIfInBounds i true) a' w') a w
theorem YaV {T : Nat → World → Prop} : ∀ (fuel : Nat) (listed : Array Bool) (a : Act) (w : World), Jx P ops Q T fuel listed a w → wpAny P .any ops Q fuel listed a w
  | 0, _, _, _, h => h
  | fuel + 1, _, _, _, h => ⟨h.1, fun i hi => wpOp_mono (fun a' w' h' => YaV fuel _ a' w' h'.2) (h.2 i hi)⟩
theorem WL {S : World → Prop} {T : Nat → World → Prop} {i : Nat} {oi : Oper} {v : Value} (hi : ops[i]? = some oi) (hsel : ∀ (j : Nat) (o : Oper) cs b, ops[j]? = some o → o.op ≠ .select cs b)
    (hQ : ∀ c (a : Act) (w : World), ¬ Q (.panic c) a w) :
    ∀ (fuel : Nat) (listed : Array Bool) (a : Act) (w : World), Closed ops listed → (∀ j, (∀ w, T j w → S w) ∨ listed.getD j false = true ∨ ∃ f, ancB ops f j i = true) →
      (∀ j oj, ops[j]? = some oj → j ≠ i → listed.getD j true = false → (∀ e ∈ oj.after, Region.binds .any e = true → e.on ≠ i) → oi.apart ops oj = true) →
      i ∈ Region.ready .any ops listed → YieldsIf P ops S oi v a → S w → T i w → (∀ w j, S w → T j w → T i w) →
      Jx P ops Q T fuel (listed.setIfInBounds i true) (a.put oi.dst v) w → Jx P ops Q T (fuel + 1) listed a w := by
  intro fuel
  induction fuel with
  | zero =>
    intro listed a w _ _ _ hr hy hS hT _ H
    refine ⟨fun h => (by rw [h] at hr; cases hr), fun j hj => ?_⟩
    by_cases hji : j = i
    · subst hji; exact hy.wpOp hi hS ⟨hT, H⟩
    · have := ready_mono hj hji
      rw [H.1] at this
      cases this
  | succ fuel ih =>
    intro listed a w hcl hlast hfree hr hy hS hT hTT H
    refine ⟨fun h => (by rw [h] at hr; cases hr), fun j hj => ?_⟩
    by_cases hji : j = i
    · subst hji; exact hy.wpOp hi hS ⟨hT, H⟩
    · have h1 := H.2 j (ready_mono hj hji)
      obtain ⟨hjun, oj, hoj, hall⟩ := mem_ready.1 hj
      have hun := (mem_ready.1 hr).1
      have hun' : listed.getD i false = false := by
        rcases Nat.lt_or_ge i listed.size with h' | h'
        · simp [h'] at hun ⊢; exact hun
        · simp [Array.getElem?_eq_none h'] at hun
      have hTS : ∀ w, T j w → S w := by
        rcases hlast j with h4 | h4 | ⟨f, hf⟩
        · exact h4
        · have h5 : listed.getD j true = true := by
            rcases Nat.lt_or_ge j listed.size with h' | h'
            · simp [h'] at h4 ⊢; exact h4
            · simp [Array.getElem?_eq_none h']
          rw [h5] at hjun; cases hjun
        · have := UU hcl f j i (fun ok hk e he hb => by
            obtain rfl : ok = oj := Option.some.inj (hk.symm.trans hoj)
            exact hall e he hb) hf
          rw [hun'] at this
          cases this
      have hnot : ∀ e ∈ oj.after, Region.binds .any e = true → e.on ≠ i := fun e he hb heq => by
        have h2 := hall e he hb
        rw [heq, hun'] at h2
        cases h2
      have h2 := wpOp_putIf hoj (hfree j oj hoj hji hjun hnot) (fun cs b => hsel i oi cs b hi) (fun cs b => hsel j oj cs b hoj) (fun c a w h => (hQ c _ w h).elim) hy h1
      have hfree' : ∀ k ok, ops[k]? = some ok → k ≠ i → (listed.setIfInBounds j true).getD k true = false →
          (∀ e ∈ ok.after, Region.binds .any e = true → e.on ≠ i) → oi.apart ops ok = true := fun k ok hk hki hu hno => by
        refine hfree k ok hk hki ?_ hno
        by_cases hjk : j = k
        · subst hjk; exact hjun
        · rw [getD_set_ne true hjk] at hu; exact hu
      refine wpOp_mono (fun a' w' h3 => ⟨h3.2.1, ih (listed.setIfInBounds j true) a' w' (hcl.set hj) (fun k => ?_) hfree' (ready_mono hr (Ne.symm hji)) h3.1 (hTS w' h3.2.1) (hTT w' j (hTS w' h3.2.1) h3.2.1) hTT ?_⟩) h2
      · rcases hlast k with h4 | h4 | h4
        · exact .inl h4
        · right; left
          by_cases hjk : j = k
          · subst hjk
            rcases Nat.lt_or_ge j listed.size with h' | h'
            · simp [h']
            · simp [Array.getElem?_eq_none h'] at hjun
          · rw [getD_set_ne false hjk]; exact h4
        · exact .inr (.inr h4)
      · rw [Array.setIfInBounds_comm _ _ hji]
        exact h3.2.2
theorem Un {T : Nat → World → Prop} (l : List Oper) (hl : ops = l.toArray) (hlo : ¬ LetsOut Q) :
    ∀ (o2 : List Nat) (listed : Array Bool) (a : Act) (w : World), (∀ j ∈ o2, (∃ o, ops[j]? = some o) ∧ ∀ w, T j w) → ZH ops o2 listed = true → wpList P ops Q (Yj l o2) a w → Jx P ops Q T o2.length listed a w
  | [], listed, a, w, _, hB, h => ⟨by simpa [ZH] using hB, h⟩
  | i :: rest, listed, a, w, hin, hB, h => by
    simp only [ZH, Bool.and_eq_true, decide_eq_true_eq] at hB
    obtain ⟨h1, h2⟩ := hB
    obtain ⟨⟨o, ho⟩, hT⟩ := hin i (by simp)
    have hget : nthO l i = o := YN hl ho
    simp only [Yj, hget] at h
    unfold wpList at h
    refine ⟨fun h0 => (by rw [h1] at h0; cases h0), fun k hk => ?_⟩
    rw [h1] at hk
    obtain rfl : k = i := by simpa using hk
    unfold wpOp
    simp only [ho]
    by_cases hw : Region.wanted o (yielded ops a.tmps) = true
    · rw [if_pos hw] at h ⊢
      rcases h with h | ⟨_, h⟩
      · exact .inl (Oper.wp_mono (fun a' w' h' => ⟨hT w', Un l hl hlo rest _ a' w' (fun j hj => hin j (by simp [hj])) h2 h'⟩) h)
      · exact (hlo h).elim
    · rw [if_neg hw] at h ⊢
      exact ⟨hT w, Un l hl hlo rest _ _ w (fun j hj => hin j (by simp [hj])) h2 h⟩
def YaW (P : Program) (ops : Array Oper) (l : List Oper) (Q : Exit → Act → World → Prop) (S0 : World → Prop) : List Nat → Act → World → Prop
  | [], a, w => Q .normal a w
  | i :: r, a, w => wpD P ops (fun a w => S0 w ∧ YaW P ops l Q S0 r a w) (nthO l i) a w
theorem YgU {T : Nat → World → Prop} {K : Act → World → Prop} {i k : Nat} {o : Oper} {listed : Array Bool} {a : Act} {w : World} (ho : ops[i]? = some o)
    (h : wpD P ops K o a w) (hk : ∀ a w, K a w → T i w ∧ Jx P ops Q T k (listed.setIfInBounds i true) a w) :
    wpOp P ops Q i (fun a' w' => T i w' ∧ Jx P ops Q T k (listed.setIfInBounds i true) a' w') a w := by
  unfold wpD at h
  unfold wpOp
  simp only [ho]
  by_cases hw : Region.wanted o (yielded ops a.tmps) = true
  · rw [if_pos hw] at h ⊢
    exact .inl (Oper.wp_mono_noQ (fun _ _ _ h => h) (by rintro ⟨_, _, h⟩; exact h) (Oper.wp_mono (fun a' w' h' => hk a' w' h') h))
  · rw [if_neg hw] at h ⊢
    exact hk _ w h
theorem Yao {S0 : World → Prop} {T : Nat → World → Prop} {tail : List Nat} (l : List Oper) (hl : ops = l.toArray) (hlo : ¬ LetsOut Q) (ht : ∀ j ∈ tail, (∃ o, ops[j]? = some o) ∧ ∀ w, T j w) :
    ∀ (mid : List Nat) (listed : Array Bool) (a : Act) (w : World), (∀ j ∈ mid, (∃ o, ops[j]? = some o) ∧ ∀ w, S0 w → T j w) → ZH ops (mid ++ tail) listed = true → YaW P ops l (X5 P ops Q (Yj l tail)) S0 mid a w → Jx P ops Q T (mid ++ tail).length listed a w
  | [], listed, a, w, _, hB, h => Un l hl hlo tail listed a w ht hB h
  | i :: rest, listed, a, w, hin, hB, h => by
    rw [List.cons_append] at hB
    simp only [ZH, Bool.and_eq_true, decide_eq_true_eq] at hB
    obtain ⟨h1, h2⟩ := hB
    obtain ⟨⟨o, ho⟩, hT⟩ := hin i (by simp)
    have hget : nthO l i = o := YN hl ho
    unfold YaW at h
    rw [hget] at h
    refine ⟨fun h0 => (by rw [h1] at h0; cases h0), fun k hk => ?_⟩
    rw [h1] at hk
    obtain rfl : k = i := by simpa using hk
    exact YgU ho h fun a w hh => ⟨hT w hh.1, Yao l hl hlo ht rest _ a w (fun j hj => hin j (by simp [hj])) h2 hh.2⟩
def Xg (P : Program) (ops : Array Oper) (l : List Oper) (Q : Exit → Act → World → Prop) (S0 S : World → Prop) (mid : List Nat) : OW → Act → World → Prop
  | .done, a, w => YaW P ops l Q S0 mid a w
  | .z i t, a, w => Yt P ops (fun e a w => match e with | .normal => Xg P ops l Q S0 S mid t a w | _ => False) S0 [nthO l i] a w
  | .s i t, a, w => Yt P ops (fun e a w => match e with | .normal => Xg P ops l Q S0 S mid t a w | _ => False) S [nthO l i] a w
  | .e1 i t, a, w => Yt P ops (fun e a w => match e with | .normal => Xg P ops l Q S0 S mid t a w | _ => False) S [nthO l i] a w
  | .e2 i t j u, a, w => Yt P ops (fun e a w => match e with | .normal => Xg P ops l Q S0 S mid t a w | _ => False) S [nthO l i] a w ∧ Yt P ops (fun e a w => match e with | .normal => Xg P ops l Q S0 S mid u a w | _ => False) S [nthO l j] a w
def YcT (ops : Array Oper) (listed : Array Bool) (i : Nat) : Bool := match ops[i]? with
  | some o => !eff o && ((Region.ready .any ops listed).contains i && Region.free .any ops listed i)
  | none => false
def Js (ops : Array Oper) (zs mid tail : List Nat) : OW → Array Bool → Nat → Bool
  | .done, listed, 0 => ZH ops (mid ++ tail) listed
  | .z i t, listed, k + 1 => zs.contains i && (tail.all fun j => ancB ops ops.size j i) && YcT ops listed i && Js ops zs mid tail t (listed.setIfInBounds i true) k
  | .s i t, listed, k + 1 => ((zs ++ (mid ++ tail)).all fun j => listed.getD j false || ancB ops ops.size j i) && YcT ops listed i && Js ops zs mid tail t (listed.setIfInBounds i true) k
  | .e1 i t, listed, k + 1 => Zi ops i && decide (Region.ready .any ops listed = [i]) && Js ops zs mid tail t (listed.setIfInBounds i true) k
  | .e2 i t j u, listed, k + 1 => Zi ops i && Zi ops j && ((Region.ready .any ops listed).all fun x => x == i || x == j) && !(Region.ready .any ops listed).isEmpty && Js ops zs mid tail t (listed.setIfInBounds i true) k && Js ops zs mid tail u (listed.setIfInBounds j true) k
  | _, _, _ => false
def TW (S0 S : World → Prop) (zs mid tail : List Nat) (j : Nat) (w : World) : Prop := (tail.contains j = false → S0 w) ∧ (zs.contains j = false → (mid ++ tail).contains j = false → S w)
theorem WS {S : World → Prop} {T : Nat → World → Prop} {Q1 : Exit → Act → World → Prop} {i k : Nat} {o : Oper} {listed : Array Bool} {a : Act} {w : World} (ho : ops[i]? = some o) (he : eff o = true) (hT : ∀ w, S w → T i w)
    (hQ1 : ∀ e a w, e ≠ .normal → ¬ Q1 e a w) (hS : S w) (h : Yt P ops Q1 S [o] a w)
    (hk : ∀ a w, S w → Q1 .normal a w → Jx P ops Q T k (listed.setIfInBounds i true) a w) :
    wpOp P ops Q i (fun a' w' => T i w' ∧ Jx P ops Q T k (listed.setIfInBounds i true) a' w') a w := by
  unfold Yt at h
  rw [if_pos he] at h
  unfold wpOp
  simp only [ho]
  by_cases hw : Region.wanted o (yielded ops a.tmps) = true
  · rw [if_pos hw] at h ⊢
    refine .inl (Oper.wp_mono_noQ (fun c a w => hQ1 _ a w (by intro h; cases h)) (by rintro ⟨a, w, h⟩; exact hQ1 _ _ _ (by intro h; cases h) h) (Oper.wp_mono (fun a' w' h' => ?_) h))
    exact ⟨hT _ h'.1, hk a' w' h'.1 h'.2⟩
  · rw [if_neg hw] at h ⊢
    exact ⟨hT _ hS, hk _ w hS h⟩
theorem Yax {listed : Array Bool} {i : Nat} (h : YcT ops listed i = true) : ∃ o, ops[i]? = some o ∧ eff o = false ∧ i ∈ Region.ready .any ops listed ∧ Region.free .any ops listed i = true := by
  unfold YcT at h
  cases ho : ops[i]? with
  | none => rw [ho] at h; cases h
  | some o =>
    rw [ho] at h
    simp only [Bool.and_eq_true, Bool.not_eq_true'] at h
    exact ⟨o, rfl, h.1, by simpa using h.2.1, h.2.2⟩
theorem U3 {i : Nat} (h : Zi ops i = true) : ∃ o, ops[i]? = some o ∧ eff o = true := by
  unfold Zi at h
  cases ho : ops[i]? with
  | none => rw [ho] at h; cases h
  | some o => rw [ho] at h; exact ⟨o, rfl, h⟩
theorem Yas {l : List Nat} {j : Nat} (h : j ∈ l) (h2 : l.contains j = false) : False := by
  rw [List.contains_iff_mem.2 h] at h2; cases h2
theorem X9 {S0 S : World → Prop} {zs mid tail : List Nat} (hss : ∀ w, S w → S0 w) (hs : Region.noSelect ops = true) (hQ : ∀ c (a : Act) (w : World), ¬ Q (.panic c) a w) (hlo : ¬ LetsOut Q) (l : List Oper) (hl : ops = l.toArray)
    (hin : ∀ j ∈ mid ++ tail, ∃ o, ops[j]? = some o) :
    ∀ (t : OW) (k : Nat) (listed : Array Bool) (a : Act) (w : World), Closed ops listed → Js ops zs mid tail t listed k = true → S w → Xg P ops l (X5 P ops Q (Yj l tail)) S0 S mid t a w →
      Jx P ops Q (TW S0 S zs mid tail) (k + (mid ++ tail).length) listed a w
  | .done, 0, listed, a, w, _, hB, _, h => by
    rw [Nat.zero_add]
    exact Yao l hl hlo (fun j hj => ⟨hin j (List.mem_append_right _ hj), fun w => ⟨fun h => (Yas hj h).elim, fun _ h => (Yas (List.mem_append_right mid hj) h).elim⟩⟩) mid listed a w (fun j hj => ⟨hin j (List.mem_append_left _ hj), fun w h0 => ⟨fun _ => h0, fun _ h => (Yas (List.mem_append_left tail hj) h).elim⟩⟩) hB h
  | .done, _ + 1, _, _, _, _, hB, _, _ => by cases hB
  | .z _ _, 0, _, _, _, _, hB, _, _ => by cases hB
  | .s _ _, 0, _, _, _, _, hB, _, _ => by cases hB
  | .e1 _ _, 0, _, _, _, _, hB, _, _ => by cases hB
  | .e2 _ _ _ _, 0, _, _, _, _, hB, _, _ => by cases hB
  | .z i t, k + 1, listed, a, w, hcl, hB, hS, h => by
    simp only [Js, Bool.and_eq_true] at hB
    obtain ⟨⟨⟨b1, b2⟩, b3⟩, b4⟩ := hB
    obtain ⟨o, ho, he, hr, hf⟩ := Yax b3
    unfold Xg at h
    rw [YN hl ho] at h
    unfold Yt at h
    rw [if_neg (by rw [he]; simp)] at h
    obtain ⟨v, hy, h3⟩ := h
    rw [Nat.add_right_comm]
    refine WL (S := S0) ho (Region.noSelect_spec hs) hQ _ listed a w hcl (fun j => ?_) (Region.free_spec ho hf) hr hy (hss w hS) ⟨fun _ => hss w hS, fun h => (by rw [b1] at h; cases h)⟩ (fun w j h0 _ => ⟨fun _ => h0, fun h => (by rw [b1] at h; cases h)⟩) (X9 hss hs hQ hlo l hl hin t k _ _ w (hcl.set hr) b4 hS h3)
    cases hj : tail.contains j with
    | false => exact .inl fun w hT => hT.1 hj
    | true => exact .inr (.inr ⟨_, List.all_eq_true.1 b2 j (List.contains_iff_mem.1 hj)⟩)
  | .s i t, k + 1, listed, a, w, hcl, hB, hS, h => by
    simp only [Js, Bool.and_eq_true] at hB
    obtain ⟨⟨b2, b3⟩, b4⟩ := hB
    obtain ⟨o, ho, he, hr, hf⟩ := Yax b3
    unfold Xg at h
    rw [YN hl ho] at h
    unfold Yt at h
    rw [if_neg (by rw [he]; simp)] at h
    obtain ⟨v, hy, h3⟩ := h
    rw [Nat.add_right_comm]
    refine WL (S := S) ho (Region.noSelect_spec hs) hQ _ listed a w hcl (fun j => ?_) (Region.free_spec ho hf) hr hy hS ⟨fun _ => hss w hS, fun _ _ => hS⟩ (fun w j h0 _ => ⟨fun _ => hss w h0, fun _ _ => h0⟩) (X9 hss hs hQ hlo l hl hin t k _ _ w (hcl.set hr) b4 hS h3)
    have hmem : j ∈ zs ++ (mid ++ tail) → listed.getD j false = true ∨ ∃ f, ancB ops f j i = true := fun hj => by
      have := List.all_eq_true.1 b2 j hj
      rw [Bool.or_eq_true] at this
      rcases this with h | h
      · exact .inl h
      · exact .inr ⟨_, h⟩
    cases hj : zs.contains j with
    | true => exact .inr (hmem (List.mem_append_left _ (List.contains_iff_mem.1 hj)))
    | false =>
      cases hj2 : (mid ++ tail).contains j with
      | true => exact .inr (hmem (List.mem_append_right _ (List.contains_iff_mem.1 hj2)))
      | false => exact .inl fun w hT => hT.2 hj hj2
  | .e1 i t, k + 1, listed, a, w, hcl, hB, hS, h => by
    simp only [Js, Bool.and_eq_true, decide_eq_true_eq] at hB
    obtain ⟨⟨b1, b2⟩, b3⟩ := hB
    obtain ⟨o, ho, he⟩ := U3 b1
    unfold Xg at h
    rw [YN hl ho] at h
    rw [Nat.add_right_comm]
    refine ⟨fun h0 => (by rw [b2] at h0; cases h0), fun j hj => ?_⟩
    have hj' := hj
    rw [b2] at hj
    obtain rfl : j = i := by simpa using hj
    exact WS ho he (fun w h => ⟨fun _ => hss w h, fun _ _ => h⟩) (fun e a w hne => by cases e <;> simp_all) hS h fun a w hS' h' => X9 hss hs hQ hlo l hl hin t k _ a w (hcl.set hj') b3 hS' h'
  | .e2 i t j u, k + 1, listed, a, w, hcl, hB, hS, h => by
    simp only [Js, Bool.and_eq_true] at hB
    obtain ⟨⟨⟨⟨⟨b1, b2⟩, b5⟩, b6⟩, b7⟩, b8⟩ := hB
    obtain ⟨o, ho, he⟩ := U3 b1
    obtain ⟨o', ho', he'⟩ := U3 b2
    unfold Xg at h
    rw [YN hl ho, YN hl ho'] at h
    rw [Nat.add_right_comm]
    refine ⟨fun h0 => (by rw [h0] at b6; cases b6), fun x hx => ?_⟩
    have h5 := List.all_eq_true.1 b5 x hx
    simp only [Bool.or_eq_true, beq_iff_eq] at h5
    rcases h5 with rfl | rfl
    · exact WS ho he (fun w h => ⟨fun _ => hss w h, fun _ _ => h⟩) (fun e a w hne => by cases e <;> simp_all) hS h.1 fun a w hS' h' => X9 hss hs hQ hlo l hl hin t k _ a w (hcl.set hx) b7 hS' h'
    · exact WS ho' he' (fun w h => ⟨fun _ => hss w h, fun _ _ => h⟩) (fun e a w hne => by cases e <;> simp_all) hS h.2 fun a w hS' h' => X9 hss hs hQ hlo l hl hin u k _ a w (hcl.set hx) b8 hS' h'
structure VW (P : Program) (n : Shp) (B : Nat) (w0 : World) (ops : Array Oper) (l : List Oper) (Q : Exit → Act → World → Prop) (mid : List Nat) (t : OW) (env : Env) (Hz Hc F : List HP) : Prop where
  run : ∀ a, Fits n a env → ∀ w, St B w0 (Hc ++ F) w → Xg P ops l Q (St B w0 Hz) (St B w0 Hc) mid t a w
structure VM (P : Program) (n : Shp) (B : Nat) (w0 : World) (ops : Array Oper) (l : List Oper) (Q : Exit → Act → World → Prop) (mid : List Nat) (env : Env) (Hz H : List HP) : Prop where
  run : ∀ a, Fits n a env → ∀ w, St B w0 H w → YaW P ops l Q (St B w0 Hz) mid a w
def ZW (P : Program) (B : Nat) (w0 : World) (ops : Array Oper) (l : List Oper) (Q : Exit → Act → World → Prop) (mid : List Nat) (Hz Hc : List HP) (t : OW) : Exit → Act → World → Prop
  | .normal, a, w => Xg P ops l Q (St B w0 Hz) (St B w0 Hc) mid t a w
  | _, _, _ => False
def MidQ (P : Program) (B : Nat) (w0 : World) (ops : Array Oper) (l : List Oper) (Q : Exit → Act → World → Prop) (mid : List Nat) (Hz : List HP) : Exit → Act → World → Prop
  | .normal, a, w => St B w0 Hz w ∧ YaW P ops l Q (St B w0 Hz) mid a w
  | _, _, _ => False
theorem J6 {l : List Oper} {mid : List Nat} {Hz Hc : List HP} {t : OW} : ZW P B w0 ops l Q mid Hz Hc t = fun e a w => match e with | .normal => Xg P ops l Q (St B w0 Hz) (St B w0 Hc) mid t a w | _ => False := by
  funext e a w
  cases e <;> rfl
theorem VW_z {l : List Oper} {mid : List Nat} {Hz Hc F HF Fz : List HP} {i : Nat} {t : OW} {o : Oper} (ho : nthO l i = o) (happ : App Hc F HF) (hp : Pull Hz HF Fz) (h : VL P (some (some Fz)) n B w0 ops (ZW P B w0 ops l Q mid Hz Hc t) [o] env Hz) : VW P n B w0 ops l Q mid (.z i t) env Hz Hc F := by
  refine ⟨fun a ha w hw => ?_⟩
  rw [← JL happ] at hw
  have h1 : Yt P ops (ZW P B w0 ops l Q mid Hz Hc t) (St B w0 Hz) [o] a w := h.run a ha w (hw.perm hp)
  unfold Xg
  rw [ho, ← J6]
  exact h1
theorem VW_s {l : List Oper} {mid : List Nat} {Hz Hc F : List HP} {i : Nat} {t : OW} {o : Oper} (ho : nthO l i = o) (h : VL P (some (some F)) n B w0 ops (ZW P B w0 ops l Q mid Hz Hc t) [o] env Hc) : VW P n B w0 ops l Q mid (.s i t) env Hz Hc F := by
  refine ⟨fun a ha w hw => ?_⟩
  have h1 : Yt P ops (ZW P B w0 ops l Q mid Hz Hc t) (St B w0 Hc) [o] a w := h.run a ha w hw
  unfold Xg
  rw [ho, ← J6]
  exact h1
theorem YlD {l : List Oper} {mid : List Nat} {Hz Hc F : List HP} {i : Nat} {t : OW} {o : Oper} (ho : nthO l i = o) (h : VL P (some (some F)) n B w0 ops (ZW P B w0 ops l Q mid Hz Hc t) [o] env Hc) : VW P n B w0 ops l Q mid (.e1 i t) env Hz Hc F := by
  refine ⟨fun a ha w hw => ?_⟩
  have h1 : Yt P ops (ZW P B w0 ops l Q mid Hz Hc t) (St B w0 Hc) [o] a w := h.run a ha w hw
  unfold Xg
  rw [ho, ← J6]
  exact h1
theorem YlE {l : List Oper} {mid : List Nat} {Hz Hc F : List HP} {i j : Nat} {t u : OW} {o o' : Oper} (ho : nthO l i = o) (ho' : nthO l j = o') (h : VL P (some (some F)) n B w0 ops (ZW P B w0 ops l Q mid Hz Hc t) [o] env Hc)
    (h' : VL P (some (some F)) n B w0 ops (ZW P B w0 ops l Q mid Hz Hc u) [o'] env Hc) : VW P n B w0 ops l Q mid (.e2 i t j u) env Hz Hc F := by
  refine ⟨fun a ha w hw => ?_⟩
  have h1 : Yt P ops (ZW P B w0 ops l Q mid Hz Hc t) (St B w0 Hc) [o] a w := h.run a ha w hw
  have h2 : Yt P ops (ZW P B w0 ops l Q mid Hz Hc u) (St B w0 Hc) [o'] a w := h'.run a ha w hw
  unfold Xg
  rw [ho, ho', ← J6, ← J6]
  exact ⟨h1, h2⟩
theorem Yf1 {l : List Oper} {mid : List Nat} {Hz Hc F HF : List HP} (happ : App Hc F HF) (h : VM P n B w0 ops l Q mid env Hz HF) : VW P n B w0 ops l Q mid .done env Hz Hc F :=
  ⟨fun a ha w hw => by rw [← JL happ] at hw; exact h.run a ha w hw⟩
theorem Yii {l : List Oper} {mid : List Nat} {Hz Hc F H' : List HP} {t : OW} (hp : Pull Hc H' F) (h : VW P n B w0 ops l Q mid t env Hz Hc F) : VQ n B w0 (ZW P B w0 ops l Q mid Hz Hc t) .normal env H' :=
  ⟨fun a w ha hw => h.run a ha w (hw.perm hp)⟩
theorem Yif {l : List Oper} {Hz : List HP} (h : VQ n B w0 Q .normal env H) : VM P n B w0 ops l Q [] env Hz H := ⟨fun a ha w hw => h.run a w ha hw⟩
theorem YfX {l : List Oper} {mid : List Nat} {Hz : List HP} {i : Nat} {o : Oper} (ho : nthO l i = o) (h : VL P none n B w0 ops (MidQ P B w0 ops l Q mid Hz) [o] env H) : VM P n B w0 ops l Q (i :: mid) env Hz H := by
  refine ⟨fun a ha w hw => ?_⟩
  have h1 : wpList P ops (MidQ P B w0 ops l Q mid Hz) [o] a w := h.run a ha w hw
  have hno : ¬ LetsOut (MidQ P B w0 ops l Q mid Hz) := by rintro ⟨_, _, h⟩; exact h
  unfold YaW
  rw [ho]
  unfold wpList at h1
  unfold wpD
  by_cases hw : Region.wanted o (yielded ops a.tmps) = true
  · rw [if_pos hw] at h1 ⊢
    rcases h1 with h | ⟨_, h⟩
    · exact Oper.wp_mono_noQ (fun _ _ _ h => h) hno (Oper.wp_mono (fun a' w' h' => h') h)
    · exact (hno h).elim
  · rw [if_neg hw] at h1 ⊢
    exact h1
theorem Yig {l : List Oper} {mid : List Nat} {Hz F H' : List HP} (hp : Pull Hz H' F) (h : VM P n B w0 ops l Q mid env Hz H') : VQ n B w0 (MidQ P B w0 ops l Q mid Hz) .normal env H' :=
  ⟨fun a w ha hw => ⟨(hw.perm hp).prefix_, h.run a ha w hw⟩⟩
theorem YhW {id : Nat} {l : List Oper} (t : OW) (zs mid tail : List Nat) (mask maskz : List Bool) {Hc F Hz Fz : List HP} (hm : P.follows .mixedOrders = true)
    (hB : (Region.noSelect l.toArray && decide ((mid ++ tail).length ≤ l.toArray.size) && ((mid ++ tail).all fun j => decide (j < l.toArray.size)) && Js l.toArray zs mid tail t (Array.replicate l.toArray.size false) (l.toArray.size - (mid ++ tail).length)) = true)
    (hsp : Split mask H Hc F) (hsz : Split maskz Hc Hz Fz) {l2 : List Oper} (hl2 : Yj l tail = l2) (h : VW P n B w0 l.toArray l (X5 P l.toArray (Only Q) l2) mid t env Hz Hc F) : VC P n B w0 (.region id l.toArray true) Q env H := by
  simp only [Bool.and_eq_true, decide_eq_true_eq] at hB
  obtain ⟨⟨⟨h1, h2⟩, h3⟩, h5⟩ := hB
  refine ⟨fun a w ha hw => Zs (Q := Only Q) ?_ fun e a w h => by cases e <;> first | exact h | cases h⟩
  have hst : St B w0 (Hc ++ F) w.drew := (hw.perm (Xj hsp)).drew
  have hr := h.run a ha w.drew hst
  rw [← hl2] at hr
  have := X9 (S0 := St B w0 Hz) (S := St B w0 Hc) (zs := zs) (fun w hw => (hw.perm (Xj hsz)).prefix_) h1 (fun c a w h => h) (by rintro ⟨_, _, h⟩; exact h) l rfl (fun j hj => by
    have := List.all_eq_true.1 h3 j hj
    exact ⟨_, Array.getElem?_eq_getElem (of_decide_eq_true this)⟩) t _ _ a w.drew (Xz _ _) h5 hst.prefix_ hr
  rw [Nat.sub_add_cancel h2] at this
  exact JK hm (YaV _ _ _ _ this)
end
open Go.RowKit
theorem XR {P : Program} {m : Mode} {n : Shp} {B d : Nat} {w0 : World} {ops : Array Oper} {Q : Exit → Act → World → Prop} {rest : List Oper} {env : Env} {H : List HP} {ty : TypeId} {pos : String} {after : Array Edge} {x : Operand} {a : Addr} {j : Nat} (hx : evo env x = some (sptr (some a) j)) (hn : Nat.ble (d + 1) n.k = true) (h : VL P m n B w0 ops Q rest ((d, sptr (some a) j) :: env) H) :
    VL P m n B w0 ops Q (⟨some d, .nilCheck x, ty, pos, after, none⟩ :: rest) env H := VX hx hn h
end Go.Eng
namespace Go.Proofs.YtmalhidldgfeoaaGreatDoor
open Go.RowKit Go.Eng Go.Nw Go.Rt
set_option maxHeartbeats 2000000 in
theorem YfI (ga g6 g5 i cap : Nat) (C : List ClM) (x : ClM) (hx : C[i]? = some x) (hxl : x.rs.length ≤ 1000) (lA : Option Addr) (lcap : Nat) (l : List Int) {B : Nat} {w0 : World} {H : List HP} {w : World}
    (hw : St B w0 (blk g6 (.cells #[sptr (some ⟨ga, 0, none⟩) (i * 5)] 249 (0, 0)) :: blk g5 (.cells #[.slice lA l.length lcap] 24 (0, 0)) :: sl 61 5 (some ⟨ga, 0, none⟩) C.length cap (C.flatMap clF) :: sl 72 1 x.rA x.rs.length x.rcap (x.rs.flatMap rowF) :: H) w) :
    Calls Tryz.prog 201 [.pointer (some ⟨g6, 0, none⟩), .pointer (some ⟨g5, 0, none⟩)].toArray w (Post B w0 fun v K => v = .tuple #[] ∧ ∃ A' cap', K = blk g6 (.cells #[sptr (some ⟨ga, 0, none⟩) (i * 5)] 249 (0, 0)) :: blk g5 (.cells #[.slice lA l.length lcap] 24 (0, 0)) :: sl 61 5 (some ⟨ga, 0, none⟩) C.length cap ((C.set i { x with rA := A', rcap := cap', rs := x.rs ++ [⟨lA, lcap, l⟩] }).flatMap clF) :: sl 72 1 A' (x.rs ++ [(⟨lA, lcap, l⟩ : RowM)]).length cap' ((x.rs ++ [(⟨lA, lcap, l⟩ : RowM)]).flatMap rowF) :: H) := by
  refine Yc Tryz.func201 Tryz.ntmps201 rfl rfl hw ?_
  have hi := (List.getElem?_eq_some_iff.1 hx).1
  repeat' (first | fail)
  apply JO [0, 1, 2, 3, 4, 5, 6, 7] [8, 9, 10] [true, true, true]
  kernel_rfl
  kernel_rfl
  exact zy
  (simp only [Yj, nthO]; rfl)
  (simp only [Yj, nthO]; rfl)
  repeat' (first | (apply XR; exact rfl; exact rfl) | (apply zg2; refine zs58 ?_) | (apply zg3; first | refine zs7 ?_ | refine zs59 ?_) | (apply zg21; (refine zs49 ?_; intro _ _)) | (apply zg26; (refine zs56 ?_; intro _)) | apply (zs65 ?_) | (apply Ys; exact zp) | apply (zs87 ?_) | (apply Yk; (repeat (first | with_reducible exact Yh | (with_reducible apply Yg; (repeat (first | with_reducible exact Yf | with_reducible apply Ye)))))) | apply (zs93 ?_) | fail)
  rename_i A' cap'
  apply Xx T (f := clF) (l := C) (i := i) (q := 5) (o := 1) (b := x) (b' := { x with rA := A', rcap := cap', rs := x.rs ++ [⟨lA, lcap, l⟩] }); exact rfl; exact rfl; exact rfl; exact zd; exact hx; (simp [clF]); exact fun _ => rfl; exact rfl; exact rfl
  repeat' (first | apply (zs65 ?_) | apply (zs94 ?_) | fail)
  have q1 : sl 72 1 A' (x.rs.length + 1) cap' (x.rs.flatMap rowF ++ #[Value.slice lA l.length lcap].toList) = sl 72 1 A' (x.rs ++ [(⟨lA, lcap, l⟩ : RowM)]).length cap' ((x.rs ++ [(⟨lA, lcap, l⟩ : RowM)]).flatMap rowF) := WB _ _ _ _ ⟨lA, lcap, l⟩
  rw [q1]
  apply Yi (blk g6 (.cells #[sptr (some ⟨ga, 0, none⟩) (i * 5)] 249 (0, 0)) :: blk g5 (.cells #[.slice lA l.length lcap] 24 (0, 0)) :: sl 61 5 (some ⟨ga, 0, none⟩) C.length cap ((C.set i { x with rA := A', rcap := cap', rs := x.rs ++ [⟨lA, lcap, l⟩] }).flatMap clF) :: sl 72 1 A' (x.rs ++ [(⟨lA, lcap, l⟩ : RowM)]).length cap' ((x.rs ++ [(⟨lA, lcap, l⟩ : RowM)]).flatMap rowF) :: H)
  · clear q1
    exact zk
  apply Xq; exact rfl
  exact ⟨rfl, A', cap', rfl⟩
set_option maxHeartbeats 2000000 in
theorem YfK (ga g6 g5 i cap : Nat) (C : List ClM) (x : ClM) (hx : C[i]? = some x) (hxl : x.ss.length ≤ 1000) (lA : Option Addr) (lcap : Nat) (l : List Int) {B : Nat} {w0 : World} {H : List HP} {w : World}
    (hw : St B w0 (blk g6 (.cells #[sptr (some ⟨ga, 0, none⟩) (i * 5)] 249 (0, 0)) :: blk g5 (.cells #[.slice lA l.length lcap] 24 (0, 0)) :: sl 61 5 (some ⟨ga, 0, none⟩) C.length cap (C.flatMap clF) :: sl 24 1 x.sA x.ss.length x.scap (x.ss.flatMap rowF) :: H) w) :
    Calls Tryz.prog 203 [.pointer (some ⟨g6, 0, none⟩), .pointer (some ⟨g5, 0, none⟩)].toArray w (Post B w0 fun v K => v = .tuple #[] ∧ ∃ A' cap', K = blk g6 (.cells #[sptr (some ⟨ga, 0, none⟩) (i * 5)] 249 (0, 0)) :: blk g5 (.cells #[.slice lA l.length lcap] 24 (0, 0)) :: sl 61 5 (some ⟨ga, 0, none⟩) C.length cap ((C.set i { x with sA := A', scap := cap', ss := x.ss ++ [⟨lA, lcap, l⟩] }).flatMap clF) :: sl 24 1 A' (x.ss ++ [(⟨lA, lcap, l⟩ : RowM)]).length cap' ((x.ss ++ [(⟨lA, lcap, l⟩ : RowM)]).flatMap rowF) :: H) := by
  refine Yc Tryz.func203 Tryz.ntmps203 rfl rfl hw ?_
  have hi := (List.getElem?_eq_some_iff.1 hx).1
  repeat' (first | fail)
  apply JO [0, 1, 2, 3, 4, 5, 6, 7] [8, 9, 10] [true, true, true]
  kernel_rfl
  kernel_rfl
  exact zy
  (simp only [Yj, nthO]; rfl)
  (simp only [Yj, nthO]; rfl)
  repeat' (first | (apply XR; exact rfl; exact rfl) | (apply zg2; refine zs58 ?_) | (apply zg3; first | refine zs7 ?_ | refine zs59 ?_) | (apply zg21; (refine zs49 ?_; intro _ _)) | (apply zg26; (refine zs56 ?_; intro _)) | apply (zs65 ?_) | (apply Ys; exact zp) | apply (zs87 ?_) | (apply Yk; (repeat (first | with_reducible exact Yh | (with_reducible apply Yg; (repeat (first | with_reducible exact Yf | with_reducible apply Ye)))))) | apply (zs93 ?_) | fail)
  rename_i A' cap'
  apply Xx T (f := clF) (l := C) (i := i) (q := 5) (o := 4) (b := x) (b' := { x with sA := A', scap := cap', ss := x.ss ++ [⟨lA, lcap, l⟩] }); exact rfl; exact rfl; exact rfl; exact zd; exact hx; (simp [clF]); exact fun _ => rfl; exact rfl; exact rfl
  repeat' (first | apply (zs65 ?_) | apply (zs94 ?_) | fail)
  have q1 : sl 24 1 A' (x.ss.length + 1) cap' (x.ss.flatMap rowF ++ #[Value.slice lA l.length lcap].toList) = sl 24 1 A' (x.ss ++ [(⟨lA, lcap, l⟩ : RowM)]).length cap' ((x.ss ++ [(⟨lA, lcap, l⟩ : RowM)]).flatMap rowF) := WB _ _ _ _ ⟨lA, lcap, l⟩
  rw [q1]
  apply Yi (blk g6 (.cells #[sptr (some ⟨ga, 0, none⟩) (i * 5)] 249 (0, 0)) :: blk g5 (.cells #[.slice lA l.length lcap] 24 (0, 0)) :: sl 61 5 (some ⟨ga, 0, none⟩) C.length cap ((C.set i { x with sA := A', scap := cap', ss := x.ss ++ [⟨lA, lcap, l⟩] }).flatMap clF) :: sl 24 1 A' (x.ss ++ [(⟨lA, lcap, l⟩ : RowM)]).length cap' ((x.ss ++ [(⟨lA, lcap, l⟩ : RowM)]).flatMap rowF) :: H)
  · clear q1
    exact zk
  apply Xq; exact rfl
  exact ⟨rfl, A', cap', rfl⟩
set_option maxRecDepth 10000 in
set_option maxHeartbeats 4000000 in
theorem YfJ (ga g6 g5 i cap : Nat) (C : List ClM) (x : ClM) (hx : C[i]? = some x) (hxl : x.bs.length ≤ 1000 ∧ x.ws.length ≤ 1000) (lA : Option Addr) (lcap : Nat) (l : List Int) (v0 v1 : Int) (h0 : l[0]? = some v0) (h1 : l[1]? = some v1) {B : Nat} {w0 : World} {H : List HP} {w : World}
    (hw : St B w0 (blk g6 (.cells #[sptr (some ⟨ga, 0, none⟩) (i * 5)] 249 (0, 0)) :: blk g5 (.cells #[.slice lA l.length lcap] 24 (0, 0)) :: sl 61 5 (some ⟨ga, 0, none⟩) C.length cap (C.flatMap clF) :: nrs x.bA x.bcap x.bs :: nrs x.wA x.wcap x.ws :: nrs lA lcap l :: H) w) :
    Calls Tryz.prog 202 [.pointer (some ⟨g6, 0, none⟩), .pointer (some ⟨g5, 0, none⟩)].toArray w (Post B w0 fun v K => v = .tuple #[] ∧ ∃ A1 c1 A2 c2, K = blk g6 (.cells #[sptr (some ⟨ga, 0, none⟩) (i * 5)] 249 (0, 0)) :: blk g5 (.cells #[.slice lA l.length lcap] 24 (0, 0)) :: sl 61 5 (some ⟨ga, 0, none⟩) C.length cap ((C.set i { x with bA := A1, bcap := c1, bs := x.bs ++ [v0], wA := A2, wcap := c2, ws := x.ws ++ [v1] }).flatMap clF) :: nrs A1 c1 (x.bs ++ [v0]) :: nrs A2 c2 (x.ws ++ [v1]) :: nrs lA lcap l :: H) := by
  refine Yc Tryz.func202 Tryz.ntmps202 rfl rfl hw ?_
  have hi := (List.getElem?_eq_some_iff.1 hx).1
  have hl := (List.getElem?_eq_some_iff.1 h1).1
  repeat' (first | fail)
  apply YhW (.z 1 (.s 0 (.s 2 (.s 3 (.s 4 (.s 5 (.s 6 (.s 7 (.s 8 (.s 11 (.s 12 (.s 13 (.s 14 (.s 15 (.s 16 (.s 17 (.e2 9 (.e2 10 (.e1 18 (.e1 19 .done)) 18 (.e1 10 (.e1 19 .done))) 18 (.e1 9 (.e1 10 (.e1 19 .done)))))))))))))))))))) [1] [20, 21, 22] [23, 24, 25] [true, true, true, false, false, true] [true, true, false, true]
  kernel_rfl
  kernel_rfl
  exact zy
  exact zy
  (simp only [Yj, nthO]; rfl)
  repeat' (first | (apply XR; exact rfl; exact rfl) | (apply VW_z; (simp only [nthO]; rfl); exact zp; (repeat (first | with_reducible exact Yh | (with_reducible apply Yg; (repeat (first | with_reducible exact Yf | with_reducible apply Ye)))))) | (apply VW_s; (simp only [nthO]; rfl)) | (apply YlD; (simp only [nthO]; rfl)) | (apply YlE; (simp only [nthO]; rfl); (simp only [nthO]; rfl)) | (apply Yii; (repeat (first | with_reducible exact Yh | (with_reducible apply Yg; (repeat (first | with_reducible exact Yf | with_reducible apply Ye)))))) | (apply Yf1; exact zp) | (apply YfX; (simp only [nthO]; rfl)) | (apply Yig; (repeat (first | with_reducible exact Yh | (with_reducible apply Yg; (repeat (first | with_reducible exact Yf | with_reducible apply Ye)))))) | (apply Yif) | (apply zg2; refine zs58 ?_) | (apply zg3; first | refine zs7 ?_ | refine zs59 ?_ | refine zs60 ?_) | (apply zg5; refine zs10 ?_) | (apply zg21; (refine zs49 ?_; intro _ _)) | (apply zg26; (refine zs56 ?_; intro _)) | apply (zs65 ?_) | (apply Ys; exact zp) | apply (zs87 ?_) | (apply Yk; (repeat (first | with_reducible exact Yh | (with_reducible apply Yg; (repeat (first | with_reducible exact Yf | with_reducible apply Ye)))))) | fail)
  all_goals (
    first
      | (rename_i A1 c1 g A2 c2; guard_hyp g : Nat; guard_hyp A1 : Option Addr)
      | (rename_i A1 c1 A2 c2; guard_hyp A1 : Option Addr)
    apply Xx T (f := clF) (l := C) (i := i) (q := 5) (o := 2) (b := x) (b' := { x with bA := A1, bcap := c1, bs := x.bs ++ [v0] }); exact rfl; exact rfl; exact rfl; exact zd; exact hx; (simp [clF]); exact fun _ => rfl; exact rfl; exact rfl
    obtain ⟨C2, hC2⟩ : ∃ C2, C.set i { x with bA := A1, bcap := c1, bs := x.bs ++ [v0] } = C2 := ⟨_, rfl⟩
    have hl2 : C2.length = C.length := by rw [← hC2, List.length_set]
    have hx2 : C2[i]? = some { x with bA := A1, bcap := c1, bs := x.bs ++ [v0] } := by rw [← hC2, List.getElem?_set_self hi]
    rw [hC2]
    repeat' (first | (apply XR; exact rfl; exact rfl) | (apply YfX; (simp only [nthO]; rfl)) | (apply Yig; (repeat (first | with_reducible exact Yh | (with_reducible apply Yg; (repeat (first | with_reducible exact Yf | with_reducible apply Ye)))))) | (apply Yif) | (apply zg2; refine zs58 ?_) | apply (zs65 ?_) | apply (zs93 ?_) | fail)
    apply Xx T (f := clF) (l := C2) (i := i) (q := 5) (o := 3) (b := { x with bA := A1, bcap := c1, bs := x.bs ++ [v0] }) (b' := { x with bA := A1, bcap := c1, bs := x.bs ++ [v0], wA := A2, wcap := c2, ws := x.ws ++ [v1] }); exact rfl; exact rfl; exact rfl; exact zd; exact hx2; (simp [clF]); exact fun _ => rfl; exact rfl; exact rfl
    repeat' (first | apply (zs65 ?_) | apply (zs94 ?_) | fail)
    rw [ZQ, ZQ, ← hC2, List.set_set]
    apply Yi (blk g6 (.cells #[sptr (some ⟨ga, 0, none⟩) (i * 5)] 249 (0, 0)) :: blk g5 (.cells #[.slice lA l.length lcap] 24 (0, 0)) :: sl 61 5 (some ⟨ga, 0, none⟩) C.length cap ((C.set i { x with bA := A1, bcap := c1, bs := x.bs ++ [v0], wA := A2, wcap := c2, ws := x.ws ++ [v1] }).flatMap clF) :: nrs A1 c1 (x.bs ++ [v0]) :: nrs A2 c2 (x.ws ++ [v1]) :: nrs lA lcap l :: H)
    · exact zk
    apply Xq; exact rfl
    exact ⟨rfl, A1, c1, A2, c2, rfl⟩)
open Go.RowKit Go.Eng Go.Nw Go.Rt
theorem Uf {α : Type} (f : α → HP) (l : List α) (r : α) (H : List HP) : Perm (many ((l ++ [r]).map f) :: H) (f r :: many (l.map f) :: H) := by
  have := Perm.pull (f r) (l.map f) [] H
  rw [List.append_nil] at this
  rw [List.map_append]
  exact this
def Few2 (x : Clm) : Prop := x.routes.length ≤ 2 ∧ x.bounds.length ≤ 2 ∧ x.worst.length ≤ 2 ∧ x.slots.length ≤ 2
theorem Ykg {p : Pst} (h : Rdr p) : ∀ x ∈ p.c, Few2 x := by
  intro x hx
  obtain ⟨i, hi⟩ := List.mem_iff_getElem?.1 hx
  have hl := (List.getElem?_eq_some_iff.1 hi).1
  by_cases hi2 : i + 1 < p.c.length
  · have := h.full i x hi hi2
    unfold Few2
    omega
  · obtain ⟨cs, y, hc⟩ := WG (l := p.c) (fun e => by rw [e] at hl; simp at hl)
    have hcl : p.c.length = cs.length + 1 := by rw [hc]; simp
    have e : x = y := by
      rw [hc, List.getElem?_append_right (by omega), show i - cs.length = 0 by omega] at hi
      exact (Option.some.inj hi).symm
    subst e
    unfold Few2
    rcases h.at_ cs x hc with h | h | h | h
    · obtain ⟨_, h1, h2, h3, h4⟩ := h
      rw [h1, h2, h3, h4]
      simp
    · omega
    · omega
    · omega
theorem YjU {p : Pst} (h : Rdr p) {k : Nat} (hk : k ≠ 0) (hk4 : k < 4) (hf : Z3 p k = true) : p.c ≠ [] := by
  intro e
  have h3 := h.some_ e
  unfold Z3 Xd at hf
  rw [e, h3] at hf
  simp [hk] at hf
  omega
theorem Yjl (k : Nat) (l : List Int) (c : List Clm) : (ZU k l c).length ≤ c.length + 1 := by
  unfold ZU Ql
  split
  · simp
  · rw [List.length_append, List.length_take, List.length_singleton]; omega
theorem Yes : ∀ (ls : List (List UInt8)) {p p' : Pst}, runL ls p = some p' → p'.c.length ≤ p.c.length + ls.length
  | [], p, p', h => by cases h; simp
  | x :: ls, p, p', h => by
    unfold runL at h
    split at h
    · cases h
    rename_i q hq
    have h1 := Yes ls h
    obtain ⟨k, l, _, _, _, _, _, rfl⟩ := YbY hq
    have h2 := Yjl k l p.c
    rw [List.length_cons]
    dsimp only at h1
    omega
theorem Yj3 {k : Nat} : Ug k ≤ 64 := by unfold Ug; split; omega; split; omega; split <;> omega
open Go.RowKit Go.Eng Go.Nw Go.Rt
theorem Yf4 {C : List ClM} {last : Nat} (h : Rdr ⟨C.map ClM.clm, last⟩) : ∀ c ∈ C, c.rs.length ≤ 2 ∧ c.bs.length ≤ 2 ∧ c.ws.length ≤ 2 ∧ c.ss.length ≤ 2 := fun c hc => by
  have h1 := Ykg h c.clm (List.mem_map_of_mem hc)
  unfold Few2 ClM.clm at h1
  simp only [List.length_map] at h1
  exact h1
def ZI (C : List ClM) : Prop := ∀ c ∈ C, (∀ r ∈ c.rs, r.xs.length ≤ 64) ∧ ∀ r ∈ c.ss, r.xs.length ≤ 64
def U9 (H : List HP) (g last k : Nat) (l : List Int) (C : List ClM) (v : Value) (K : List HP) : Prop := v = .tuple #[] ∧ ∃ A' cap' C', C'.map ClM.clm = ZU k l (C.map ClM.clm) ∧ ZI C' ∧ K = rdrA g A' cap' C' last :: clsP A' cap' C' :: many (C'.map clQ) :: H
theorem Oe (Cs : List ClM) (x y : ClM) : (Cs ++ [x]).set Cs.length y = Cs ++ [y] := by simp
theorem W9 {Cs : List ClM} {x : ClM} (h : ZI (Cs ++ [x])) (y : ClM) (hy : (∀ r ∈ y.rs, r.xs.length ≤ 64) ∧ ∀ r ∈ y.ss, r.xs.length ≤ 64) : ZI (Cs ++ [y]) := fun c hc => by
  rcases List.mem_append.1 hc with h1 | h1
  · exact h c (List.mem_append_left _ h1)
  · rw [List.mem_singleton.1 h1]; exact hy
theorem Yey {l : List RowM} {r : RowM} (h : ∀ x ∈ l, x.xs.length ≤ 64) (hr : r.xs.length ≤ 64) : ∀ x ∈ l ++ [r], x.xs.length ≤ 64 := fun x hx => by
  rcases List.mem_append.1 hx with h1 | h1
  · exact h x h1
  · rw [List.mem_singleton.1 h1]; exact hr
theorem Oi {k : Nat} (hk : k ≠ 0) (l : List Int) (Cs : List ClM) (x y : ClM) (h : y.clm = YY k l x.clm) : (Cs ++ [y]).map ClM.clm = ZU k l ((Cs ++ [x]).map ClM.clm) := by
  unfold ZU
  rw [if_neg hk, List.map_append, List.map_append, List.map_singleton, List.map_singleton, (Y5 _ _).1, (Y5 _ _).2, h]
set_option maxHeartbeats 2000000 in
theorem YfH (g : Nat) (A : Option Addr) (cap : Nat) (C : List ClM) (last : Nat) (lA : Option Addr) (lcap : Nat) (l : List Int) (v0 : Int) (h0 : l[0]? = some v0) (hC : C.length ≤ 1000000) (hrow : ZI C) {B : Nat} {w0 : World} {H : List HP} {w : World}
    (hw : St B w0 (rdrA g A cap C last :: clsP A cap C :: many (C.map clQ) :: nrs lA lcap l :: H) w) :
    Calls Tryz.prog 145 [.pointer (some ⟨g, 0, none⟩), .int .i64 (0 : Nat), .slice lA l.length lcap].toArray w (Post B w0 (U9 H g last 0 l C)) := by
  refine Yc Tryz.func145 Tryz.ntmps145 rfl rfl hw ?_
  have hl1 := (List.getElem?_eq_some_iff.1 h0).1
  repeat' (first | apply (zs1 ?_) | (apply zg7; (refine zs15 ?_ ?_ <;> intro _ <;> try (exfalso; omega))) | (apply zg23; (refine zs53 ?_; intro _)) | apply (zs65 ?_) | apply (zs68 ?_) | apply (zs69 ?_) | apply (zs70 ?_) | (apply zg27; refine zs71 ?_) | fail)
  apply JO [0, 1, 2, 3, 4, 5, 6, 7, 8, 9, 10] [11, 12, 13] [true, true, false, false, true]
  kernel_rfl
  kernel_rfl
  exact zy
  (simp only [Yj, nthO]; rfl)
  (simp only [Yj, nthO]; rfl)
  repeat' (first | (apply XR; exact rfl; exact rfl) | apply (zs1 ?_) | apply (zs5 ?_) | (apply zg2; refine zs6 ?_) | (apply zg3; first | refine zs7 ?_ | refine zs60 ?_) | (apply zg5; refine zs10 ?_) | (apply zg21; (refine zs49 ?_; intro _ _)) | (apply zg22; refine zs50 ?_) | (apply zg25; refine zs55 ?_) | (apply zg26; (refine zs56 ?_; intro _)) | apply (zs65 ?_) | (apply Ys; exact zp) | apply (zs68 ?_) | apply (zs74 ?_) | apply (zs77 ?_) | apply (zs87 ?_) | (apply Yk; (repeat (first | with_reducible exact Yh | (with_reducible apply Yg; (repeat (first | with_reducible exact Yf | with_reducible apply Ye)))))) | apply (zs93 ?_) | apply (zs94 ?_) | fail)
  rename_i A' cap'
  have q1 : sl 61 5 A' (C.length + 1) cap' (C.flatMap clF ++ #[Value.int .i64 v0, .slice none 0 0, .slice none 0 0, .slice none 0 0, .slice none 0 0].toList) = clsP A' cap' (C ++ [nilC v0]) := YdO _ _ _ (nilC v0)
  rw [q1, show C.length + 1 = (C ++ [nilC v0]).length by simp]
  apply Yi (rdrA g A' cap' (C ++ [nilC v0]) last :: clsP A' cap' (C ++ [nilC v0]) :: many ((C ++ [nilC v0]).map clQ) :: H)
  · clear q1
    intro w hw
    have h5 : St B w0 (many (C.map clQ) :: rdrA g A' cap' (C ++ [nilC v0]) last :: clsP A' cap' (C ++ [nilC v0]) :: H) w := by
      revert w
      exact zk
    have h6 := (Yar v0 h5).perm (ZF clQ C (nilC v0) _)
    exact h6.perm ((Perm.swap _ _ _).trans (.cons _ (.swap _ _ _)))
  apply XU; exact rfl
  refine ⟨rfl, A', cap', C ++ [nilC v0], ?_, ?_, rfl⟩
  · rw [List.map_append]
    unfold ZU
    rw [if_pos rfl, List.getD_eq_getElem?_getD, h0]
    rfl
  · intro c hc
    rcases List.mem_append.1 hc with h1 | h1
    · exact hrow c h1
    · rw [List.mem_singleton.1 h1]
      unfold nilC
      simp
set_option maxHeartbeats 4000000 in
theorem YeH (g : Nat) (A : Option Addr) (cap : Nat) (Cs : List ClM) (x : ClM) (last : Nat) (lA : Option Addr) (lcap : Nat) (l : List Int) (hC : (Cs ++ [x]).length ≤ 1000000) (hx : x.rs.length ≤ 1000) (hrow : ZI (Cs ++ [x])) (hl : l.length ≤ 64) {B : Nat} {w0 : World} {H : List HP} {w : World}
    (hw : St B w0 (rdrA g A cap (Cs ++ [x]) last :: clsP A cap (Cs ++ [x]) :: many ((Cs ++ [x]).map clQ) :: nrs lA lcap l :: H) w) :
    Calls Tryz.prog 145 [.pointer (some ⟨g, 0, none⟩), .int .i64 (1 : Nat), .slice lA l.length lcap].toArray w (Post B w0 (U9 H g last 1 l (Cs ++ [x]))) := by
  refine Yc Tryz.func145 Tryz.ntmps145 rfl rfl hw ?_
  refine Ur (e := 61) (size := 5) (A := A) (k := (Cs ++ [x]).length) (cap := cap) (xs := (Cs ++ [x]).flatMap clF) zm (by simp) ?_
  rintro ga rfl
  have hrx := hrow x (by simp)
  obtain ⟨C, hCe⟩ : ∃ C, Cs ++ [x] = C := ⟨_, rfl⟩
  have hn : C.length = Cs.length + 1 := by rw [← hCe]; simp
  have hxi : C[Cs.length]? = some x := by rw [← hCe]; simp
  rw [hCe] at hC ⊢
  repeat' (first | apply (zs1 ?_) | (apply zg7; (refine zs15 ?_ ?_ <;> intro _ <;> try (exfalso; omega))) | (apply zg23; (refine zs53 ?_; intro _)) | apply (zs65 ?_) | apply (zs68 ?_) | apply (zs69 ?_) | apply (zs70 ?_) | (apply zg27; refine zs72 ?_) | apply (zs76 ?_) | fail)
  apply YZ [0, 1, 2, 3, 4, 5, 6, 7, 8, 9, 10, 11] [12] [true, true, true, false, false]
  kernel_rfl
  kernel_rfl
  exact zy
  (simp only [Yj, nthO]; rfl)
  (simp only [Yj, nthO]; rfl)
  repeat' (first | (apply J9 T; exact rfl; exact rfl; exact rfl; exact rfl; omega) | apply (zs1 ?_) | apply (zs5 ?_) | (apply zg2; refine zs6 ?_) | (apply zg3; refine zs7 ?_) | (apply zg4; refine zs9 ?_) | (apply zg5; refine zs10 ?_) | (apply zg14; refine zs31 ?_) | (apply zg22; first | refine zs50 ?_ | refine zs51 ?_) | (apply zg24; (refine zs54 ?_; intro _)) | (apply zg25; refine zs55 ?_) | apply (zs65 ?_) | (apply Ys; exact zp) | apply (zs68 ?_) | apply (zs69 ?_) | apply (zs70 ?_) | (apply zg29; (apply Yq; exact za ; exact rfl)) | apply (zs87 ?_) | (apply Yk; (repeat (first | with_reducible exact Yh | (with_reducible apply Yg; (repeat (first | with_reducible exact Yf | with_reducible apply Ye)))))) | apply (zs93 ?_) | apply (zs94 ?_) | fail)
  rename_i g5 _ g6 g7
  apply Wc _ (cs := [.pointer (some ⟨g6, 0, none⟩), .pointer (some ⟨g5, 0, none⟩)])
  exact rfl
  exact YlW
  exact za
  exact rfl
  · intro w hw
    have h5 : St B w0 (many (C.map clQ) :: blk g6 (.cells #[sptr (some ⟨ga, 0, none⟩) (Cs.length * 5)] 249 (0, 0)) :: blk g5 (.cells #[.slice lA l.length lcap] 24 (0, 0)) :: clsP (some ⟨ga, 0, none⟩) cap C :: rdrA g (some ⟨ga, 0, none⟩) cap C last :: nrs lA lcap l :: H) w := by
      rw [show ((C.length : Int) - 1).toNat = Cs.length by omega] at hw
      revert w
      exact zk
    have h6 : St B w0 (many (clP x) :: many (Cs.map clQ) :: blk g6 (.cells #[sptr (some ⟨ga, 0, none⟩) (Cs.length * 5)] 249 (0, 0)) :: blk g5 (.cells #[.slice lA l.length lcap] 24 (0, 0)) :: clsP (some ⟨ga, 0, none⟩) cap C :: rdrA g (some ⟨ga, 0, none⟩) cap C last :: nrs lA lcap l :: H) w := by
      rw [← hCe] at h5 ⊢
      exact h5.perm (Uf clQ Cs x _)
    have h7 := h6.perm (.open_ (clP x) _)
    refine YfI ga g6 g5 Cs.length cap C x hxi hx lA lcap l (H := many (x.rs.map rowQ) :: nrs x.bA x.bcap x.bs :: nrs x.wA x.wcap x.ws :: sl 24 1 x.sA x.ss.length x.scap (x.ss.flatMap rowF) :: many (x.ss.map rowQ) :: many (Cs.map clQ) :: rdrA g (some ⟨ga, 0, none⟩) cap C last :: nrs lA lcap l :: H) ?_
    unfold clP at h7
    dsimp only [List.cons_append, List.nil_append] at h7
    clear h5 h6 hw
    revert w
    exact zk
  rintro _ _ ⟨rfl, A', cap', rfl⟩
  obtain ⟨x', hx'⟩ : ∃ x' : ClM, { x with rA := A', rcap := cap', rs := x.rs ++ [⟨lA, lcap, l⟩] } = x' := ⟨_, rfl⟩
  have hset : C.set Cs.length x' = Cs ++ [x'] := by rw [← hCe]; exact Oe _ _ _
  have hn' : C.length = (Cs ++ [x']).length := by rw [hn]; simp
  rw [hx', hset]
  repeat' (first | apply (zs65 ?_) | fail)
  apply Yi (rdrA g (some ⟨ga, 0, none⟩) cap (Cs ++ [x']) last :: clsP (some ⟨ga, 0, none⟩) cap (Cs ++ [x']) :: many ((Cs ++ [x']).map clQ) :: H)
  · intro w hw
    have h5 : St B w0 (sl 72 1 A' (x.rs ++ [(⟨lA, lcap, l⟩ : RowM)]).length cap' ((x.rs ++ [(⟨lA, lcap, l⟩ : RowM)]).flatMap rowF) :: nrs lA lcap l :: many (x.rs.map rowQ) :: nrs x.bA x.bcap x.bs :: nrs x.wA x.wcap x.ws :: sl 24 1 x.sA x.ss.length x.scap (x.ss.flatMap rowF) :: many (x.ss.map rowQ) :: many (Cs.map clQ) :: rdrA g (some ⟨ga, 0, none⟩) cap (Cs ++ [x']) last :: clsP (some ⟨ga, 0, none⟩) cap (Cs ++ [x']) :: H) w := by
      unfold rdrA clsP
      rw [← hn']
      clear hn' hset
      revert w
      exact zk
    have h6 := h5.perm (.cons _ (UC rowQ x.rs ⟨lA, lcap, l⟩ _))
    have h7 : St B w0 (clQ x' :: many (Cs.map clQ) :: rdrA g (some ⟨ga, 0, none⟩) cap (Cs ++ [x']) last :: clsP (some ⟨ga, 0, none⟩) cap (Cs ++ [x']) :: H) w := by
      have h8 := h6.perm (.close [_, _, _, _, _, _] _)
      rw [← hx'] at h8 ⊢
      exact h8
    exact (h7.perm (ZF clQ Cs x' _)).perm ((Perm.swap _ _ _).trans (.cons _ (.swap _ _ _)))
  apply Xq; exact rfl
  rw [← hCe]
  exact ⟨rfl, _, _, Cs ++ [x'], Oi (by decide) l Cs x x' (by rw [← hx']; unfold ClM.clm YY; simp), W9 hrow x' (by rw [← hx']; exact ⟨Yey hrx.1 hl, hrx.2⟩), rfl⟩
set_option maxHeartbeats 4000000 in
theorem YeI (g : Nat) (A : Option Addr) (cap : Nat) (Cs : List ClM) (x : ClM) (last : Nat) (lA : Option Addr) (lcap : Nat) (l : List Int) (hC : (Cs ++ [x]).length ≤ 1000000) (hx : x.bs.length ≤ 1000 ∧ x.ws.length ≤ 1000) (v0 v1 : Int) (h0 : l[0]? = some v0) (h1 : l[1]? = some v1) (hrow : ZI (Cs ++ [x])) (_hl : l.length ≤ 64) {B : Nat} {w0 : World} {H : List HP} {w : World}
    (hw : St B w0 (rdrA g A cap (Cs ++ [x]) last :: clsP A cap (Cs ++ [x]) :: many ((Cs ++ [x]).map clQ) :: nrs lA lcap l :: H) w) :
    Calls Tryz.prog 145 [.pointer (some ⟨g, 0, none⟩), .int .i64 (2 : Nat), .slice lA l.length lcap].toArray w (Post B w0 (U9 H g last 2 l (Cs ++ [x]))) := by
  refine Yc Tryz.func145 Tryz.ntmps145 rfl rfl hw ?_
  refine Ur (e := 61) (size := 5) (A := A) (k := (Cs ++ [x]).length) (cap := cap) (xs := (Cs ++ [x]).flatMap clF) zm (by simp) ?_
  rintro ga rfl
  have hrx := hrow x (by simp)
  obtain ⟨C, hCe⟩ : ∃ C, Cs ++ [x] = C := ⟨_, rfl⟩
  have hn : C.length = Cs.length + 1 := by rw [← hCe]; simp
  have hxi : C[Cs.length]? = some x := by rw [← hCe]; simp
  rw [hCe] at hC ⊢
  repeat' (first | apply (zs1 ?_) | (apply zg7; (refine zs15 ?_ ?_ <;> intro _ <;> try (exfalso; omega))) | (apply zg23; (refine zs53 ?_; intro _)) | apply (zs65 ?_) | apply (zs68 ?_) | apply (zs69 ?_) | apply (zs70 ?_) | (apply zg27; refine zs72 ?_) | apply (zs76 ?_) | fail)
  apply YZ [0, 1, 2, 3, 4, 5, 6, 7, 8, 9, 10, 11] [12] [true, true, true, false, false]
  kernel_rfl
  kernel_rfl
  exact zy
  (simp only [Yj, nthO]; rfl)
  (simp only [Yj, nthO]; rfl)
  repeat' (first | (apply J9 T; exact rfl; exact rfl; exact rfl; exact rfl; omega) | apply (zs1 ?_) | apply (zs5 ?_) | (apply zg2; refine zs6 ?_) | (apply zg3; refine zs7 ?_) | (apply zg4; refine zs9 ?_) | (apply zg5; refine zs10 ?_) | (apply zg14; refine zs31 ?_) | (apply zg22; first | refine zs50 ?_ | refine zs51 ?_) | (apply zg24; (refine zs54 ?_; intro _)) | (apply zg25; refine zs55 ?_) | apply (zs65 ?_) | (apply Ys; exact zp) | apply (zs68 ?_) | apply (zs69 ?_) | apply (zs70 ?_) | (apply zg29; (apply Yq; exact za ; exact rfl)) | apply (zs87 ?_) | (apply Yk; (repeat (first | with_reducible exact Yh | (with_reducible apply Yg; (repeat (first | with_reducible exact Yf | with_reducible apply Ye)))))) | apply (zs93 ?_) | apply (zs94 ?_) | fail)
  rename_i g5 _ g6 g7
  apply Wc _ (cs := [.pointer (some ⟨g6, 0, none⟩), .pointer (some ⟨g5, 0, none⟩)])
  exact rfl
  exact YlX
  exact za
  exact rfl
  · intro w hw
    have h5 : St B w0 (many (C.map clQ) :: blk g6 (.cells #[sptr (some ⟨ga, 0, none⟩) (Cs.length * 5)] 249 (0, 0)) :: blk g5 (.cells #[.slice lA l.length lcap] 24 (0, 0)) :: clsP (some ⟨ga, 0, none⟩) cap C :: rdrA g (some ⟨ga, 0, none⟩) cap C last :: nrs lA lcap l :: H) w := by
      rw [show ((C.length : Int) - 1).toNat = Cs.length by omega] at hw
      revert w
      exact zk
    have h6 : St B w0 (many (clP x) :: many (Cs.map clQ) :: blk g6 (.cells #[sptr (some ⟨ga, 0, none⟩) (Cs.length * 5)] 249 (0, 0)) :: blk g5 (.cells #[.slice lA l.length lcap] 24 (0, 0)) :: clsP (some ⟨ga, 0, none⟩) cap C :: rdrA g (some ⟨ga, 0, none⟩) cap C last :: nrs lA lcap l :: H) w := by
      rw [← hCe] at h5 ⊢
      exact h5.perm (Uf clQ Cs x _)
    have h7 := h6.perm (.open_ (clP x) _)
    refine YfJ ga g6 g5 Cs.length cap C x hxi hx lA lcap l v0 v1 h0 h1 (H := sl 72 1 x.rA x.rs.length x.rcap (x.rs.flatMap rowF) :: many (x.rs.map rowQ) :: sl 24 1 x.sA x.ss.length x.scap (x.ss.flatMap rowF) :: many (x.ss.map rowQ) :: many (Cs.map clQ) :: rdrA g (some ⟨ga, 0, none⟩) cap C last :: H) ?_
    unfold clP at h7
    dsimp only [List.cons_append, List.nil_append] at h7
    clear h5 h6 hw
    revert w
    exact zk
  rintro _ _ ⟨rfl, A1, c1, A2, c2, rfl⟩
  obtain ⟨x', hx'⟩ : ∃ x' : ClM, { x with bA := A1, bcap := c1, bs := x.bs ++ [v0], wA := A2, wcap := c2, ws := x.ws ++ [v1] } = x' := ⟨_, rfl⟩
  have hset : C.set Cs.length x' = Cs ++ [x'] := by rw [← hCe]; exact Oe _ _ _
  have hn' : C.length = (Cs ++ [x']).length := by rw [hn]; simp
  rw [hx', hset]
  repeat' (first | apply (zs65 ?_) | fail)
  apply Yi (rdrA g (some ⟨ga, 0, none⟩) cap (Cs ++ [x']) last :: clsP (some ⟨ga, 0, none⟩) cap (Cs ++ [x']) :: many ((Cs ++ [x']).map clQ) :: H)
  · intro w hw
    have h5 : St B w0 (sl 72 1 x.rA x.rs.length x.rcap (x.rs.flatMap rowF) :: many (x.rs.map rowQ) :: nrs A1 c1 (x.bs ++ [v0]) :: nrs A2 c2 (x.ws ++ [v1]) :: sl 24 1 x.sA x.ss.length x.scap (x.ss.flatMap rowF) :: many (x.ss.map rowQ) :: many (Cs.map clQ) :: rdrA g (some ⟨ga, 0, none⟩) cap (Cs ++ [x']) last :: clsP (some ⟨ga, 0, none⟩) cap (Cs ++ [x']) :: H) w := by
      unfold rdrA clsP
      rw [← hn']
      clear hn' hset
      revert w
      exact zk
    have h6 := h5
    have h7 : St B w0 (clQ x' :: many (Cs.map clQ) :: rdrA g (some ⟨ga, 0, none⟩) cap (Cs ++ [x']) last :: clsP (some ⟨ga, 0, none⟩) cap (Cs ++ [x']) :: H) w := by
      have h8 := h6.perm (.close [_, _, _, _, _, _] _)
      rw [← hx'] at h8 ⊢
      exact h8
    exact (h7.perm (ZF clQ Cs x' _)).perm ((Perm.swap _ _ _).trans (.cons _ (.swap _ _ _)))
  apply Xq; exact rfl
  rw [← hCe]
  exact ⟨rfl, _, _, Cs ++ [x'], Oi (by decide) l Cs x x' (by rw [← hx']; unfold ClM.clm YY; simp [List.getD_eq_getElem?_getD, h0, h1]), W9 hrow x' (by rw [← hx']; exact hrx), rfl⟩
set_option maxHeartbeats 4000000 in
theorem YeJ (g : Nat) (A : Option Addr) (cap : Nat) (Cs : List ClM) (x : ClM) (last : Nat) (lA : Option Addr) (lcap : Nat) (l : List Int) (hC : (Cs ++ [x]).length ≤ 1000000) (hx : x.ss.length ≤ 1000) (hrow : ZI (Cs ++ [x])) (hl : l.length ≤ 64) {B : Nat} {w0 : World} {H : List HP} {w : World}
    (hw : St B w0 (rdrA g A cap (Cs ++ [x]) last :: clsP A cap (Cs ++ [x]) :: many ((Cs ++ [x]).map clQ) :: nrs lA lcap l :: H) w) :
    Calls Tryz.prog 145 [.pointer (some ⟨g, 0, none⟩), .int .i64 (3 : Nat), .slice lA l.length lcap].toArray w (Post B w0 (U9 H g last 3 l (Cs ++ [x]))) := by
  refine Yc Tryz.func145 Tryz.ntmps145 rfl rfl hw ?_
  refine Ur (e := 61) (size := 5) (A := A) (k := (Cs ++ [x]).length) (cap := cap) (xs := (Cs ++ [x]).flatMap clF) zm (by simp) ?_
  rintro ga rfl
  have hrx := hrow x (by simp)
  obtain ⟨C, hCe⟩ : ∃ C, Cs ++ [x] = C := ⟨_, rfl⟩
  have hn : C.length = Cs.length + 1 := by rw [← hCe]; simp
  have hxi : C[Cs.length]? = some x := by rw [← hCe]; simp
  rw [hCe] at hC ⊢
  repeat' (first | apply (zs1 ?_) | (apply zg7; (refine zs15 ?_ ?_ <;> intro _ <;> try (exfalso; omega))) | (apply zg23; (refine zs53 ?_; intro _)) | apply (zs65 ?_) | apply (zs68 ?_) | apply (zs69 ?_) | apply (zs70 ?_) | (apply zg27; refine zs72 ?_) | apply (zs76 ?_) | fail)
  apply YZ [0, 1, 2, 3, 4, 5, 6, 7, 8, 9, 10, 11] [12] [true, true, true, false, false]
  kernel_rfl
  kernel_rfl
  exact zy
  (simp only [Yj, nthO]; rfl)
  (simp only [Yj, nthO]; rfl)
  repeat' (first | (apply J9 T; exact rfl; exact rfl; exact rfl; exact rfl; omega) | apply (zs1 ?_) | apply (zs5 ?_) | (apply zg2; refine zs6 ?_) | (apply zg3; refine zs7 ?_) | (apply zg4; refine zs9 ?_) | (apply zg5; refine zs10 ?_) | (apply zg14; refine zs31 ?_) | (apply zg22; first | refine zs50 ?_ | refine zs51 ?_) | (apply zg24; (refine zs54 ?_; intro _)) | (apply zg25; refine zs55 ?_) | apply (zs65 ?_) | (apply Ys; exact zp) | apply (zs68 ?_) | apply (zs69 ?_) | apply (zs70 ?_) | (apply zg29; (apply Yq; exact za ; exact rfl)) | apply (zs87 ?_) | (apply Yk; (repeat (first | with_reducible exact Yh | (with_reducible apply Yg; (repeat (first | with_reducible exact Yf | with_reducible apply Ye)))))) | apply (zs93 ?_) | apply (zs94 ?_) | fail)
  rename_i g5 _ g6 g7
  apply Wc _ (cs := [.pointer (some ⟨g6, 0, none⟩), .pointer (some ⟨g5, 0, none⟩)])
  exact rfl
  exact YlY
  exact za
  exact rfl
  · intro w hw
    have h5 : St B w0 (many (C.map clQ) :: blk g6 (.cells #[sptr (some ⟨ga, 0, none⟩) (Cs.length * 5)] 249 (0, 0)) :: blk g5 (.cells #[.slice lA l.length lcap] 24 (0, 0)) :: clsP (some ⟨ga, 0, none⟩) cap C :: rdrA g (some ⟨ga, 0, none⟩) cap C last :: nrs lA lcap l :: H) w := by
      rw [show ((C.length : Int) - 1).toNat = Cs.length by omega] at hw
      revert w
      exact zk
    have h6 : St B w0 (many (clP x) :: many (Cs.map clQ) :: blk g6 (.cells #[sptr (some ⟨ga, 0, none⟩) (Cs.length * 5)] 249 (0, 0)) :: blk g5 (.cells #[.slice lA l.length lcap] 24 (0, 0)) :: clsP (some ⟨ga, 0, none⟩) cap C :: rdrA g (some ⟨ga, 0, none⟩) cap C last :: nrs lA lcap l :: H) w := by
      rw [← hCe] at h5 ⊢
      exact h5.perm (Uf clQ Cs x _)
    have h7 := h6.perm (.open_ (clP x) _)
    refine YfK ga g6 g5 Cs.length cap C x hxi hx lA lcap l (H := sl 72 1 x.rA x.rs.length x.rcap (x.rs.flatMap rowF) :: many (x.rs.map rowQ) :: nrs x.bA x.bcap x.bs :: nrs x.wA x.wcap x.ws :: many (x.ss.map rowQ) :: many (Cs.map clQ) :: rdrA g (some ⟨ga, 0, none⟩) cap C last :: nrs lA lcap l :: H) ?_
    unfold clP at h7
    dsimp only [List.cons_append, List.nil_append] at h7
    clear h5 h6 hw
    revert w
    exact zk
  rintro _ _ ⟨rfl, A', cap', rfl⟩
  obtain ⟨x', hx'⟩ : ∃ x' : ClM, { x with sA := A', scap := cap', ss := x.ss ++ [⟨lA, lcap, l⟩] } = x' := ⟨_, rfl⟩
  have hset : C.set Cs.length x' = Cs ++ [x'] := by rw [← hCe]; exact Oe _ _ _
  have hn' : C.length = (Cs ++ [x']).length := by rw [hn]; simp
  rw [hx', hset]
  repeat' (first | apply (zs65 ?_) | fail)
  apply Yi (rdrA g (some ⟨ga, 0, none⟩) cap (Cs ++ [x']) last :: clsP (some ⟨ga, 0, none⟩) cap (Cs ++ [x']) :: many ((Cs ++ [x']).map clQ) :: H)
  · intro w hw
    have h5 : St B w0 (sl 72 1 x.rA x.rs.length x.rcap (x.rs.flatMap rowF) :: many (x.rs.map rowQ) :: nrs x.bA x.bcap x.bs :: nrs x.wA x.wcap x.ws :: sl 24 1 A' (x.ss ++ [(⟨lA, lcap, l⟩ : RowM)]).length cap' ((x.ss ++ [(⟨lA, lcap, l⟩ : RowM)]).flatMap rowF) :: nrs lA lcap l :: many (x.ss.map rowQ) :: many (Cs.map clQ) :: rdrA g (some ⟨ga, 0, none⟩) cap (Cs ++ [x']) last :: clsP (some ⟨ga, 0, none⟩) cap (Cs ++ [x']) :: H) w := by
      unfold rdrA clsP
      rw [← hn']
      clear hn' hset
      revert w
      exact zk
    have h6 := h5.perm (.cons _ (.cons _ (.cons _ (.cons _ (.cons _ (UC rowQ x.ss ⟨lA, lcap, l⟩ _))))))
    have h7 : St B w0 (clQ x' :: many (Cs.map clQ) :: rdrA g (some ⟨ga, 0, none⟩) cap (Cs ++ [x']) last :: clsP (some ⟨ga, 0, none⟩) cap (Cs ++ [x']) :: H) w := by
      have h8 := h6.perm (.close [_, _, _, _, _, _] _)
      rw [← hx'] at h8 ⊢
      exact h8
    exact (h7.perm (ZF clQ Cs x' _)).perm ((Perm.swap _ _ _).trans (.cons _ (.swap _ _ _)))
  apply Xq; exact rfl
  rw [← hCe]
  exact ⟨rfl, _, _, Cs ++ [x'], Oi (by decide) l Cs x x' (by rw [← hx']; unfold ClM.clm YY; simp), W9 hrow x' (by rw [← hx']; exact ⟨hrx.1, Yey hrx.2 hl⟩), rfl⟩
theorem YhJ (g : Nat) (A : Option Addr) (cap : Nat) (C : List ClM) (last k : Nat) (hk : k < 4) (lA : Option Addr) (lcap : Nat) (l : List Int) (hC : C.length ≤ 1000000) (hf : ∀ c ∈ C, c.rs.length ≤ 2 ∧ c.bs.length ≤ 2 ∧ c.ws.length ≤ 2 ∧ c.ss.length ≤ 2) (hrow : ZI C) (hl1 : JM k ≤ l.length) (hl : l.length ≤ 64) (hne : k ≠ 0 → C ≠ []) {B : Nat} {w0 : World} {H : List HP} {w : World}
    (hw : St B w0 (rdrA g A cap C last :: clsP A cap C :: many (C.map clQ) :: nrs lA lcap l :: H) w) :
    Calls Tryz.prog 145 [.pointer (some ⟨g, 0, none⟩), .int .i64 (k : Nat), .slice lA l.length lcap].toArray w (Post B w0 (U9 H g last k l C)) := by
  match k, hk, hl1, hne with
  | 0, _, hl1, _ =>
    have hl1 : 1 ≤ l.length := hl1
    exact YfH g A cap C last lA lcap l _ (List.getElem?_eq_getElem (by omega)) hC hrow hw
  | k + 1, hk, hl1, hne =>
    obtain ⟨Cs, x, rfl⟩ := WG (hne (by omega))
    have hx := hf x (by simp)
    match k, hk, hl1 with
    | 0, _, _ => exact YeH g A cap Cs x last lA lcap l hC (by omega) hrow hl hw
    | 1, _, hl1 =>
      have hl1 : 2 ≤ l.length := hl1
      exact YeI g A cap Cs x last lA lcap l hC (by omega) _ _ (List.getElem?_eq_getElem (by omega)) (List.getElem?_eq_getElem (by omega)) hrow hl hw
    | 2, _, _ => exact YeJ g A cap Cs x last lA lcap l hC (by omega) hrow hl hw
open Go.RowKit Go.Eng Go.Nw Go.Rt
theorem YhB {k : Nat} (hk : k < 4) (w : World) : (Instr.index 213 JJ (.int .i64 (k : Nat))).run Tryz.prog w = .ok (.agg #[strV (XO k), .int .i64 (JM k : Nat), .int .i64 (Ug k : Nat), .int .i64 (Xd k : Nat)]) w := Xb hk w
def O8 (H : List HP) (g last : Nat) (C : List ClM) (s : List UInt8) (v : Value) (K : List HP) : Prop :=
  match Zj ⟨C.map ClM.clm, last⟩ s with
  | none => v = .bool false ∧ K = H
  | some p => v = .bool true ∧ ∃ A' cap' C', C'.map ClM.clm = p.c ∧ ZI C' ∧ K = rdrA g A' cap' C' p.last :: clsP A' cap' C' :: many (C'.map clQ) :: H
theorem Yha {w : List UInt8} {k : Nat} (hk : k < 4) (h : w = XO k) : Vm w = some k := by rw [h]; exact (YaU hk).1
theorem Yhb {w : List UInt8} (h : ∀ j, j < 4 → w ≠ XO j) : Vm w = none := by
  unfold Vm
  have h0 : w ≠ wordF := h 0 (by omega)
  have h1 : w ≠ wordR := h 1 (by omega)
  have h2 : w ≠ wordB := h 2 (by omega)
  have h3 : w ≠ wordL := h 3 (by omega)
  rw [if_neg h0, if_neg h1, if_neg h2, if_neg h3]
set_option maxRecDepth 10000 in
set_option maxHeartbeats 4000000 in
theorem YfA (g : Nat) (A : Option Addr) (cap : Nat) (C : List ClM) (last : Nat) (hl3 : last < 4) (s : List UInt8) (hs : s.length ≤ 100000) (hC : C.length ≤ 1000000) (hrd : Rdr ⟨C.map ClM.clm, last⟩) (hrow : ZI C) {B : Nat} {w0 : World} {H : List HP} {w : World} (ht : TabsB B w0)
    (hw : St B w0 (rdrA g A cap C last :: clsP A cap C :: many (C.map clQ) :: H) w) :
    Calls Tryz.prog 82 [.pointer (some ⟨g, 0, none⟩), strV s].toArray w (Post B w0 (O8 H g last C s)) := by
  refine Yc Tryz.func82 Tryz.ntmps82 rfl rfl hw ?_
  obtain ⟨R, hR⟩ : ∃ R, Zj ⟨C.map ClM.clm, last⟩ s = R := ⟨_, rfl⟩
  have hout : ∀ v K, (match R with | none => v = .bool false ∧ K = H | some p => v = .bool true ∧ ∃ A' cap' C', C'.map ClM.clm = p.c ∧ ZI C' ∧ K = rdrA g A' cap' C' p.last :: clsP A' cap' C' :: many (C'.map clQ) :: H) → O8 H g last C s v K := fun v K h => by
    unfold O8
    rw [hR]
    exact h
  have hlen2 := Yf4 hrd
  repeat' (first | apply (zs1 ?_) | apply (zs2 ?_) | apply (zs65 ?_) | apply (zs68 ?_) | apply (zs69 ?_) | apply (zs70 ?_) | fail)
  apply Yo _ en81
  exact za
  exact rfl
  exact fun _ hw => (YaO s 32 (by omega) ht (hw))
  rintro _ _ ⟨gs, rfl, rfl⟩
  obtain ⟨ps, hps⟩ : ∃ ps, cutC 32 s = ps := ⟨_, rfl⟩
  have hne : ps ≠ [] := hps ▸ WR 32 s
  have hp0 : 1 ≤ ps.length := List.length_pos_iff.2 hne
  have hpl : ps.length ≤ 100001 := by have := WQ (c := 32) s; rw [hps] at this; omega
  have hrp : ∀ {L : List HP}, blk gs (.cells (ps.map strV).toArray 9 (0, 0)) ∈ L → Rd B w0 L (some ⟨gs, 0, none⟩) (ps.flatMap strL) := fun h => by
    rw [← Yca]
    exact Rd.blk (cs := (ps.map strV).toArray) h
  have h0 : ps[0]? = some (ps.headD []) := by
    cases ps with
    | nil => exact absurd rfl hne
    | cons p ps => rfl
  obtain ⟨wd, hwd⟩ : ∃ wd, ps.headD [] = wd := ⟨_, rfl⟩
  rw [hwd] at h0
  have hlN : Vm wd = none → R = none := fun e => by rw [← hR]; unfold Zj; rw [hps, hwd, e]
  have hlS : ∀ k, Vm wd = some k → R = Yal ⟨C.map ClM.clm, last⟩ s k := fun k e => by rw [← hR]; unfold Zj; rw [hps, hwd, e]
  rw [hps]
  have p1 := fun {H' : List HP} {w : World} (hw : St B w0 H' w) => OO hw
  repeat' (first | apply (zs2 ?_) | apply (zs65 ?_) | apply (zs68 ?_) | apply (zs69 ?_) | apply (zs70 ?_) | fail)
  first | apply Ya Z1 | apply Yb Z1
  exact za
  exact rfl
  exact fun _ hw => (p1 hw)
  repeat' (first | apply (zs1 ?_) | apply (zs65 ?_) | apply (zs68 ?_) | apply (zs73 ?_) | fail)
  refine Yl (fun z : Nat => [(13, .int .i64 (z : Nat)), (12, JJ), (4, .bool false), (5, .slice (some ⟨gs, 0, none⟩) ps.length ps.length), (1, strV s), (0, .pointer (some ⟨g, 0, none⟩))])
    (fun _ => blk gs (.cells (ps.map strV).toArray 9 (0, 0)) :: rdrA g A cap C last :: clsP A cap C :: many (C.map clQ) :: H) (fun z => z ≤ 4 ∧ ∀ j, j < z → wd ≠ XO j) (fun z => 4 - z) 0 ⟨Nat.zero_le _, fun k hk => absurd hk (Nat.not_lt_zero _)⟩ ?_ (fun w hw => hw) ?_
  · exact zu
  rintro k ⟨hk, hall⟩ K hK
  by_cases hlt : k < 4
  rotate_left
  · obtain rfl : k = 4 := by omega
    have hRn := hlN (Yhb hall)
    repeat' (first | apply (zs2 ?_) | (apply (zs17 ?_ ?_) <;> intro _ <;> try (exfalso; omega)) | apply (zs65 ?_) | apply (zs68 ?_) | apply (zs69 ?_) | apply (zs70 ?_) | (apply zg27; refine zs72 ?_) | apply (zs74 ?_) | apply (zs75 ?_) | apply (zs80 ?_) | apply (zs81 ?_) | fail)
    apply Yi H
    · exact zk
    apply Yd; exact rfl; exact rfl
    apply hout
    rw [hRn]
    exact ⟨rfl, rfl⟩
  have hrp' : ∀ X, Rd B w0 (X :: blk gs (.cells (ps.map strV).toArray 9 (0, 0)) :: rdrA g A cap C last :: clsP A cap C :: many (C.map clQ) :: H) (some ⟨gs, 0, none⟩) (ps.flatMap strL) := fun X => hrp (.tail _ (.head _))
  repeat' (first | (apply YD; exact rfl; exact rfl; exact rfl; exact YhB hlt) | apply (zs1 ?_) | apply (zs2 ?_) | (apply zg2; refine zs6 ?_) | (apply zg3; refine zs7 ?_) | (apply (zs17 ?_ ?_) <;> intro _ <;> try (exfalso; omega)) | (apply zg22; refine zs51 ?_) | (apply zg24; (refine zs54 ?_; intro _)) | apply (zs65 ?_) | apply (zs68 ?_) | apply (zs69 ?_) | apply (zs70 ?_) | (apply zg27; refine zs71 ?_) | apply (zs73 ?_) | apply (zs76 ?_) | (apply zg28; refine zs83 ?_) | fail)
  rename_i g7
  have hr5 := hrp' (blk g7 (.cells #[strV (XO k), .int .i64 (JM k : Nat), .int .i64 (Ug k : Nat), .int .i64 (Xd k : Nat)] 212 (0, 0)))
  repeat' (first | (apply Ycn (XO k) wd; exact rfl; exact rfl; exact rfl; all_goals intro hwk) | apply (zs1 ?_) | (apply zg3; refine zs60 ?_) | (apply zg5; refine zs57 ?_) | (apply zg13; refine zs30 ?_) | apply (zs65 ?_) | apply (zs66 ?_) | apply (zs68 ?_) | apply (zs69 ?_) | apply (zs70 ?_) | (apply zg27; first | refine zs71 ?_ | refine zs72 ?_) | apply (zs75 ?_) | apply (zs76 ?_) | apply (zs80 ?_) | apply (zs81 ?_) | fail)
  · apply hK (k + 1)
    · exact ⟨by omega, fun j hj => by
        by_cases e : j = k
        · subst e; exact fun e2 => hwk e2.symm
        · exact hall j (by omega)⟩
    · omega
    · exact zu
    · exact zk
  have hRk := hlS k (Yha hlt hwk.symm)
  obtain ⟨ws, hws⟩ : ∃ ws, ps.tail = ws := ⟨_, rfl⟩
  have hwl : ws.length = ps.length - 1 := by rw [← hws, List.length_tail]
  have hwm : ∀ p ∈ ws, p.length ≤ 100000 := fun p hp => by
    have h1 := YcC (c := 32) (l := s) p (by rw [hps]; exact List.mem_of_mem_tail (hws ▸ hp))
    omega
  apply Jz T (n' := ws.length); exact rfl; exact rfl; exact rfl; exact rfl; omega; (rw [hwl]; rfl)
  have hrw : ∀ {L : List HP}, blk gs (.cells (ps.map strV).toArray 9 (0, 0)) ∈ L → Rd B w0 L (subA (some ⟨gs, 0, none⟩) 1 ps.length 1) (ws.flatMap strL) := fun h => by
    have h1 := Rd.sub (q := 1) (o := 1) (k := ws.length) (cap := ps.length) (fun _ => rfl) (hrp h) (by omega)
    rw [List.drop_one, hws, List.take_length] at h1
    exact h1
  rw [show (1 : Int).toNat = 1 from rfl]
  obtain ⟨A0, hA0⟩ : ∃ A0, subA (some ⟨gs, 0, none⟩) 1 ps.length 1 = A0 := ⟨_, rfl⟩
  rw [hA0] at hrw ⊢
  repeat' (first | fail)
  apply Yo _ YlJ
  exact za
  exact rfl
  exact fun _ hw => (Ya7 ws (by omega) hwm ht (hrw zm) (hw))
  intro v K2 hv
  cases hn : J3 ws with
  | none =>
    rw [hn] at hv
    obtain ⟨rfl, rfl⟩ := hv
    have hRn : R = none := by rw [hRk]; unfold Yal; rw [hps, hws, hn]
    repeat' (first | apply (zs1 ?_) | apply (zs2 ?_) | (apply zg1; refine zs3 ?_) | (apply zg6; refine zs11 ?_) | apply (zs13 ?_) | (apply zg20; refine zs48 ?_) | apply (zs65 ?_) | apply (zs68 ?_) | apply (zs69 ?_) | apply (zs70 ?_) | (apply zg27; refine zs71 ?_) | apply (zs74 ?_) | apply (zs77 ?_) | apply (zs78 ?_) | fail)
    apply Yi H
    · exact zk
    apply Yd; exact rfl; exact rfl
    apply hout
    rw [hRn]
    exact ⟨rfl, rfl⟩
  | some l =>
    rw [hn] at hv
    obtain ⟨lA, lcap, rfl, rfl⟩ := hv
    have hRl : R = if JM k ≤ l.length ∧ l.length ≤ Ug k ∧ Z3 ⟨C.map ClM.clm, last⟩ k = true then some ⟨ZU k l (C.map ClM.clm), k⟩ else none := by rw [hRk]; unfold Yal; rw [hps, hws, hn]
    have hll : l.length = ws.length := by
      unfold J3 at hn
      split at hn
      · cases hn
      · rw [← Option.some.inj hn, List.length_map]
    by_cases h1 : JM k ≤ l.length ∧ l.length ≤ Ug k
    rotate_left
    · have hRn : R = none := by rw [hRl, if_neg fun e => h1 ⟨e.1, e.2.1⟩]
      by_cases h2 : JM k ≤ l.length
      · have h3 : ¬ l.length ≤ Ug k := fun e => h1 ⟨h2, e⟩
        repeat' (first | apply (zs1 ?_) | apply (zs2 ?_) | (apply zg1; first | refine zs3 ?_ | refine zs4 ?_) | (apply zg2; refine zs6 ?_) | (apply zg3; refine zs7 ?_) | (apply zg4; refine zs9 ?_) | (apply zg6; first | refine zs11 ?_ | refine zs12 ?_) | apply (zs13 ?_) | (apply (zs17 ?_ ?_) <;> intro _ <;> try (exfalso; omega)) | (apply (zs19 ?_ ?_) <;> intro _ <;> try (exfalso; omega)) | (apply zg20; refine zs47 ?_) | apply (zs65 ?_) | apply (zs68 ?_) | apply (zs69 ?_) | apply (zs70 ?_) | (apply zg27; refine zs71 ?_) | apply (zs74 ?_) | apply (zs77 ?_) | apply (zs78 ?_) | fail)
        apply Yi H
        · exact zk
        apply Yd; exact rfl; exact rfl
        apply hout
        rw [hRn]
        exact ⟨rfl, rfl⟩
      · repeat' (first | apply (zs1 ?_) | apply (zs2 ?_) | (apply zg1; first | refine zs3 ?_ | refine zs4 ?_) | (apply zg2; refine zs6 ?_) | (apply zg3; refine zs7 ?_) | (apply zg4; refine zs9 ?_) | (apply zg6; first | refine zs11 ?_ | refine zs12 ?_) | apply (zs13 ?_) | (apply (zs17 ?_ ?_) <;> intro _ <;> try (exfalso; omega)) | (apply zg20; refine zs47 ?_) | apply (zs65 ?_) | apply (zs68 ?_) | apply (zs69 ?_) | apply (zs70 ?_) | (apply zg27; refine zs71 ?_) | apply (zs74 ?_) | apply (zs77 ?_) | apply (zs78 ?_) | fail)
        apply Yi H
        · exact zk
        apply Yd; exact rfl; exact rfl
        apply hout
        rw [hRn]
        exact ⟨rfl, rfl⟩
    obtain ⟨h1, h2⟩ := h1
    have hm4 := Yj3 (k := k)
    have p2 := fun {H' : List HP} {w : World} (hm : rdrA g A cap C last ∈ H') (hr : Rd B w0 H' A (C.flatMap clF)) (hw : St B w0 H' w) => YgY g A cap C last k hlt hl3 hC (fun c hc => by have := hlen2 c hc; omega) hm hr hw
    cases hfit : Z3 ⟨C.map ClM.clm, last⟩ k with
    | false =>
      have hRn : R = none := by rw [hRl, if_neg fun e => by rw [hfit] at e; exact Bool.false_ne_true e.2.2]
      rw [hfit] at p2
      repeat' (first | ((first | apply Ya Ygb | apply Yb Ygb); exact za; exact rfl; exact fun _ hw => (p2 zm (.sl zm) hw)) | apply (zs1 ?_) | apply (zs2 ?_) | (apply zg1; refine zs4 ?_) | (apply zg2; refine zs6 ?_) | (apply zg3; refine zs7 ?_) | (apply zg4; refine zs9 ?_) | (apply zg6; refine zs12 ?_) | apply (zs13 ?_) | (apply (zs17 ?_ ?_) <;> intro _ <;> try (exfalso; omega)) | (apply (zs19 ?_ ?_) <;> intro _ <;> try (exfalso; omega)) | (apply zg20; first | refine zs47 ?_ | refine zs48 ?_) | apply (zs65 ?_) | apply (zs68 ?_) | apply (zs69 ?_) | apply (zs70 ?_) | (apply zg27; refine zs71 ?_) | apply (zs74 ?_) | apply (zs77 ?_) | apply (zs78 ?_) | fail)
      apply Yi H
      · exact zk
      apply Yd; exact rfl; exact rfl
      apply hout
      rw [hRn]
      exact ⟨rfl, rfl⟩
    | true =>
      have hRs : R = some ⟨ZU k l (C.map ClM.clm), k⟩ := by rw [hRl, if_pos ⟨h1, h2, hfit⟩]
      have hne : k ≠ 0 → C ≠ [] := fun hk0 e => YjU hrd hk0 hlt hfit (by rw [e]; rfl)
      rw [hfit] at p2
      repeat' (first | ((first | apply Ya Ygb | apply Yb Ygb); exact za; exact rfl; exact fun _ hw => (p2 zm (.sl zm) hw)) | apply (zs1 ?_) | apply (zs2 ?_) | (apply zg1; refine zs4 ?_) | (apply zg2; refine zs6 ?_) | (apply zg3; refine zs7 ?_) | (apply zg4; refine zs9 ?_) | (apply zg6; refine zs12 ?_) | apply (zs13 ?_) | (apply (zs17 ?_ ?_) <;> intro _ <;> try (exfalso; omega)) | (apply (zs19 ?_ ?_) <;> intro _ <;> try (exfalso; omega)) | (apply zg20; refine zs47 ?_) | apply (zs65 ?_) | apply (zs68 ?_) | apply (zs69 ?_) | apply (zs70 ?_) | (apply zg27; refine zs72 ?_) | apply (zs76 ?_) | fail)
      apply Yo _ YlK
      exact za
      exact rfl
      · intro w hw
        refine YhJ g A cap C last k hlt lA lcap l hC hlen2 hrow h1 (by omega) hne (H := H) ?_
        revert w
        exact zk
      rintro _ _ ⟨rfl, A', cap', C', hC', hrow', rfl⟩
      repeat' (first | apply (zs1 ?_) | apply (zs2 ?_) | apply (zs5 ?_) | (apply zg2; refine zs6 ?_) | (apply zg22; refine zs50 ?_) | apply (zs65 ?_) | apply (zs68 ?_) | apply (zs69 ?_) | apply (zs70 ?_) | apply (zs74 ?_) | apply (zs77 ?_) | apply (zs78 ?_) | fail)
      apply Yi (rdrA g A' cap' C' k :: clsP A' cap' C' :: many (C'.map clQ) :: H)
      · exact zk
      apply Yd; exact rfl; exact rfl
      apply hout
      rw [hRs]
      exact ⟨rfl, A', cap', C', hC', hrow', rfl⟩
open Go.RowKit Go.Eng Go.Nw Go.Rt
structure PsM where
  i : Nat
  A : Option Addr
  cap : Nat
  C : List ClM
  last : Nat
theorem Yj0 {C : List ClM} (h : ZI C) (h2 : ∀ c ∈ C, c.rs.length ≤ 2 ∧ c.bs.length ≤ 2 ∧ c.ws.length ≤ 2 ∧ c.ss.length ≤ 2) : ∀ c ∈ C, c.lens := fun c hc => by
  have h3 := h2 c hc
  exact ⟨by omega, fun r hr => by have := (h c hc).1 r hr; omega, fun r hr => by have := (h c hc).2 r hr; omega⟩
theorem Yi2 {ls : List (List UInt8)} {k : Nat} {p : Pst} (h : JI ls k = some p) : Rdr p ∧ p.c.length ≤ k := by
  unfold JI at h
  have h1 := Yes _ h
  rw [List.length_take] at h1
  have h2 : startP.c.length = 0 := rfl
  exact ⟨(Ygu _ Rdr.start h).1, by omega⟩
theorem Yi4 {p : Pst} (h : Rdr p) : p.last < 4 := by
  by_cases hc : p.c = []
  · have := h.some_ hc; omega
  · obtain ⟨cs, x, hx⟩ := WG hc
    rcases h.at_ cs x hx with h | h | h | h <;> omega
set_option maxRecDepth 10000 in
set_option maxHeartbeats 4000000 in
theorem YdR (text : List UInt8) (hl : text.length ≤ 100000) {B : Nat} {w0 : World} {H : List HP} {w : World} (ht : TabsB B w0) (hw : St B w0 H w) :
    Calls Tryz.prog 27 [strV text].toArray w (Post B w0 (OutC H (W7 text))) := by
  refine Yc Tryz.func27 Tryz.ntmps27 rfl rfl hw ?_
  repeat' (first | apply (zs1 ?_) | apply (zs2 ?_) | apply (zs65 ?_) | apply (zs68 ?_) | apply (zs69 ?_) | apply (zs70 ?_) | fail)
  apply Yo _ en81
  exact za
  exact rfl
  exact fun _ hw => (YaO text 10 (by omega) ht (hw))
  rintro _ _ ⟨gs, rfl, rfl⟩
  obtain ⟨ls, hls⟩ : ∃ ls, cutC 10 text = ls := ⟨_, rfl⟩
  have hpe : W7 text = Wy ls := by unfold W7; rw [hls]
  have hlc : ls.length ≤ 100001 := by have := WQ (c := 10) text; rw [hls] at this; omega
  have hl1 : 1 ≤ ls.length := List.length_pos_iff.2 (hls ▸ WR 10 text)
  have hll : ∀ p ∈ ls, p.length ≤ 100000 := fun p hp => by have := YcC (c := 10) (l := text) p (hls ▸ hp); omega
  have hrp : ∀ {L : List HP}, blk gs (.cells (ls.map strV).toArray 9 (0, 0)) ∈ L → Rd B w0 L (some ⟨gs, 0, none⟩) (ls.flatMap strL) := fun h => by
    rw [← Yca]
    exact Rd.blk (cs := (ls.map strV).toArray) h
  rw [hls, hpe]
  repeat' (first | apply (zs1 ?_) | apply (zs2 ?_) | (apply zg4; refine zs9 ?_) | (apply zg14; refine zs31 ?_) | (apply zg23; (refine zs52 ?_; intro _)) | (apply zg25; refine zs55 ?_) | apply (zs65 ?_) | apply (zs68 ?_) | apply (zs69 ?_) | apply (zs70 ?_) | fail)
  rename_i gr
  obtain ⟨m, hm⟩ : ∃ m, ls.length = m + 1 := ⟨ls.length - 1, by omega⟩
  rw [show ((ls.length : Nat) : Int) - 1 = (m : Int) by omega]
  apply Zd T (l := ls) (n' := (ls.take m).length); exact rfl; exact rfl; exact rfl; exact rfl; omega; exact Nat.le_refl _; (rw [List.length_take]; omega)
  rw [YaQ]
  repeat' (first | apply (zs1 ?_) | (apply zg4; refine zs9 ?_) | apply (zs65 ?_) | apply (zs68 ?_) | apply (zs73 ?_) | fail)
  have hlt : (ls.take m).length = m := by rw [List.length_take]; omega
  have hrt : ∀ {L : List HP}, blk gs (.cells (ls.map strV).toArray 9 (0, 0)) ∈ L → Rd B w0 L (some ⟨gs, 0, none⟩) ((ls.take m).flatMap strL) := fun h => Rd.take (q := 1) m (fun _ => rfl) (hrp h)
  have hpl : Wy ls = if (YF (badL ls) m 0).2 ≠ 0 then ([], YF (badL ls) m 0)
    else if XB ls m ≠ [] ∨ (Wz ls m).last ≠ 3 then ([], ((m : Int), 3))
    else if VK (Wz ls m).c = false then ([], (-1, 1)) else ((Wz ls m).c, (-1, 0)) := by
    unfold Wy
    rw [show ls.length - 1 = m by omega]
  refine Yl (fun (z : PsM) => [(21, .int .i64 z.i), (20, .int .i64 (ls.take m).length), (19, .slice (some ⟨gs, 0, none⟩) (ls.take m).length ls.length), (5, .slice (some ⟨gs, 0, none⟩) ls.length ls.length), (6, .int .i64 m), (7, .pointer (some ⟨gr, 0, none⟩))])
    (fun z => rdrA gr z.A z.cap z.C z.last :: clsP z.A z.cap z.C :: many (z.C.map clQ) :: blk gs (.cells (ls.map strV).toArray 9 (0, 0)) :: H) (fun z => z.i ≤ m ∧ JI ls z.i = some ⟨z.C.map ClM.clm, z.last⟩ ∧ ZI z.C) (fun z => m - z.i) ⟨0, none, 0, [], 3⟩ ⟨Nat.zero_le _, rfl, fun c hc => by cases hc⟩ ?_ (fun w hw => ?_) ?_
  · exact zu
  · have h4 : St B w0 (blk gr (.cells #[.slice none 0 0, .int .i64 3] 144 (0, 0)) :: blk gs (.cells (ls.map strV).toArray 9 (0, 0)) :: H) w := by
      revert w
      exact zk
    have h5 : St B w0 (rdrA gr none 0 [] 3 :: blk gs (.cells (ls.map strV).toArray 9 (0, 0)) :: H) w := h4
    exact (Vr h5).perm ((Perm.cons _ (.swap _ _ _)).trans (.swap _ _ _))
  rintro ⟨i, A, cap, C, last⟩ ⟨hi, hp, hrow⟩ K hK
  dsimp only at hi hp hrow ⊢
  obtain ⟨hrd, hcl⟩ := Yi2 hp
  have hl3 := Yi4 hrd
  have hlen2 := Yf4 hrd
  dsimp only at hcl hl3
  rw [List.length_map] at hcl
  have hz : ∀ k, k < i → badL ls k = 0 := fun k hk => by
    unfold badL
    have h1 : JI ls (k + 1) ≠ none := fun e => by
      have h2 : runL (ls.take (k + 1) ++ (ls.take i).drop (k + 1)) startP = some ⟨C.map ClM.clm, last⟩ := by
        rw [show ls.take (k + 1) = (ls.take i).take (k + 1) by rw [List.take_take, Nat.min_eq_left (by omega)], List.take_append_drop]
        exact hp
      rw [J4] at h2
      unfold JI at e
      rw [e] at h2
      cases h2
    cases hc : JI ls (k + 1) with
    | none => exact absurd hc h1
    | some p => rfl
  by_cases hlti : i < m
  · have hrt' : Rd B w0 (rdrA gr A cap C last :: clsP A cap C :: many (C.map clQ) :: blk gs (.cells (ls.map strV).toArray 9 (0, 0)) :: H) (some ⟨gs, 0, none⟩) ((ls.take m).flatMap strL) := hrt zm
    have hget : (ls.take m)[i]? = some (XB ls i) := by
      rw [List.getElem?_take, if_pos hlti]
      unfold XB
      rw [List.getD_eq_getElem?_getD, List.getElem?_eq_getElem (by omega)]
      rfl
    have hlm : (XB ls i).length ≤ 100000 := hll _ (List.mem_of_mem_take (List.mem_of_getElem? hget))
    have hst := Yi3 (by omega) hp
    repeat' (first | apply (zs1 ?_) | apply (zs2 ?_) | (apply zg3; refine zs60 ?_) | (apply zg5; refine zs57 ?_) | (apply (zs17 ?_ ?_) <;> intro _ <;> try (exfalso; omega)) | apply (zs65 ?_) | apply (zs68 ?_) | apply (zs69 ?_) | apply (zs70 ?_) | (apply zg27; refine zs71 ?_) | apply (zs73 ?_) | apply (zs76 ?_) | fail)
    apply Yo _ en82
    exact za
    exact rfl
    exact fun _ hw => (YfA gr A cap C last hl3 (XB ls i) hlm (by omega) hrd hrow ht (hw))
    intro v9 K9 hr9
    unfold O8 at hr9
    cases hrow9 : Zj ⟨C.map ClM.clm, last⟩ (XB ls i) with
    | none =>
      rw [hrow9] at hr9 hst
      obtain ⟨rfl, rfl⟩ := hr9
      have hbr : badL ls i = 3 := by unfold badL; rw [hst]; rfl
      have hfa := Xu (f := badL ls) (r := m) (i0 := 0) (i := i) (fun k _ hk => hz k hk) (Nat.zero_le _) (by omega) (by rw [hbr]; decide)
      repeat' (first | apply (zs1 ?_) | apply (zs2 ?_) | (apply zg20; refine zs48 ?_) | apply (zs65 ?_) | apply (zs68 ?_) | apply (zs69 ?_) | apply (zs70 ?_) | (apply zg27; refine zs71 ?_) | apply (zs74 ?_) | apply (zs77 ?_) | apply (zs78 ?_) | fail)
      apply Yi (clsP none 0 [] :: many (([] : List ClM).map clQ) :: H)
      · intro w hw
        have h5 : St B w0 H w := by
          revert w
          exact zk
        exact Vr h5
      apply XV; exact rfl; exact rfl; exact rfl; exact rfl
      rw [hpl, hfa, hbr, if_pos (by show (3 : Int) ≠ 0; decide)]
      exact Vv rfl rfl
    | some p =>
      rw [hrow9] at hr9 hst
      obtain ⟨rfl, A', cap', C', hC', hrow', rfl⟩ := hr9
      repeat' (first | apply (zs1 ?_) | (apply zg13; refine zs30 ?_) | (apply zg20; refine zs47 ?_) | apply (zs65 ?_) | apply (zs68 ?_) | apply (zs70 ?_) | (apply zg27; refine zs72 ?_) | apply (zs76 ?_) | apply (zs79 ?_) | fail)
      apply hK ⟨i + 1, A', cap', C', p.last⟩
      · exact ⟨by dsimp only; omega, by dsimp only; rw [hst, hC'], hrow'⟩
      · dsimp only; omega
      · exact zu
      · exact zk
  · obtain rfl : i = m := by omega
    have hrp' : Rd B w0 (rdrA gr A cap C last :: clsP A cap C :: many (C.map clQ) :: blk gs (.cells (ls.map strV).toArray 9 (0, 0)) :: H) (some ⟨gs, 0, none⟩) (ls.flatMap strL) := hrp zm
    have hzz : YF (badL ls) i 0 = (-1, 0) := X7 fun k _ hk => hz k (by omega)
    have hgm : ls[(i : Int).toNat]? = some (XB ls i) := by
      unfold XB
      rw [List.getD_eq_getElem?_getD, Int.toNat_natCast, List.getElem?_eq_getElem (by omega)]
      rfl
    have hpat : Wz ls i = ⟨C.map ClM.clm, last⟩ := by unfold Wz; rw [hp]; rfl
    rw [hpl, hzz, if_neg (by simp), hpat]
    dsimp only
    clear hK
    repeat' (first | (apply Ycn (XB ls i) []; exact rfl; exact rfl; exact rfl; all_goals intro hwd) | apply (zs1 ?_) | apply (zs2 ?_) | (apply zg1; first | refine zs3 ?_ | refine zs4 ?_) | apply (zs5 ?_) | (apply zg2; refine zs6 ?_) | (apply zg3; first | refine zs7 ?_ | refine zs60 ?_) | (apply zg5; refine zs57 ?_) | (apply zg6; first | refine zs11 ?_ | refine zs12 ?_) | (apply zg8; (refine zs16 ?_ ?_ <;> intro _ <;> try (exfalso; omega))) | (apply (zs17 ?_ ?_) <;> intro _ <;> try (exfalso; omega)) | apply (zs65 ?_) | apply (zs68 ?_) | apply (zs69 ?_) | apply (zs70 ?_) | (apply zg27; first | refine zs71 ?_ | refine zs72 ?_) | apply (zs74 ?_) | apply (zs75 ?_) | apply (zs76 ?_) | apply (zs77 ?_) | apply (zs80 ?_) | apply (zs81 ?_) | fail)
    · apply Yi (clsP none 0 [] :: many (([] : List ClM).map clQ) :: H)
      · intro w hw
        have h5 : St B w0 H w := by
          revert w
          exact zk
        exact Vr h5
      apply XV; exact rfl; exact rfl; exact rfl; exact rfl
      rw [if_pos (.inl hwd)]
      exact Vv rfl rfl
    · have hl9 : last ≠ 3 := by omega
      apply Yi (clsP none 0 [] :: many (([] : List ClM).map clQ) :: H)
      · intro w hw
        have h5 : St B w0 H w := by
          revert w
          exact zk
        exact Vr h5
      apply XV; exact rfl; exact rfl; exact rfl; exact rfl
      rw [if_pos (.inr hl9)]
      exact Vv rfl rfl
    have hl9 : last = 3 := by omega
    rw [if_neg (by rintro (h | h); exact h hwd; exact h hl9)]
    have hlens := Yj0 hrow hlen2
    have hcin : CIn B w0 (rdrA gr A cap C last :: clsP A cap C :: many (C.map clQ) :: blk gs (.cells (ls.map strV).toArray 9 (0, 0)) :: H) A C := ⟨.sl (cap := cap) (.tail _ (.head _)), fun x hx => W6 (.tail _ (.tail _ (.head _))) hx (hlens x hx), by omega⟩
    have p3 := fun {H' : List HP} {w : World} (hc : CIn B w0 H' A C) (hw : St B w0 H' w) => QH C (cap := cap) hc hw
    cases hf : VK (C.map ClM.clm) with
    | false =>
      rw [hf] at p3
      repeat' (first | ((first | apply Ya en75 | apply Yb en75); exact za; exact rfl; exact fun _ hw => (p3 hcin hw)) | apply (zs2 ?_) | (apply zg20; refine zs48 ?_) | apply (zs65 ?_) | apply (zs68 ?_) | apply (zs69 ?_) | apply (zs70 ?_) | (apply zg27; refine zs71 ?_) | apply (zs74 ?_) | apply (zs77 ?_) | fail)
      apply Yi (clsP none 0 [] :: many (([] : List ClM).map clQ) :: H)
      · intro w hw
        have h5 : St B w0 H w := by
          revert w
          exact zk
        exact Vr h5
      apply XV; exact rfl; exact rfl; exact rfl; exact rfl
      rw [if_pos rfl]
      exact Vv rfl rfl
    | true =>
      rw [hf] at p3
      repeat' (first | ((first | apply Ya en75 | apply Yb en75); exact za; exact rfl; exact fun _ hw => (p3 hcin hw)) | apply (zs1 ?_) | apply (zs2 ?_) | apply (zs5 ?_) | (apply zg2; refine zs6 ?_) | (apply zg3; refine zs7 ?_) | (apply zg20; refine zs47 ?_) | apply (zs65 ?_) | apply (zs68 ?_) | apply (zs69 ?_) | apply (zs70 ?_) | (apply zg27; refine zs72 ?_) | apply (zs74 ?_) | apply (zs76 ?_) | fail)
      apply Yi (clsP A cap C :: many (C.map clQ) :: H)
      · exact zk
      apply XV; exact rfl; exact rfl; exact rfl; exact rfl
      exact ⟨A, cap, C, rfl, rfl, hlens, rfl⟩
open Go.RowKit Go.Eng Go.Nw Go.Rt
set_option maxRecDepth 10000 in
set_option maxHeartbeats 4000000 in
theorem O6 (c d : ClM) {B : Nat} {w0 : World} {H : List HP} {w : World} (hc : c.In B w0 H) (hd : d.In B w0 H) (hw : St B w0 H w) :
    Calls Tryz.prog 73 [clV c, clV d].toArray w (Post B w0 fun u K => u = .bool (decide (c.clm = d.clm)) ∧ K = H) := by
  refine Yc Tryz.func73 Tryz.ntmps73 rfl rfl hw ?_
  have hcl := hc.ln
  have hdl := hd.ln
  have p1 := fun {H' : List HP} {w : World} (hc : c.In B w0 H') (hd : d.In B w0 H') (hw : St B w0 H' w) => O7 c.rs d.rs (cap := c.rcap) (cap2 := d.rcap) hcl.1 hdl.1 hc.rl hd.rl hc.rt hd.rt hc.rw_ hd.rw_ hw
  have p2 := fun {H' : List HP} {w : World} (hc : c.In B w0 H') (hd : d.In B w0 H') (hw : St B w0 H' w) => Zn c.bs d.bs (cap := c.bcap) (cap2 := d.bcap) (by omega) (by omega) hc.bd hd.bd hw
  have p3 := fun {H' : List HP} {w : World} (hc : c.In B w0 H') (hd : d.In B w0 H') (hw : St B w0 H' w) => Zn c.ws d.ws (cap := c.wcap) (cap2 := d.wcap) (by omega) (by omega) hc.ws hd.ws hw
  have hce := @Yir c d
  unfold clV
  by_cases h1 : c.flow = d.flow
  rotate_left
  · rw [decide_eq_false (fun h => h1 (hce.1 h).1)]
    repeat' (first | apply (zs1 ?_) | apply (zs2 ?_) | (apply zg1; refine zs3 ?_) | (apply zg2; refine zs6 ?_) | (apply zg3; refine zs7 ?_) | (apply zg6; refine zs11 ?_) | (apply zg8; (refine zs16 ?_ ?_ <;> intro _ <;> try (exfalso; omega))) | (apply zg23; (refine zs52 ?_; intro _)) | apply (zs65 ?_) | apply (zs68 ?_) | apply (zs69 ?_) | apply (zs70 ?_) | (apply zg27; refine zs71 ?_) | apply (zs74 ?_) | apply (zs77 ?_) | fail)
    apply Yi H
    · exact zk
    apply Yd; exact rfl; exact rfl; exact ⟨rfl, rfl⟩
  by_cases h2 : c.rs.map (·.xs) = d.rs.map (·.xs)
  rotate_left
  · rw [decide_eq_false (fun h => h2 (hce.1 h).2.1)]
    rw [decide_eq_false h2] at p1
    repeat' (first | apply (zs1 ?_) | apply (zs2 ?_) | (apply zg1; refine zs4 ?_) | (apply zg2; refine zs6 ?_) | (apply zg3; refine zs7 ?_) | (apply zg8; (refine zs16 ?_ ?_ <;> intro _ <;> try (exfalso; omega))) | (apply zg23; (refine zs52 ?_; intro _)) | apply (zs65 ?_) | apply (zs68 ?_) | apply (zs69 ?_) | apply (zs70 ?_) | fail)
    first | apply Ya UN | apply Yb UN
    exact za
    exact rfl
    exact fun _ hw => (p1 (hc.mono zk) (hd.mono zk) hw)
    repeat' (first | apply (zs1 ?_) | apply (zs2 ?_) | (apply zg1; first | refine zs3 ?_ | refine zs4 ?_) | (apply zg6; first | refine zs11 ?_ | refine zs12 ?_) | (apply zg20; refine zs48 ?_) | apply (zs65 ?_) | apply (zs68 ?_) | apply (zs69 ?_) | apply (zs70 ?_) | (apply zg27; refine zs71 ?_) | apply (zs74 ?_) | apply (zs77 ?_) | fail)
    apply Yi H
    · exact zk
    apply Yd; exact rfl; exact rfl; exact ⟨rfl, rfl⟩
  rw [decide_eq_true h2] at p1
  by_cases h3 : c.bs = d.bs
  rotate_left
  · rw [decide_eq_false (fun h => h3 (hce.1 h).2.2.1)]
    rw [decide_eq_false h3] at p2
    repeat' (first | apply (zs1 ?_) | apply (zs2 ?_) | (apply zg1; refine zs4 ?_) | (apply zg2; refine zs6 ?_) | (apply zg3; refine zs7 ?_) | (apply zg8; (refine zs16 ?_ ?_ <;> intro _ <;> try (exfalso; omega))) | (apply zg23; (refine zs52 ?_; intro _)) | apply (zs65 ?_) | apply (zs68 ?_) | apply (zs69 ?_) | apply (zs70 ?_) | fail)
    first | apply Ya UN | apply Yb UN
    exact za
    exact rfl
    exact fun _ hw => (p1 (hc.mono zk) (hd.mono zk) hw)
    repeat' (first | apply (zs1 ?_) | (apply zg1; refine zs4 ?_) | (apply zg2; refine zs6 ?_) | (apply zg3; refine zs7 ?_) | (apply zg6; refine zs12 ?_) | (apply zg20; refine zs47 ?_) | fail)
    first | apply Ya XM | apply Yb XM
    exact za
    exact rfl
    exact fun _ hw => (p2 (hc.mono zk) (hd.mono zk) hw)
    repeat' (first | apply (zs1 ?_) | apply (zs2 ?_) | (apply zg1; first | refine zs3 ?_ | refine zs4 ?_) | (apply zg6; first | refine zs11 ?_ | refine zs12 ?_) | (apply zg20; refine zs48 ?_) | apply (zs65 ?_) | apply (zs68 ?_) | apply (zs69 ?_) | apply (zs70 ?_) | (apply zg27; refine zs71 ?_) | apply (zs74 ?_) | apply (zs77 ?_) | fail)
    apply Yi H
    · exact zk
    apply Yd; exact rfl; exact rfl; exact ⟨rfl, rfl⟩
  rw [decide_eq_true h3] at p2
  by_cases h4 : c.ws = d.ws
  rotate_left
  · rw [decide_eq_false (fun h => h4 (hce.1 h).2.2.2.1)]
    rw [decide_eq_false h4] at p3
    repeat' (first | apply (zs1 ?_) | apply (zs2 ?_) | (apply zg1; refine zs4 ?_) | (apply zg2; refine zs6 ?_) | (apply zg3; refine zs7 ?_) | (apply zg8; (refine zs16 ?_ ?_ <;> intro _ <;> try (exfalso; omega))) | (apply zg23; (refine zs52 ?_; intro _)) | apply (zs65 ?_) | apply (zs68 ?_) | apply (zs69 ?_) | apply (zs70 ?_) | fail)
    first | apply Ya UN | apply Yb UN
    exact za
    exact rfl
    exact fun _ hw => (p1 (hc.mono zk) (hd.mono zk) hw)
    repeat' (first | apply (zs1 ?_) | (apply zg1; refine zs4 ?_) | (apply zg2; refine zs6 ?_) | (apply zg3; refine zs7 ?_) | (apply zg6; refine zs12 ?_) | (apply zg20; refine zs47 ?_) | fail)
    first | apply Ya XM | apply Yb XM
    exact za
    exact rfl
    exact fun _ hw => (p2 (hc.mono zk) (hd.mono zk) hw)
    repeat' (first | apply (zs1 ?_) | (apply zg1; refine zs4 ?_) | (apply zg2; refine zs6 ?_) | (apply zg3; refine zs7 ?_) | (apply zg6; refine zs12 ?_) | (apply zg20; refine zs47 ?_) | fail)
    first | apply Ya XM | apply Yb XM
    exact za
    exact rfl
    exact fun _ hw => (p3 (hc.mono zk) (hd.mono zk) hw)
    repeat' (first | apply (zs1 ?_) | apply (zs2 ?_) | (apply zg1; first | refine zs3 ?_ | refine zs4 ?_) | (apply zg6; first | refine zs11 ?_ | refine zs12 ?_) | (apply zg20; refine zs48 ?_) | apply (zs65 ?_) | apply (zs68 ?_) | apply (zs69 ?_) | apply (zs70 ?_) | (apply zg27; refine zs71 ?_) | apply (zs74 ?_) | apply (zs77 ?_) | fail)
    apply Yi H
    · exact zk
    apply Yd; exact rfl; exact rfl; exact ⟨rfl, rfl⟩
  rw [decide_eq_true h4] at p3
  have h5 : decide (c.clm = d.clm) = decide (c.ss.map (·.xs) = d.ss.map (·.xs)) := decide_eq_decide.2 ⟨fun h => (hce.1 h).2.2.2.2, fun h => hce.2 ⟨h1, h2, h3, h4, h⟩⟩
  rw [h5]
  by_cases h6 : c.ss.length = d.ss.length
  rotate_left
  · rw [decide_eq_false (fun e => h6 (by have := congrArg List.length e; rwa [List.length_map, List.length_map] at this))]
    repeat' (first | apply (zs1 ?_) | apply (zs2 ?_) | (apply zg1; refine zs4 ?_) | (apply zg2; refine zs6 ?_) | (apply zg3; refine zs7 ?_) | (apply zg8; (refine zs16 ?_ ?_ <;> intro _ <;> try (exfalso; omega))) | (apply zg23; (refine zs52 ?_; intro _)) | apply (zs65 ?_) | apply (zs68 ?_) | apply (zs69 ?_) | apply (zs70 ?_) | fail)
    first | apply Ya UN | apply Yb UN
    exact za
    exact rfl
    exact fun _ hw => (p1 (hc.mono zk) (hd.mono zk) hw)
    repeat' (first | apply (zs1 ?_) | (apply zg1; refine zs4 ?_) | (apply zg2; refine zs6 ?_) | (apply zg3; refine zs7 ?_) | (apply zg6; refine zs12 ?_) | (apply zg20; refine zs47 ?_) | fail)
    first | apply Ya XM | apply Yb XM
    exact za
    exact rfl
    exact fun _ hw => (p2 (hc.mono zk) (hd.mono zk) hw)
    repeat' (first | apply (zs1 ?_) | (apply zg1; refine zs4 ?_) | (apply zg2; refine zs6 ?_) | (apply zg3; refine zs7 ?_) | (apply zg6; refine zs12 ?_) | (apply zg20; refine zs47 ?_) | fail)
    first | apply Ya XM | apply Yb XM
    exact za
    exact rfl
    exact fun _ hw => (p3 (hc.mono zk) (hd.mono zk) hw)
    repeat' (first | apply (zs1 ?_) | apply (zs2 ?_) | (apply zg1; refine zs4 ?_) | (apply zg2; refine zs6 ?_) | (apply zg3; refine zs7 ?_) | (apply zg4; refine zs9 ?_) | (apply zg6; refine zs12 ?_) | (apply zg8; (refine zs16 ?_ ?_ <;> intro _ <;> try (exfalso; omega))) | (apply zg20; refine zs47 ?_) | apply (zs65 ?_) | apply (zs68 ?_) | apply (zs69 ?_) | apply (zs70 ?_) | (apply zg27; refine zs71 ?_) | apply (zs74 ?_) | apply (zs77 ?_) | fail)
    apply Yi H
    · exact zk
    apply Yd; exact rfl; exact rfl; exact ⟨rfl, rfl⟩
  repeat' (first | apply (zs1 ?_) | apply (zs2 ?_) | (apply zg1; refine zs4 ?_) | (apply zg2; refine zs6 ?_) | (apply zg3; refine zs7 ?_) | (apply zg8; (refine zs16 ?_ ?_ <;> intro _ <;> try (exfalso; omega))) | (apply zg23; (refine zs52 ?_; intro _)) | apply (zs65 ?_) | apply (zs68 ?_) | apply (zs69 ?_) | apply (zs70 ?_) | fail)
  first | apply Ya UN | apply Yb UN
  exact za
  exact rfl
  exact fun _ hw => (p1 (hc.mono zk) (hd.mono zk) hw)
  repeat' (first | apply (zs1 ?_) | (apply zg1; refine zs4 ?_) | (apply zg2; refine zs6 ?_) | (apply zg3; refine zs7 ?_) | (apply zg6; refine zs12 ?_) | (apply zg20; refine zs47 ?_) | fail)
  first | apply Ya XM | apply Yb XM
  exact za
  exact rfl
  exact fun _ hw => (p2 (hc.mono zk) (hd.mono zk) hw)
  repeat' (first | apply (zs1 ?_) | (apply zg1; refine zs4 ?_) | (apply zg2; refine zs6 ?_) | (apply zg3; refine zs7 ?_) | (apply zg6; refine zs12 ?_) | (apply zg20; refine zs47 ?_) | fail)
  first | apply Ya XM | apply Yb XM
  exact za
  exact rfl
  exact fun _ hw => (p3 (hc.mono zk) (hd.mono zk) hw)
  repeat' (first | apply (zs1 ?_) | apply (zs2 ?_) | (apply zg1; refine zs4 ?_) | (apply zg2; refine zs6 ?_) | (apply zg3; refine zs7 ?_) | (apply zg4; refine zs9 ?_) | (apply zg6; refine zs12 ?_) | (apply zg8; (refine zs16 ?_ ?_ <;> intro _ <;> try (exfalso; omega))) | (apply zg20; refine zs47 ?_) | apply (zs65 ?_) | apply (zs68 ?_) | apply (zs69 ?_) | apply (zs70 ?_) | (apply zg27; refine zs72 ?_) | apply (zs73 ?_) | apply (zs76 ?_) | fail)
  rename_i g2 g3 _ _
  refine Yl (fun k : Nat => [(5, .int .i64 (k : Nat)), (3, .pointer (some ⟨g3, 0, none⟩)), (2, .pointer (some ⟨g2, 0, none⟩))]) (fun _ => clA g3 d :: clA g2 c :: H) (fun k => k ≤ c.ss.length ∧ (c.ss.take k).map (·.xs) = (d.ss.take k).map (·.xs)) (fun k => c.ss.length - k) 0 ⟨Nat.zero_le _, by simp⟩ ?_ (fun w hw => hw) ?_
  · exact zu
  rintro k ⟨hk, hz⟩ K hK
  have hcs : Rd B w0 (clA g3 d :: clA g2 c :: H) c.sA (c.ss.flatMap rowF) := hc.st.cons.cons
  have hds : Rd B w0 (clA g3 d :: clA g2 c :: H) d.sA (d.ss.flatMap rowF) := hd.st.cons.cons
  by_cases hlt : k < c.ss.length
  · obtain ⟨a, ha⟩ : ∃ a, c.ss[k]? = some a := ⟨_, List.getElem?_eq_getElem hlt⟩
    obtain ⟨b, hb⟩ : ∃ b, d.ss[k]? = some b := ⟨_, List.getElem?_eq_getElem (by omega)⟩
    have ham := List.mem_of_getElem? ha
    have hbm := List.mem_of_getElem? hb
    have p4 := fun {H' : List HP} {w : World} (hc : c.In B w0 H') (hd : d.In B w0 H') (hw : St B w0 H' w) => Zn a.xs b.xs (cap := a.cap) (cap2 := b.cap) (hc.sl a ham) (hd.sl b hbm) (hc.sw a ham) (hd.sw b hbm) hw
    by_cases he : a.xs = b.xs
    · rw [decide_eq_true he] at p4
      repeat' (first | apply (zs1 ?_) | (apply zg2; refine zs6 ?_) | (apply zg3; refine zs7 ?_) | (apply zg4; refine zs9 ?_) | (apply (zs17 ?_ ?_) <;> intro _ <;> try (exfalso; omega)) | apply (zs65 ?_) | apply (zs68 ?_) | apply (zs69 ?_) | apply (zs70 ?_) | (apply zg27; refine zs71 ?_) | apply (zs73 ?_) | apply (zs76 ?_) | fail)
      apply YL [0, 1, 2, 3, 4, 5, 6, 7, 8, 9, 10, 11] []
      kernel_rfl
      kernel_rfl
      (simp only [Yj, nthO]; rfl)
      exact rfl
      repeat' (first | apply (zs1 ?_) | (apply zg2; refine zs6 ?_) | (apply zg3; first | refine zs7 ?_ | refine zs60 ?_) | (apply zg5; refine zs57 ?_) | apply (zs87 ?_) | fail)
      first | apply Ya XM | apply Yb XM
      exact za
      exact rfl
      exact fun _ hw => (p4 (hc.mono zk) (hd.mono zk) hw)
      repeat' (first | apply (zs1 ?_) | apply (zs2 ?_) | (apply zg13; refine zs30 ?_) | (apply zg20; refine zs47 ?_) | apply (zs65 ?_) | (apply Ys; exact zp) | apply (zs68 ?_) | apply (zs70 ?_) | (apply zg27; refine zs72 ?_) | apply (zs76 ?_) | apply (zs79 ?_) | (apply Yk; (repeat (first | with_reducible exact Yh | (with_reducible apply Yg; (repeat (first | with_reducible exact Yf | with_reducible apply Ye)))))) | apply (zs93 ?_) | apply (zs94 ?_) | fail)
      · show Perm H (H ++ [])
        rw [List.append_nil]; exact Perm.refl _
      repeat' (first | fail)
      apply hK (k + 1)
      · exact ⟨by omega, by rw [List.take_add_one, List.take_add_one, ha, hb, List.map_append, List.map_append, hz]; simp [he]⟩
      · omega
      · exact zu
      · exact fun w hw => hw
    · rw [decide_eq_false he] at p4
      have hne : ¬ (c.ss.map (·.xs) = d.ss.map (·.xs)) := fun e => by
        have h1 : (c.ss.map (·.xs))[k]? = (d.ss.map (·.xs))[k]? := by rw [e]
        rw [List.getElem?_map, List.getElem?_map, ha, hb] at h1
        exact he (Option.some.inj h1)
      rw [decide_eq_false hne]
      clear hK
      repeat' (first | apply (zs1 ?_) | (apply zg2; refine zs6 ?_) | (apply zg3; refine zs7 ?_) | (apply zg4; refine zs9 ?_) | (apply (zs17 ?_ ?_) <;> intro _ <;> try (exfalso; omega)) | apply (zs65 ?_) | apply (zs68 ?_) | apply (zs69 ?_) | apply (zs70 ?_) | (apply zg27; refine zs71 ?_) | apply (zs73 ?_) | apply (zs76 ?_) | fail)
      apply YL [0, 1, 2, 3, 4, 5, 6, 7, 8, 9, 10, 11] []
      kernel_rfl
      kernel_rfl
      (simp only [Yj, nthO]; rfl)
      exact rfl
      repeat' (first | apply (zs1 ?_) | (apply zg2; refine zs6 ?_) | (apply zg3; first | refine zs7 ?_ | refine zs60 ?_) | (apply zg5; refine zs57 ?_) | apply (zs87 ?_) | fail)
      first | apply Ya XM | apply Yb XM
      exact za
      exact rfl
      exact fun _ hw => (p4 (hc.mono zk) (hd.mono zk) hw)
      repeat' (first | apply (zs2 ?_) | (apply zg20; refine zs48 ?_) | apply (zs65 ?_) | (apply Ys; exact zp) | apply (zs68 ?_) | apply (zs69 ?_) | apply (zs70 ?_) | (apply zg27; refine zs71 ?_) | apply (zs74 ?_) | apply (zs77 ?_) | apply (zs78 ?_) | (apply Yk; (repeat (first | with_reducible exact Yh | (with_reducible apply Yg; (repeat (first | with_reducible exact Yf | with_reducible apply Ye)))))) | apply (zs93 ?_) | apply (zs94 ?_) | fail)
      · show Perm H (H ++ [])
        rw [List.append_nil]; exact Perm.refl _
      repeat' (first | fail)
      apply Yi H
      · exact zk
      apply Yd; exact rfl; exact rfl; exact ⟨rfl, rfl⟩
  · rw [List.take_of_length_le (by omega), List.take_of_length_le (by omega)] at hz
    rw [decide_eq_true hz]
    clear hK
    repeat' (first | apply (zs1 ?_) | apply (zs2 ?_) | (apply zg2; refine zs6 ?_) | (apply zg3; refine zs7 ?_) | (apply zg4; refine zs9 ?_) | (apply (zs17 ?_ ?_) <;> intro _ <;> try (exfalso; omega)) | apply (zs65 ?_) | apply (zs68 ?_) | apply (zs69 ?_) | apply (zs70 ?_) | (apply zg27; refine zs72 ?_) | apply (zs74 ?_) | apply (zs75 ?_) | apply (zs80 ?_) | apply (zs81 ?_) | fail)
    apply Yi H
    · exact zk
    apply Yd; exact rfl; exact rfl; exact ⟨rfl, rfl⟩
set_option maxRecDepth 10000 in
set_option maxHeartbeats 2000000 in
theorem YaB (c d : List ClM) {A A2 : Option Addr} {cap cap2 B : Nat} {w0 : World} {H : List HP} {w : World} (hc : CIn B w0 H A c) (hd : CIn B w0 H A2 d) (hw : St B w0 H w) :
    Calls Tryz.prog 21 [.slice A c.length cap, .slice A2 d.length cap2].toArray w (Post B w0 fun u K => u = .bool (decide (c.map ClM.clm = d.map ClM.clm)) ∧ K = H) := by
  refine Yc Tryz.func21 Tryz.ntmps21 rfl rfl hw ?_
  have hcl := hc.ln
  have hdl := hd.ln
  have hcr := hc.rd
  have hdr := hd.rd
  by_cases h6 : c.length = d.length
  rotate_left
  · rw [decide_eq_false (fun e => h6 (by have := congrArg List.length e; rwa [List.length_map, List.length_map] at this))]
    repeat' (first | apply (zs1 ?_) | apply (zs2 ?_) | (apply zg4; refine zs9 ?_) | (apply zg8; (refine zs16 ?_ ?_ <;> intro _ <;> try (exfalso; omega))) | apply (zs65 ?_) | apply (zs68 ?_) | apply (zs69 ?_) | apply (zs70 ?_) | (apply zg27; refine zs71 ?_) | apply (zs74 ?_) | apply (zs77 ?_) | fail)
    apply Yd; exact rfl; exact rfl; exact ⟨rfl, rfl⟩
  repeat' (first | apply (zs1 ?_) | apply (zs2 ?_) | (apply zg4; refine zs9 ?_) | (apply zg8; (refine zs16 ?_ ?_ <;> intro _ <;> try (exfalso; omega))) | apply (zs65 ?_) | apply (zs68 ?_) | apply (zs69 ?_) | apply (zs70 ?_) | (apply zg27; refine zs72 ?_) | apply (zs73 ?_) | apply (zs76 ?_) | fail)
  refine Yl (fun k : Nat => [(5, .int .i64 (k : Nat)), (0, .slice A c.length cap), (1, .slice A2 d.length cap2)]) (fun _ => H) (fun k => k ≤ c.length ∧ (c.take k).map ClM.clm = (d.take k).map ClM.clm) (fun k => c.length - k) 0 ⟨Nat.zero_le _, by simp⟩ ?_ (fun w hw => hw) ?_
  · exact zu
  rintro k ⟨hk, hz⟩ K hK
  by_cases hlt : k < c.length
  · obtain ⟨a, ha⟩ : ∃ a, c[k]? = some a := ⟨_, List.getElem?_eq_getElem hlt⟩
    obtain ⟨b, hb⟩ : ∃ b, d[k]? = some b := ⟨_, List.getElem?_eq_getElem (by omega)⟩
    have hax := hc.x a (List.mem_of_getElem? ha)
    have hbx := hd.x b (List.mem_of_getElem? hb)
    have p2 := fun {H' : List HP} {w : World} (hx : a.In B w0 H') (hy : b.In B w0 H') (hw : St B w0 H' w) => O6 a b hx hy hw
    by_cases he : a.clm = b.clm
    · rw [decide_eq_true he] at p2
      repeat' (first | apply (zs1 ?_) | (apply zg4; refine zs9 ?_) | (apply (zs17 ?_ ?_) <;> intro _ <;> try (exfalso; omega)) | apply (zs65 ?_) | apply (zs68 ?_) | apply (zs69 ?_) | apply (zs70 ?_) | (apply zg27; refine zs71 ?_) | apply (zs73 ?_) | apply (zs76 ?_) | fail)
      apply YL [0, 1, 2, 3, 4, 5, 6, 7, 8, 9] []
      kernel_rfl
      kernel_rfl
      (simp only [Yj, nthO]; rfl)
      exact rfl
      repeat' (first | apply (zs1 ?_) | (apply zg3; refine zs61 ?_) | (apply zg5; refine zs57 ?_) | apply (zs87 ?_) | fail)
      first | apply Ya en73 | apply Yb en73
      exact za
      exact rfl
      exact fun _ hw => (p2 hax hbx hw)
      repeat' (first | apply (zs1 ?_) | apply (zs2 ?_) | (apply zg13; refine zs30 ?_) | (apply zg20; refine zs47 ?_) | apply (zs65 ?_) | (apply Ys; exact zp) | apply (zs68 ?_) | apply (zs70 ?_) | (apply zg27; refine zs72 ?_) | apply (zs76 ?_) | apply (zs79 ?_) | (apply Yk; (repeat (first | with_reducible exact Yh | (with_reducible apply Yg; (repeat (first | with_reducible exact Yf | with_reducible apply Ye)))))) | apply (zs93 ?_) | apply (zs94 ?_) | fail)
      · show Perm H (H ++ [])
        rw [List.append_nil]; exact Perm.refl _
      repeat' (first | fail)
      apply hK (k + 1)
      · exact ⟨by omega, by rw [List.take_add_one, List.take_add_one, ha, hb, List.map_append, List.map_append, hz]; simp [he]⟩
      · omega
      · exact zu
      · exact fun w hw => hw
    · rw [decide_eq_false he] at p2
      have hne : ¬ (c.map ClM.clm = d.map ClM.clm) := fun e => by
        have h1 : (c.map ClM.clm)[k]? = (d.map ClM.clm)[k]? := by rw [e]
        rw [List.getElem?_map, List.getElem?_map, ha, hb] at h1
        exact he (Option.some.inj h1)
      rw [decide_eq_false hne]
      clear hK
      repeat' (first | apply (zs1 ?_) | (apply zg4; refine zs9 ?_) | (apply (zs17 ?_ ?_) <;> intro _ <;> try (exfalso; omega)) | apply (zs65 ?_) | apply (zs68 ?_) | apply (zs69 ?_) | apply (zs70 ?_) | (apply zg27; refine zs71 ?_) | apply (zs73 ?_) | apply (zs76 ?_) | fail)
      apply YL [0, 1, 2, 3, 4, 5, 6, 7, 8, 9] []
      kernel_rfl
      kernel_rfl
      (simp only [Yj, nthO]; rfl)
      exact rfl
      repeat' (first | apply (zs1 ?_) | (apply zg3; refine zs61 ?_) | (apply zg5; refine zs57 ?_) | apply (zs87 ?_) | fail)
      first | apply Ya en73 | apply Yb en73
      exact za
      exact rfl
      exact fun _ hw => (p2 hax hbx hw)
      repeat' (first | apply (zs2 ?_) | (apply zg20; refine zs48 ?_) | apply (zs65 ?_) | (apply Ys; exact zp) | apply (zs68 ?_) | apply (zs69 ?_) | apply (zs70 ?_) | (apply zg27; refine zs71 ?_) | apply (zs74 ?_) | apply (zs77 ?_) | apply (zs78 ?_) | (apply Yk; (repeat (first | with_reducible exact Yh | (with_reducible apply Yg; (repeat (first | with_reducible exact Yf | with_reducible apply Ye)))))) | apply (zs93 ?_) | apply (zs94 ?_) | fail)
      · show Perm H (H ++ [])
        rw [List.append_nil]; exact Perm.refl _
      repeat' (first | fail)
      apply Yd; exact rfl; exact rfl; exact ⟨rfl, rfl⟩
  · rw [List.take_of_length_le (by omega), List.take_of_length_le (by omega)] at hz
    rw [decide_eq_true hz]
    repeat' (first | apply (zs1 ?_) | apply (zs2 ?_) | (apply zg4; refine zs9 ?_) | (apply (zs17 ?_ ?_) <;> intro _ <;> try (exfalso; omega)) | apply (zs65 ?_) | apply (zs68 ?_) | apply (zs69 ?_) | apply (zs70 ?_) | (apply zg27; refine zs72 ?_) | apply (zs74 ?_) | apply (zs75 ?_) | apply (zs80 ?_) | apply (zs81 ?_) | fail)
    apply Yd; exact rfl; exact rfl; exact ⟨rfl, rfl⟩
end Go.Proofs.YtmalhidldgfeoaaGreatDoor
namespace Go.Eng
open Go.RowKit
section
variable {P : Program} {B : Nat} {w0 : World} {Q : Exit → Act → World → Prop} {env : Env} {H : List HP} {m : Mode} {n : Shp} {ops : Array Oper} {rest : List Oper} {d : Nat} {ty : TypeId} {pos : String} {after : Array Edge}
theorem Yk0 {tx : Array TypeId} {x y : Operand} {a b : Int} {k k' : IntKind} (hx : evo env x = some (.int k a)) (hy : evo env y = some (.int k' b)) (hn : Nat.ble (d + 1) n.k = true) (h : VL P m n B w0 ops Q rest ((d, .int k (if b < a then b else a)) :: env) H) :
    VL P m n B w0 ops Q (⟨some d, .call ⟨.builtin .min, #[x, y], tx⟩, ty, pos, after, none⟩ :: rest) env H :=
  Yw rfl rfl hn rfl (fun f w ha _ => by simp [execOp, resolve, invoke, builtin, ha.eval hx, ha.eval hy, run_min_int2]) h
end
end Go.Eng
namespace Go.Proofs.YtmalhidldgfeoaaGreatDoor
open Go.RowKit Go.Eng Go.Nw Go.Rt
def JX (id : Int) (x : Clm) : Bool := decide (x.flow = id) && decide (0 < x.bounds.length)
theorem Ycv (x : ClM) (id : Int) (g : Nat) {B : Nat} {w0 : World} {H : List HP} {w : World} (hl : x.bs.length ≤ 1000000000000) (hm : blk g (.cells #[.int .i64 id] 3 (0, 0)) ∈ H) (hw : St B w0 H w) :
    Calls Tryz.prog 90 [clV x, .pointer (some ⟨g, 0, none⟩)].toArray w (Post B w0 fun v K => v = .bool (JX id x.clm) ∧ K = H) := by
  refine Yc Tryz.func90 Tryz.ntmps90 rfl rfl hw ?_
  have e1 : JX id x.clm = (decide (x.flow = id) && decide (0 < x.bs.length)) := rfl
  unfold clV
  by_cases h1 : x.flow = id
  · by_cases h2 : 0 < x.bs.length
    · rw [e1, decide_eq_true h1, decide_eq_true h2]
      repeat' (first | apply (zs1 ?_) | apply (zs2 ?_) | (apply zg1; refine zs4 ?_) | (apply zg2; refine zs6 ?_) | (apply zg3; refine zs7 ?_) | (apply zg4; refine zs9 ?_) | (apply zg6; refine zs11 ?_) | (apply zg7; (refine zs15 ?_ ?_ <;> intro _ <;> try (exfalso; omega))) | (apply (zs19 ?_ ?_) <;> intro _ <;> try (exfalso; omega)) | (apply zg23; (refine zs52 ?_; intro _)) | apply (zs65 ?_) | apply (zs68 ?_) | apply (zs69 ?_) | apply (zs70 ?_) | apply (zs74 ?_) | fail)
      apply Yi H
      · exact zk
      apply Yd; exact rfl; exact rfl; exact ⟨rfl, rfl⟩
    · rw [e1, decide_eq_true h1, decide_eq_false h2]
      repeat' (first | apply (zs1 ?_) | apply (zs2 ?_) | (apply zg1; refine zs4 ?_) | (apply zg2; refine zs6 ?_) | (apply zg3; refine zs7 ?_) | (apply zg4; refine zs9 ?_) | (apply zg6; refine zs11 ?_) | (apply zg7; (refine zs15 ?_ ?_ <;> intro _ <;> try (exfalso; omega))) | (apply (zs19 ?_ ?_) <;> intro _ <;> try (exfalso; omega)) | (apply zg23; (refine zs52 ?_; intro _)) | apply (zs65 ?_) | apply (zs68 ?_) | apply (zs69 ?_) | apply (zs70 ?_) | apply (zs74 ?_) | fail)
      apply Yi H
      · exact zk
      apply Yd; exact rfl; exact rfl; exact ⟨rfl, rfl⟩
  · rw [e1, decide_eq_false h1]
    repeat' (first | apply (zs1 ?_) | apply (zs2 ?_) | (apply zg1; refine zs3 ?_) | (apply zg2; refine zs6 ?_) | (apply zg3; refine zs7 ?_) | (apply zg6; refine zs12 ?_) | (apply zg7; (refine zs15 ?_ ?_ <;> intro _ <;> try (exfalso; omega))) | (apply zg23; (refine zs52 ?_; intro _)) | apply (zs65 ?_) | apply (zs68 ?_) | apply (zs69 ?_) | apply (zs70 ?_) | apply (zs74 ?_) | fail)
    apply Yi H
    · exact zk
    apply Yd; exact rfl; exact rfl; exact ⟨rfl, rfl⟩
def idxC (P : Clm → Bool) (c : List Clm) : Int := match c.findIdx? P with | none => -1 | some i => (i : Nat)
theorem YbO {P : Clm → Bool} {c : List Clm} (h : ∀ x ∈ c, P x = false) : idxC P c = -1 := by
  have : c.findIdx? P = none := by rw [List.findIdx?_eq_none_iff]; exact h
  unfold idxC; rw [this]
theorem YbP {P : Clm → Bool} {c : List Clm} {i : Nat} {x : Clm} (h0 : ∀ y ∈ c.take i, P y = false) (hx : c[i]? = some x) (hp : P x = true) : idxC P c = (i : Nat) ∧ c.find? P = some x := by
  have hc : c = c.take i ++ (x :: c.drop (i + 1)) := by
    have hi := (List.getElem?_eq_some_iff.1 hx)
    obtain ⟨hi, e⟩ := hi
    rw [← e, List.getElem_cons_drop, List.take_append_drop]
  have hl : (c.take i).length = i := by
    have hi := (List.getElem?_eq_some_iff.1 hx).1
    rw [List.length_take]; omega
  have h1 : c.findIdx? P = some i := by
    rw [hc, List.findIdx?_append]
    have : (c.take i).findIdx? P = none := by rw [List.findIdx?_eq_none_iff]; exact h0
    rw [this]
    simp [List.findIdx?_cons, hp, hl]
  refine ⟨by unfold idxC; rw [h1], ?_⟩
  rw [hc, List.find?_append]
  have : (c.take i).find? P = none := by rw [List.find?_eq_none]; exact fun y hy => by rw [h0 y hy]; decide
  rw [this]
  simp [hp]
set_option maxRecDepth 10000 in
set_option maxHeartbeats 2000000 in
theorem YdJ (c : List ClM) (id : Int) (g : Nat) {A : Option Addr} {cap B : Nat} {w0 : World} {H : List HP} {w : World} (hc : CIn B w0 H A c) (hm : blk g (.cells #[.int .i64 id] 3 (0, 0)) ∈ H) (hw : St B w0 H w) :
    Calls Tryz.prog 87 [.slice A c.length cap, .func (.func 90) #[] #[.pointer (some ⟨g, 0, none⟩)]].toArray w (Post B w0 fun v K => v = .int .i64 (idxC (JX id) (c.map ClM.clm)) ∧ K = H) := by
  refine Yc Tryz.func87 Tryz.ntmps87 rfl rfl hw ?_
  have hcl := hc.ln
  have hcr := hc.rd
  repeat' (first | apply (zs1 ?_) | apply (zs2 ?_) | (apply zg4; refine zs9 ?_) | apply (zs65 ?_) | apply (zs68 ?_) | apply (zs69 ?_) | apply (zs70 ?_) | apply (zs73 ?_) | fail)
  refine Yl (fun k : Nat => [(8, .int .i64 (k : Nat)), (7, .int .i64 c.length), (6, .slice A c.length cap), (0, .slice A c.length cap), (1, .func (.func 90) #[] #[.pointer (some ⟨g, 0, none⟩)])]) (fun _ => H) (fun k => k ≤ c.length ∧ ∀ y ∈ (c.map ClM.clm).take k, JX id y = false) (fun k => c.length - k) 0 ⟨Nat.zero_le _, by simp⟩ ?_ (fun w hw => hw) ?_
  · exact zu
  rintro k ⟨hk, hz⟩ K hK
  by_cases hlt : k < c.length
  · obtain ⟨x, hx⟩ : ∃ x, c[k]? = some x := ⟨_, List.getElem?_eq_getElem hlt⟩
    have hxm : (c.map ClM.clm)[k]? = some x.clm := by rw [List.getElem?_map, hx]; rfl
    have hxi := hc.x x (List.mem_of_getElem? hx)
    have p1 := fun {w : World} (hw : St B w0 H w) => Ycv x id g hxi.ln.2.1 hm hw
    cases hb : JX id x.clm with
    | true =>
      rw [hb] at p1
      have hi := (YbP hz hxm hb).1
      rw [hi]
      clear hK
      repeat' (first | ((first | apply YC (cs := [.pointer (some ⟨g, 0, none⟩)]) | apply Y1 (cs := [.pointer (some ⟨g, 0, none⟩)])); exact rfl; exact en90; exact za; exact rfl; exact fun _ hw => (p1 hw)) | apply (zs1 ?_) | apply (zs2 ?_) | (apply zg3; refine zs61 ?_) | (apply zg5; refine zs57 ?_) | (apply (zs17 ?_ ?_) <;> intro _ <;> try (exfalso; omega)) | apply (zs65 ?_) | apply (zs68 ?_) | apply (zs69 ?_) | apply (zs70 ?_) | (apply zg27; refine zs71 ?_) | apply (zs73 ?_) | apply (zs74 ?_) | apply (zs76 ?_) | apply (zs77 ?_) | apply (zs78 ?_) | fail)
      apply Yd; exact rfl; exact rfl; exact ⟨rfl, rfl⟩
    | false =>
      rw [hb] at p1
      repeat' (first | ((first | apply YC (cs := [.pointer (some ⟨g, 0, none⟩)]) | apply Y1 (cs := [.pointer (some ⟨g, 0, none⟩)])); exact rfl; exact en90; exact za; exact rfl; exact fun _ hw => (p1 hw)) | apply (zs1 ?_) | apply (zs2 ?_) | (apply zg3; refine zs61 ?_) | (apply zg5; refine zs57 ?_) | (apply (zs17 ?_ ?_) <;> intro _ <;> try (exfalso; omega)) | (apply zg13; refine zs30 ?_) | apply (zs65 ?_) | apply (zs68 ?_) | apply (zs69 ?_) | apply (zs70 ?_) | (apply zg27; first | refine zs71 ?_ | refine zs72 ?_) | apply (zs73 ?_) | apply (zs76 ?_) | apply (zs79 ?_) | fail)
      apply hK (k + 1)
      · exact ⟨by omega, fun y hy => by
          rw [List.take_add_one, hxm, Option.toList_some] at hy
          rcases List.mem_append.1 hy with h | h
          · exact hz y h
          · rw [List.mem_singleton.1 h]; exact hb⟩
      · omega
      · exact zu
      · exact fun w hw => hw
  · rw [List.take_of_length_le (by rw [List.length_map]; omega)] at hz
    rw [YbO hz]
    repeat' (first | apply (zs2 ?_) | (apply (zs17 ?_ ?_) <;> intro _ <;> try (exfalso; omega)) | apply (zs65 ?_) | apply (zs68 ?_) | apply (zs69 ?_) | apply (zs70 ?_) | (apply zg27; refine zs72 ?_) | apply (zs74 ?_) | apply (zs75 ?_) | apply (zs80 ?_) | apply (zs81 ?_) | fail)
    apply Yd; exact rfl; exact rfl; exact ⟨rfl, rfl⟩
theorem YiP {l : List Int} {k : Nat} {y : Int} (h0 : 1 ≤ k) (h : l[k]? = some y) : minI (l.take (k + 1)) = if y < minI (l.take k) then y else minI (l.take k) := by
  rw [List.take_add_one, h, Option.toList_some]
  cases l with
  | nil => cases h
  | cons a l =>
    obtain ⟨k, rfl⟩ : ∃ j, k = j + 1 := ⟨k - 1, by omega⟩
    rw [List.take_succ_cons]
    show List.foldl (fun x y => if y < x then y else x) a (l.take k ++ [y]) = _
    rw [List.foldl_append]
    rfl
set_option maxRecDepth 10000 in
set_option maxHeartbeats 2000000 in
theorem YhD (l : List Int) (hlen : l.length ≤ 1000000000000) (h0 : 1 ≤ l.length) {A : Option Addr} {cap B : Nat} {w0 : World} {H : List HP} {w : World} (hr : Rd B w0 H A (l.flatMap numF)) (hw : St B w0 H w) :
    Calls Tryz.prog 91 [.slice A l.length cap].toArray w (Post B w0 fun v K => v = .int .i64 (minI l) ∧ K = H) := by
  refine Yc Tryz.func91 Tryz.ntmps91 rfl rfl hw ?_
  obtain ⟨a, ha⟩ : ∃ a, l[0]? = some a := ⟨_, List.getElem?_eq_getElem (by omega)⟩
  have ha2 : l[(0 : Int).toNat]? = some a := ha
  have hm1 : minI (l.take 1) = a := by
    cases l with
    | nil => cases ha
    | cons b l => exact Option.some.inj ha
  repeat' (first | apply (zs1 ?_) | apply (zs2 ?_) | (apply zg3; refine zs60 ?_) | (apply zg4; refine zs9 ?_) | (apply zg5; refine zs57 ?_) | (apply (zs17 ?_ ?_) <;> intro _ <;> try (exfalso; omega)) | apply (zs65 ?_) | apply (zs68 ?_) | apply (zs69 ?_) | apply (zs70 ?_) | (apply zg27; refine zs72 ?_) | apply (zs73 ?_) | apply (zs76 ?_) | fail)
  refine Yl (fun k : Nat => [(4, .int .i64 (k : Nat)), (3, .int .i64 (minI (l.take k))), (0, .slice A l.length cap)]) (fun _ => H) (fun k => 1 ≤ k ∧ k ≤ l.length) (fun k => l.length - k) 1 ⟨Nat.le_refl _, h0⟩ ?_ (fun w hw => hw) ?_
  · rw [hm1]
    exact zu
  rintro k ⟨hk1, hk⟩ K hK
  by_cases hlt : k < l.length
  · obtain ⟨y, hy⟩ : ∃ y, l[k]? = some y := ⟨_, List.getElem?_eq_getElem hlt⟩
    repeat' (first | (apply Yk0; exact rfl; exact rfl; exact rfl) | apply (zs1 ?_) | apply (zs2 ?_) | (apply zg3; refine zs60 ?_) | (apply zg4; refine zs9 ?_) | (apply zg5; refine zs57 ?_) | (apply (zs17 ?_ ?_) <;> intro _ <;> try (exfalso; omega)) | (apply zg13; refine zs30 ?_) | apply (zs65 ?_) | apply (zs68 ?_) | apply (zs69 ?_) | apply (zs70 ?_) | (apply zg27; refine zs71 ?_) | apply (zs73 ?_) | apply (zs76 ?_) | apply (zs79 ?_) | fail)
    apply hK (k + 1)
    · exact ⟨by omega, by omega⟩
    · omega
    · rw [YiP hk1 hy]
      exact zu
    · exact fun w hw => hw
  · rw [show l.take k = l from List.take_of_length_le (by omega)]
    repeat' (first | apply (zs1 ?_) | apply (zs2 ?_) | (apply zg4; refine zs9 ?_) | (apply (zs17 ?_ ?_) <;> intro _ <;> try (exfalso; omega)) | apply (zs65 ?_) | apply (zs68 ?_) | apply (zs69 ?_) | apply (zs70 ?_) | (apply zg27; refine zs72 ?_) | apply (zs74 ?_) | apply (zs75 ?_) | apply (zs80 ?_) | apply (zs81 ?_) | fail)
    apply Yd; exact rfl; exact rfl; exact ⟨rfl, rfl⟩
set_option maxRecDepth 10000 in
set_option maxHeartbeats 2000000 in
theorem YdE (c : List ClM) (id : Int) {A : Option Addr} {cap B : Nat} {w0 : World} {H : List HP} {w : World} (hc : CIn B w0 H A c) (hw : St B w0 H w) :
    Calls Tryz.prog 37 [.slice A c.length cap, .int .i64 id].toArray w (Post B w0 fun v K => v = .tuple #[.int .i64 (bndE (c.map ClM.clm) id).1, .bool (bndE (c.map ClM.clm) id).2] ∧ K = H) := by
  refine Yc Tryz.func37 Tryz.ntmps37 rfl rfl hw ?_
  have hcl := hc.ln
  have hcr := hc.rd
  repeat' (first | apply (zs1 ?_) | apply (zs2 ?_) | (apply zg23; (refine zs53 ?_; intro _)) | apply (zs65 ?_) | apply (zs68 ?_) | apply (zs69 ?_) | apply (zs70 ?_) | (apply zg29; (apply Yq; exact za ; exact rfl)) | fail)
  rename_i g
  have p1 := fun {H' : List HP} {w : World} (hc : CIn B w0 H' A c) (hm : blk g (.cells #[.int .i64 id] 3 (0, 0)) ∈ H') (hw : St B w0 H' w) => YdJ c id g (cap := cap) hc hm hw
  by_cases hex : ∃ i x, (c.map ClM.clm)[i]? = some x ∧ JX id x = true ∧ ∀ y ∈ (c.map ClM.clm).take i, JX id y = false
  · obtain ⟨i, x, hx, hb, hz⟩ := hex
    obtain ⟨h1, h2⟩ := YbP hz hx hb
    have hbe : bndE (c.map ClM.clm) id = (minI x.bounds, true) := by
      unfold bndE
      rw [show (c.map ClM.clm).find? (fun x => decide (x.flow = id) && decide (0 < x.bounds.length)) = some x from h2]
    rw [List.getElem?_map] at hx
    obtain ⟨y, hy, rfl⟩ : ∃ y, c[i]? = some y ∧ y.clm = x := by
      cases hc0 : c[i]? with
      | none => rw [hc0] at hx; cases hx
      | some y => rw [hc0] at hx; exact ⟨y, rfl, Option.some.inj hx⟩
    have hyi := hc.x y (List.mem_of_getElem? hy)
    have hi := (List.getElem?_eq_some_iff.1 hy).1
    have hpos : 1 ≤ y.bs.length := by
      unfold JX at hb
      rw [Bool.and_eq_true, decide_eq_true_eq, decide_eq_true_eq] at hb
      exact hb.2
    rw [h1] at p1
    rw [hbe]
    have p2 := fun {H' : List HP} {w : World} (hr : Rd B w0 H' y.bA (y.bs.flatMap numF)) (hw : St B w0 H' w) => YhD y.bs hyi.ln.2.1 hpos (cap := y.bcap) hr hw
    have hcr2 : Rd B w0 (blk g (.cells #[.int .i64 id] 3 (0, 0)) :: H) A (c.flatMap clF) := hcr.cons
    first | apply Ya en87 | apply Yb en87
    exact za
    exact rfl
    exact fun _ hw => (p1 hc.cons (.head _) hw)
    repeat' (first | apply (zs1 ?_) | apply (zs2 ?_) | (apply zg2; refine zs58 ?_) | (apply zg3; refine zs59 ?_) | (apply zg5; refine zs57 ?_) | (apply (zs17 ?_ ?_) <;> intro _ <;> try (exfalso; omega)) | apply (zs65 ?_) | apply (zs68 ?_) | apply (zs69 ?_) | apply (zs70 ?_) | (apply zg27; refine zs72 ?_) | apply (zs76 ?_) | fail)
    first | apply Ya en91 | apply Yb en91
    exact za
    exact rfl
    exact fun _ hw => (p2 hyi.bd.cons hw)
    repeat' (first | apply (zs2 ?_) | apply (zs65 ?_) | apply (zs68 ?_) | apply (zs74 ?_) | fail)
    apply Yi H
    · exact zk
    apply Yr; exact rfl; exact rfl; exact rfl; exact ⟨rfl, rfl⟩
  · have hall : ∀ y ∈ c.map ClM.clm, JX id y = false := by
      intro y hy
      cases hb : JX id y with
      | false => rfl
      | true =>
        exfalso
        have hsm : ((c.map ClM.clm).find? (JX id)).isSome = true := by
          rw [List.find?_isSome]; exact ⟨y, hy, hb⟩
        have hsi : ((c.map ClM.clm).findIdx? (JX id)).isSome = true := by
          rw [List.findIdx?_isSome, List.any_eq_true]; exact ⟨y, hy, hb⟩
        obtain ⟨i, hi⟩ := Option.isSome_iff_exists.1 hsi
        rw [List.findIdx?_eq_some_iff_getElem] at hi
        obtain ⟨hlt, hpi, hno⟩ := hi
        refine hex ⟨i, _, List.getElem?_eq_getElem hlt, hpi, fun z hz => ?_⟩
        obtain ⟨j, hj⟩ := List.mem_iff_getElem?.1 hz
        rw [List.getElem?_take] at hj
        split at hj
        · rename_i hji
          obtain ⟨hj1, hj2⟩ := List.getElem?_eq_some_iff.1 hj
          have := hno j hji
          rw [hj2] at this
          simpa using this
        · cases hj
    have hbe : bndE (c.map ClM.clm) id = (0, false) := by
      unfold bndE
      have : (c.map ClM.clm).find? (JX id) = none := by rw [List.find?_eq_none]; exact fun y hy => by rw [hall y hy]; decide
      rw [show (c.map ClM.clm).find? (fun x => decide (x.flow = id) && decide (0 < x.bounds.length)) = none from this]
    rw [YbO hall] at p1
    rw [hbe]
    first | apply Ya en87 | apply Yb en87
    exact za
    exact rfl
    exact fun _ hw => (p1 hc.cons (.head _) hw)
    repeat' (first | apply (zs1 ?_) | apply (zs2 ?_) | (apply (zs17 ?_ ?_) <;> intro _ <;> try (exfalso; omega)) | apply (zs65 ?_) | apply (zs68 ?_) | apply (zs69 ?_) | apply (zs70 ?_) | (apply zg27; refine zs71 ?_) | apply (zs74 ?_) | apply (zs77 ?_) | fail)
    apply Yi H
    · exact zk
    apply Yr; exact rfl; exact rfl; exact rfl; exact ⟨rfl, rfl⟩
end Go.Proofs.YtmalhidldgfeoaaGreatDoor
namespace Go.Eng
open Go.RowKit
section
variable {P : Program} {B : Nat} {w0 : World} {Q : Exit → Act → World → Prop} {env : Env} {H : List HP} {m : Mode} {n : Shp} {ops : Array Oper} {rest : List Oper} {d : Nat} {ty : TypeId} {pos : String} {after : Array Edge} {xt yt : TypeId} {x y : Operand} {k : IntKind} {a b : Int}
theorem Qu (T : Tab P) {α : Type} {f : α → List Value} {l : List α} {t i q o k : Nat} {b : α} {x : Operand} {A : Option Addr} {vs : List Value} (hx : evo env x = some (sptr A (i * q + o))) (hr : Rd B w0 H A (l.flatMap f)) (hb : l[i]? = some b) (hq : ∀ a, (f a).length = q)
    (ht : look T.ag t = some k) (ho : Nat.ble (o + k) q = true) (h0 : Nat.blt 0 k = true) (hv : subL o k (f b) = vs) (hk : Nat.beq vs.length k = true) (hn : Nat.ble (d + 1) n.k = true)
    (h : VL P m n B w0 ops Q rest ((d, .agg vs.toArray) :: env) H) : VL P m n B w0 ops Q (⟨some d, .load t x, ty, pos, after, none⟩ :: rest) env H := by
  refine Yw rfl rfl hn rfl (fun a w ha hw => ?_) h
  have hk := Nat.eq_of_beq_eq_true hk
  have hk0 : 0 < k := by simpa using h0
  have hok : o + k ≤ q := Nat.le_of_ble_eq_true ho
  have hget : ∀ j v, vs[j]? = some v → (l.flatMap f)[i * q + o + j]? = some v := fun j v hj => by
    have hlt : j < k := by have := (List.getElem?_eq_some_iff.1 hj).1; rwa [hk] at this
    rw [Nat.add_assoc, JT hq l i (o + j) b hb (by omega)]
    rw [← hv, subL, List.getElem?_take, if_pos hlt, List.getElem?_drop] at hj
    exact hj
  obtain ⟨g, u, rfl, _⟩ := hr w hw _ _ (hget 0 _ (List.getElem?_eq_getElem (by rw [hk]; exact hk0)))
  have hl := run_loadCells_list (P := P) w ⟨g, u + (i * q + o), none⟩ vs (fun j v hj => by
    obtain ⟨g', u', e1, hc⟩ := hr w hw _ _ (hget j v hj)
    injection e1 with e1
    injection e1 with e1 e2
    subst e1 e2
    rw [Addr.add_lit, Nat.add_assoc]; exact hc)
  rw [hk] at hl
  simp [execOp, ha.eval hx, sptr, Instr.loadAt, Instr.sureAddr, loadVar, XE (T.aggs ht), Xr (ZA (T.aggs ht)), Addr.add_lit, hl]
end
open Go.RowKit
section
variable {P : Program} {B : Nat} {w0 : World} {Q : Exit → Act → World → Prop} {env : Env} {H : List HP} {m : Mode} {n : Shp} {ops : Array Oper} {rest : List Oper} {d : Nat} {ty : TypeId} {pos : String} {after : Array Edge}
end
end Go.Eng
namespace Go.Proofs.YtmalhidldgfeoaaGreatDoor
open Go.RowKit Go.Eng Go.Nw Go.Rt
set_option maxRecDepth 10000 in
theorem Yew (q : List RqM) {A : Option Addr} {cap B : Nat} {w0 : World} {H : List HP} {w : World} (hl : q.length ≤ 1000000000000) (hr : Rd B w0 H A (q.flatMap rqF)) (hw : St B w0 H w) :
    Calls Tryz.prog 32 [.slice A q.length cap].toArray w (Post B w0 fun v K => ∃ A2 cap2, v = .slice A2 (RqM.fl q).length cap2 ∧ K = flws A2 cap2 (RqM.fl q) :: H) := by
  refine Yc Tryz.func32 Tryz.ntmps32 rfl rfl hw ?_
  repeat' (first | (apply Jf T; exact rfl; exact rfl; intro g2) | apply (zs2 ?_) | apply (zs65 ?_) | apply (zs68 ?_) | apply (zs69 ?_) | apply (zs70 ?_) | apply (zs73 ?_) | fail)
  refine Yl (fun z : FlM => [(4, .int .i64 (z.i : Nat)), (3, .slice z.A (RqM.fl (q.take z.i)).length z.cap), (0, .slice A q.length cap)]) (fun z => flws z.A z.cap (RqM.fl (q.take z.i)) :: H) (fun z => z.i ≤ q.length) (fun z => q.length - z.i) ⟨0, some ⟨g2, 0, none⟩, 0⟩ (Nat.zero_le _) ?_ (fun w hw => hw) ?_
  · exact zu
  rintro ⟨i, A2, cap2⟩ hi K hK
  dsimp only at hi ⊢
  have hlen : (RqM.fl (q.take i)).length = i := by unfold RqM.fl; rw [List.length_map, List.length_take]; omega
  have hr' := hr.cons (X := flws A2 cap2 (RqM.fl (q.take i)))
  by_cases hlt : i < q.length
  · obtain ⟨x, hx⟩ : ∃ x, q[i]? = some x := ⟨_, List.getElem?_eq_getElem hlt⟩
    have hst : RqM.fl (q.take (i + 1)) = RqM.fl (q.take i) ++ [x.f] := by unfold RqM.fl; rw [List.take_add_one, hx, Option.toList_some, List.map_append]; rfl
    repeat' (first | (apply Qu T (vs := [.int .i64 x.f.1, .int .i64 x.f.2.1, .int .i64 x.f.2.2.1, .int .i64 x.f.2.2.2.1, .int .i64 x.f.2.2.2.2.1, .int .i64 x.f.2.2.2.2.2]); exact rfl; exact hr'; exact hx; exact fun _ => rfl; exact rfl; exact rfl; exact rfl; exact rfl; exact rfl; exact rfl) | apply (zs1 ?_) | apply (zs2 ?_) | (apply zg2; refine zs58 ?_) | (apply zg4; refine zs9 ?_) | (apply zg5; refine zs57 ?_) | (apply (zs17 ?_ ?_) <;> intro _ <;> try (exfalso; omega)) | (apply zg13; refine zs30 ?_) | (apply zg21; (refine zs49 ?_; intro _ _)) | (apply zg26; (refine zs56 ?_; intro _)) | apply (zs65 ?_) | apply (zs68 ?_) | apply (zs69 ?_) | apply (zs70 ?_) | (apply zg27; refine zs71 ?_) | apply (zs73 ?_) | apply (zs76 ?_) | apply (zs79 ?_) | fail)
    rename_i A' cap'
    rw [YbM, ← hst, show (RqM.fl (q.take i)).length + 1 = (RqM.fl (q.take (i + 1))).length from by rw [hst]; simp]
    apply hK ⟨i + 1, A', cap'⟩
    · show i + 1 ≤ _
      omega
    · dsimp only; omega
    · exact zu
    · exact zk
  · obtain rfl : i = q.length := by omega
    rw [List.take_length]
    repeat' (first | apply (zs1 ?_) | apply (zs2 ?_) | (apply zg4; refine zs9 ?_) | (apply (zs17 ?_ ?_) <;> intro _ <;> try (exfalso; omega)) | apply (zs65 ?_) | apply (zs68 ?_) | apply (zs69 ?_) | apply (zs70 ?_) | (apply zg27; refine zs72 ?_) | apply (zs74 ?_) | apply (zs75 ?_) | apply (zs80 ?_) | apply (zs81 ?_) | fail)
    apply Yd; exact rfl; exact rfl
    exact ⟨A2, cap2, rfl, rfl⟩
open Go.ChangeShapes Go.WideShapes Go.ChangeAt Go.RowKit Go.Eng Go.Nw Go.Rt
section
variable {H : Type} {enc : TypeId × Value → H} {W : World} {spare : Nat → Bool} {held : Bool}
structure RtG (W : World) (r : RowM) : Prop where
  old : Old W r.A (r.xs.flatMap numF)
  len : r.xs.length ≤ 9223372036854775807
  cap : r.xs.length ≤ r.cap
  good : ∀ z ∈ r.xs, I64 z
theorem YiU : Opn enc Tryz.prog W spare held 72 rowF (RtG W) :=
  Vt (ZR (q := 1) Tryz.underlying72 (by kernel_rfl) (by decide) op_i) Ygv (fun _ => rfl) (fun _ h => ⟨h.old, Nat.le_trans h.len maxL, h.cap, h.good⟩)
theorem Yka : Opn enc Tryz.prog W spare held 24 rowF (RtG W) :=
  Vt YcO Ygv (fun _ => rfl) (fun _ h => ⟨h.old, Nat.le_trans h.len maxL, h.cap, h.good⟩)
theorem Yhk : Opn enc Tryz.prog W spare held 59 (fun s : SlM RowM => [s.val]) (SlG W rowF (RtG W)) := ZR (q := 1) Tryz.underlying59 (by kernel_rfl) (by decide) YiU
structure RqG (W : World) (x : RqM) : Prop where
  f : FlwG x.f
  old : Old W x.A (x.rows.flatMap rowF)
  len : x.rows.length ≤ 9223372036854775807
  cap : x.rows.length ≤ x.cap
  good : ∀ r ∈ x.rows, RtG W r
theorem Yft : Opn enc Tryz.prog W spare held 70 rqF (RqG W) :=
  Vt (ZG (ts := [68, 59]) (by kernel_rfl) (Yz Yj8 (Yz Yhk Vh)))
    (fun x => ⟨x.1, x.2.1.A, x.2.1.cap, x.2.1.xs⟩) (fun x => by simp [rqF, flwF, SlM.val]) (fun x h => by
      obtain ⟨h1, h2, _⟩ := h
      exact ⟨h1, h2.old, Nat.le_trans h2.len maxL, h2.cap, h2.good⟩)
theorem Yel : Opn enc Tryz.prog W spare held 45 (fun s : SlM RqM => [s.val]) (SlG W rqF (RqG W)) := ZR (q := 7) Tryz.underlying45 (by kernel_rfl) (by decide) Yft
set_option maxRecDepth 100000 in
theorem Yly {r : Reach} {b0 : Nat} {v : Value} {d : DataW H} {p : List MemPlace} (hv : Value.okWide Tryz.prog W r b0 45 v) (h : DataW.Trod enc Tryz.prog W 0 spare held 45 v d p) : ∃ s : SlM RqM, v = s.val ∧ SlG W rqF (RqG W) s := by
  obtain ⟨a, len, cap, rfl⟩ := okWide_slice Tryz.underlying45 hv
  obtain ⟨fuel, hf⟩ := h
  obtain ⟨n, h1, h2⟩ := Yel fuel _ _ hf
  refine ⟨n, ?_, h2⟩
  injection h1
end
open Go.RowKit Go.Eng Go.Nw Go.Rt
structure ClM.Bg (B : Nat) (w0 : World) (H : List HP) (c : ClM) : Prop where
  rt : Rd B w0 H c.rA (c.rs.flatMap rowF)
  rw_ : ∀ r ∈ c.rs, Rd B w0 H r.A (r.xs.flatMap numF)
  bd : Rd B w0 H c.bA (c.bs.flatMap numF)
  ws : Rd B w0 H c.wA (c.ws.flatMap numF)
  st : Rd B w0 H c.sA (c.ss.flatMap rowF)
  sw : ∀ r ∈ c.ss, Rd B w0 H r.A (r.xs.flatMap numF)
  ln : c.rs.length ≤ 9223372036854775807 ∧ c.bs.length ≤ 9223372036854775807 ∧ c.ws.length ≤ 9223372036854775807 ∧ c.ss.length ≤ 9223372036854775807
  rl : ∀ r ∈ c.rs, r.xs.length ≤ 9223372036854775807
  sl : ∀ r ∈ c.ss, r.xs.length ≤ 9223372036854775807
structure CBg (B : Nat) (w0 : World) (H : List HP) (A : Option Addr) (c : List ClM) : Prop where
  rd : Rd B w0 H A (c.flatMap clF)
  x : ∀ x ∈ c, x.Bg B w0 H
  ln : c.length ≤ 9223372036854775807
def FewX (x : ClM) : Prop := x.rs.length ≤ 3 ∧ x.bs.length ≤ 8 ∧ x.ws.length ≤ 8 ∧ x.ss.length ≤ 8 ∧ (∀ r ∈ x.rs, r.xs.length ≤ 12) ∧ ∀ r ∈ x.ss, r.xs.length ≤ 70
def FewC (c : List ClM) : Prop := c.length ≤ 17 ∧ ∀ x ∈ c, FewX x
theorem CBg.small {B : Nat} {w0 : World} {H : List HP} {A : Option Addr} {c : List ClM} (h : CBg B w0 H A c) (hf : FewC c) : CIn B w0 H A c := by
  refine ⟨h.rd, fun x hx => ?_, by have := hf.1; omega⟩
  have h1 := h.x x hx
  obtain ⟨f1, f2, f3, f4, f5, f6⟩ := hf.2 x hx
  exact ⟨h1.rt, h1.rw_, h1.bd, h1.ws, h1.st, h1.sw, by omega, fun r hr => by have := f5 r hr; omega, fun r hr => by have := f6 r hr; omega⟩
theorem Ydw {α : Type} {P : α → Prop} {l : List α} {k : Nat} {x : α} (h : ∀ y ∈ l.take k, P y) (hx : l[k]? = some x) (hp : P x) : ∀ y ∈ l.take (k + 1), P y := fun y hy => by
  rw [List.take_add_one, hx, Option.toList_some] at hy
  rcases List.mem_append.1 hy with h1 | h1
  · exact h y h1
  · rw [List.mem_singleton.1 h1]; exact hp
theorem Yf2 {α : Type} {P : α → Prop} {l : List α} {k : Nat} (h : ∀ y ∈ l.take k, P y) (hk : ¬ k < l.length) : ∀ y ∈ l, P y := by
  rw [List.take_of_length_le (by omega)] at h
  exact h
open Go.RowKit Go.Eng Go.Nw
def YcE (n : Net) : Bool := decide ((∀ r ∈ n.power, r.length ≤ 40) ∧ n.power.length ≤ 8 ∧ n.links.length ≤ 60 ∧ n.margin.length ≤ 60)
theorem QW (n : NetM) {B : Nat} {w0 : World} {H : List HP} {w : World} (hin : n.In B w0 H) (hw : St B w0 H w) :
    Calls Tryz.prog 12 [n.val].toArray w (Post B w0 fun v K => v = .bool (YcE n.net) ∧ K = H) := by
  refine Yc Tryz.func12 Tryz.ntmps12 rfl rfl hw ?_
  obtain ⟨hpw, hrw, hlk, hmg, hs1, hs2, hs3, hs4⟩ := id hin
  have e1 : (∀ r ∈ n.net.power, r.length ≤ 40) ↔ ∀ r ∈ n.rows, r.xs.length ≤ 40 := by simp [NetM.net]
  have e2 : n.net.power.length = n.rows.length := by simp [NetM.net]
  have e3 : n.net.links = n.links := rfl
  have e4 : n.net.margin = n.margin := rfl
  unfold YcE
  rw [e2, e3, e4]
  (apply Zx; apply XH; apply Xv; exact rfl; exact rfl; intro g)
  repeat' (first | refine zgb ?_ | fail)
  refine Yl (fun (a : Nat) => [(3, .int .i64 a), (1, .pointer (some ⟨g, 0, none⟩))]) (fun _ => netN g n :: H) (fun a => a ≤ n.rows.length ∧ ∀ j r, j < a → n.rows[j]? = some r → r.xs.length ≤ 40) (fun a => n.rows.length - a) 0 ⟨Nat.zero_le _, by intro j r hj; omega⟩ ?_ (fun w hw => hw) ?_
  · exact zu
  rintro a ⟨ha, hai⟩ K hK
  unfold netN
  by_cases hlt : a < n.rows.length
  · obtain ⟨r, hr⟩ : ∃ r, n.rows[a]? = some r := ⟨_, List.getElem?_eq_getElem hlt⟩
    have hs2r := hs2 r (List.mem_of_getElem? hr)
    repeat' (first | refine zgd ?_ | (refine zge ?_ ?_ <;> intro _ <;> try (exfalso; omega)) | fail)
    · rename_i h
      apply Yp; apply Yd; exact rfl; exact rfl
      exact ⟨by rw [decide_eq_false fun hc => by have := e1.1 hc.1 r (List.mem_of_getElem? hr); omega], rfl⟩
    · rename_i h
      apply hK (a + 1)
      · refine ⟨by omega, fun j q hj hq => ?_⟩
        by_cases e : j = a
        · subst e; rw [hr] at hq; rw [← Option.some.inj hq]; omega
        · exact hai j q (by omega) hq
      · omega
      · exact zu
      · exact fun w hw => hw
  obtain rfl : a = n.rows.length := by omega
  have hall : ∀ r ∈ n.rows, r.xs.length ≤ 40 := fun r hr => by
    obtain ⟨j, hj⟩ := List.getElem?_of_mem hr
    exact hai j r (List.getElem?_eq_some_iff.1 hj).1 hj
  repeat' (first | refine zgc ?_ | (refine zgf ?_ ?_ <;> intro _ <;> try (exfalso; omega)) | fail)
  · apply Yp; apply Yd; exact rfl; exact rfl
    exact ⟨by rw [decide_eq_true ⟨e1.2 hall, by omega, by omega, by omega⟩], rfl⟩
  all_goals (apply Yp; apply Yd; exact rfl; exact rfl; exact ⟨by rw [decide_eq_false fun hc => by omega], rfl⟩)
open Go.RowKit Go.Eng Go.Nw Go.Rt
structure RqM.Bg (B : Nat) (w0 : World) (H : List HP) (x : RqM) : Prop where
  rt : Rd B w0 H x.A (x.rows.flatMap rowF)
  rw_ : ∀ r ∈ x.rows, Rd B w0 H r.A (r.xs.flatMap numF)
  ln : x.rows.length ≤ 9223372036854775807
  rl : ∀ r ∈ x.rows, r.xs.length ≤ 9223372036854775807 ∧ r.xs.length ≤ r.cap
structure QBg (B : Nat) (w0 : World) (H : List HP) (A : Option Addr) (q : List RqM) : Prop where
  rd : Rd B w0 H A (q.flatMap rqF)
  x : ∀ x ∈ q, x.Bg B w0 H
  ln : q.length ≤ 9223372036854775807
theorem RqM.Bg.mono {B : Nat} {w0 : World} {H H' : List HP} {x : RqM} (h : x.Bg B w0 H) (hH : ∀ w, St B w0 H' w → St B w0 H w) : x.Bg B w0 H' := ⟨h.rt.mono hH, fun r hr => (h.rw_ r hr).mono hH, h.ln, h.rl⟩
theorem QBg.mono {B : Nat} {w0 : World} {H H' : List HP} {A : Option Addr} {q : List RqM} (h : QBg B w0 H A q) (hH : ∀ w, St B w0 H' w → St B w0 H w) : QBg B w0 H' A q := ⟨h.rd.mono hH, fun x hx => (h.x x hx).mono hH, h.ln⟩
def FewR (l : List RowM) : Prop := l.length ≤ 3 ∧ ∀ r ∈ l, r.xs.length ≤ 12
def FewQ (q : List RqM) (s : SchM) : Prop := q.length ≤ 4 ∧ s.cells.length ≤ 30 ∧ ∀ x ∈ q, FewR x.rows
theorem QBg.small {B : Nat} {w0 : World} {H : List HP} {A : Option Addr} {q : List RqM} {s : SchM} (h : QBg B w0 H A q) (hf : FewQ q s) : QIn B w0 H A q := by
  refine ⟨h.rd, fun x hx => ?_, by have := hf.1; omega⟩
  have h1 := h.x x hx
  obtain ⟨f1, f2⟩ := hf.2.2 x hx
  exact ⟨h1.rt, h1.rw_, by omega, fun r hr => ⟨by have := f2 r hr; omega, (h1.rl r hr).2⟩⟩
theorem req_bg {W : World} {s : SlM RqM} {K : List HP} (h : SlG W rqF (RqG W) s) : QBg W.heap.size W K s.A s.xs :=
  ⟨h.old.rd, fun x hx => ⟨(h.good x hx).old.rd, fun r hr => ((h.good x hx).good r hr).old.rd, (h.good x hx).len, fun r hr => ⟨((h.good x hx).good r hr).len, ((h.good x hx).good r hr).cap⟩⟩, Nat.le_trans h.len maxL⟩
set_option maxRecDepth 10000 in
set_option maxHeartbeats 2000000 in
theorem Yff (n : NetM) (s : SchM) (l : List RowM) {A : Option Addr} {cap B : Nat} {w0 : World} {H : List HP} {w : World} (hin : n.In B w0 H) (hr : Rd B w0 H A (l.flatMap rowF)) (hll : l.length ≤ 9223372036854775807) (_hsl : s.cells.length ≤ 9223372036854775807) (hlr : ∀ r ∈ l, r.xs.length ≤ 9223372036854775807) (hw : St B w0 H w) :
    Calls Tryz.prog 66 [n.val, s.val, .slice A l.length cap].toArray w (Post B w0 fun v K => (∃ b, v = .bool b ∧ (b = true → FewR l)) ∧ K = H) := by
  refine Yc Tryz.func66 Tryz.ntmps66 rfl rfl hw ?_
  unfold NetM.val SchM.val
  have p1 := fun {H' : List HP} {w : World} (hin : n.In B w0 H') (hw : St B w0 H' w) => QW n hin hw
  unfold NetM.val at p1
  repeat' (first | apply (zs2 ?_) | (apply zg23; (refine zs52 ?_; intro _)) | apply (zs65 ?_) | apply (zs68 ?_) | apply (zs69 ?_) | apply (zs70 ?_) | apply (zs73 ?_) | fail)
  rename_i g3 g4
  refine Yl (fun k : Nat => [(7, .int .i64 (k : Nat)), (2, .slice A l.length cap), (4, .pointer (some ⟨g4, 0, none⟩)), (3, .pointer (some ⟨g3, 0, none⟩))]) (fun _ => schA g4 s :: netA g3 n :: H) (fun k => k ≤ l.length ∧ ∀ r ∈ l.take k, r.xs.length ≤ 12) (fun k => l.length - k) 0 ⟨Nat.zero_le _, by simp⟩ ?_ (fun w hw => hw) ?_
  · exact zu
  rintro k ⟨hk, hz⟩ K hK
  have hr2 : Rd B w0 (schA g4 s :: netA g3 n :: H) A (l.flatMap rowF) := hr.cons.cons
  by_cases hlt : k < l.length
  · obtain ⟨r, hx⟩ : ∃ r, l[k]? = some r := ⟨_, List.getElem?_eq_getElem hlt⟩
    have hrl := hlr r (List.mem_of_getElem? hx)
    repeat' (first | apply (zs1 ?_) | apply (zs2 ?_) | (apply zg3; refine zs60 ?_) | (apply zg4; refine zs9 ?_) | (apply zg5; refine zs57 ?_) | (apply (zs17 ?_ ?_) <;> intro _ <;> try (exfalso; omega)) | (apply (zs19 ?_ ?_) <;> intro _ <;> try (exfalso; omega)) | (apply zg13; refine zs30 ?_) | apply (zs65 ?_) | apply (zs68 ?_) | apply (zs69 ?_) | apply (zs70 ?_) | (apply zg27; first | refine zs71 ?_ | refine zs72 ?_) | apply (zs73 ?_) | apply (zs74 ?_) | apply (zs76 ?_) | apply (zs77 ?_) | apply (zs78 ?_) | apply (zs79 ?_) | fail)
    · apply Yi H
      · exact zk
      apply Yd; exact rfl; exact rfl; exact ⟨⟨_, rfl, fun h => by cases h⟩, rfl⟩
    · apply hK (k + 1)
      · exact ⟨by omega, Ydw hz hx (by omega)⟩
      · omega
      · exact zu
      · exact fun w hw => hw
  · have hz := Yf2 hz hlt
    clear hK
    cases hb : YcE n.net <;> (
      rw [hb] at p1
      repeat' (first | apply (zs1 ?_) | (apply zg3; refine zs8 ?_) | (apply zg4; refine zs9 ?_) | (apply (zs17 ?_ ?_) <;> intro _ <;> try (exfalso; omega)) | apply (zs65 ?_) | apply (zs68 ?_) | apply (zs69 ?_) | apply (zs70 ?_) | (apply zg27; refine zs72 ?_) | apply (zs75 ?_) | apply (zs80 ?_) | apply (zs81 ?_) | fail)
      first | apply Ya en12 | apply Yb en12
      exact za
      exact rfl
      exact fun _ hw => (p1 (hin.mono zk) hw)
      repeat' (first | apply (zs1 ?_) | apply (zs2 ?_) | (apply zg1; first | refine zs3 ?_ | refine zs4 ?_) | (apply zg2; refine zs6 ?_) | (apply zg3; refine zs7 ?_) | (apply zg4; refine zs9 ?_) | (apply zg6; first | refine zs11 ?_ | refine zs12 ?_) | (apply (zs18 ?_ ?_) <;> intro _ <;> try (exfalso; omega)) | apply (zs65 ?_) | apply (zs68 ?_) | apply (zs74 ?_) | fail)
      all_goals (
        apply Yi H
        · exact zk
        apply Yd; exact rfl; exact rfl
        exact ⟨⟨_, rfl, fun h => by first | (exact absurd h (by decide)) | (rw [decide_eq_true_eq] at h; exact ⟨by omega, hz⟩) | exact ⟨by omega, hz⟩⟩, rfl⟩))
set_option maxRecDepth 10000 in
set_option maxHeartbeats 2000000 in
theorem Yfg (n : NetM) (q : List RqM) (s : SchM) {A : Option Addr} {cap B : Nat} {w0 : World} {H : List HP} {w : World} (hin : n.In B w0 H) (hq : QBg B w0 H A q) (hsl : s.cells.length ≤ 9223372036854775807) (hw : St B w0 H w) :
    Calls Tryz.prog 18 [n.val, .slice A q.length cap, s.val].toArray w (Post B w0 fun v K => (∃ b, v = .bool b ∧ (b = true → FewQ q s)) ∧ K = H) := by
  refine Yc Tryz.func18 Tryz.ntmps18 rfl rfl hw ?_
  unfold NetM.val SchM.val
  have p1 := fun {H' : List HP} {w : World} (hin : n.In B w0 H') (hw : St B w0 H' w) => QW n hin hw
  have p2 := fun {x : RqM} {H' : List HP} {w : World} (hin : n.In B w0 H') (hx : x.Bg B w0 H') (hw : St B w0 H' w) => Yff n ⟨0, 0, none, 0, []⟩ x.rows (cap := x.cap) hin hx.rt hx.ln (by simp) (fun r hr => (hx.rl r hr).1) hw
  unfold NetM.val at p1 p2
  have hql := hq.ln
  repeat' (first | apply (zs2 ?_) | (apply zg23; (refine zs52 ?_; intro _)) | apply (zs65 ?_) | apply (zs68 ?_) | apply (zs69 ?_) | apply (zs70 ?_) | apply (zs73 ?_) | fail)
  rename_i g3 g4
  refine Yl (fun k : Nat => [(7, .int .i64 (k : Nat)), (1, .slice A q.length cap), (5, .pointer (some ⟨g4, 0, none⟩)), (3, .pointer (some ⟨g3, 0, none⟩))]) (fun _ => schA g4 s :: netA g3 n :: H) (fun k => k ≤ q.length ∧ ∀ x ∈ q.take k, FewR x.rows) (fun k => q.length - k) 0 ⟨Nat.zero_le _, by simp⟩ ?_ (fun w hw => hw) ?_
  · exact zu
  rintro k ⟨hk, hz⟩ K hK
  have hr2 : Rd B w0 (schA g4 s :: netA g3 n :: H) A (q.flatMap rqF) := hq.rd.cons.cons
  by_cases hlt : k < q.length
  · obtain ⟨x, hx⟩ : ∃ x, q[k]? = some x := ⟨_, List.getElem?_eq_getElem hlt⟩
    have hxb := hq.x x (List.mem_of_getElem? hx)
    repeat' (first | apply (zs1 ?_) | (apply zg4; refine zs9 ?_) | (apply (zs17 ?_ ?_) <;> intro _ <;> try (exfalso; omega)) | apply (zs65 ?_) | apply (zs68 ?_) | apply (zs69 ?_) | apply (zs70 ?_) | (apply zg27; refine zs71 ?_) | apply (zs73 ?_) | apply (zs76 ?_) | fail)
    apply YL [0, 1, 2, 3, 4, 5, 6, 7, 8] []
    kernel_rfl
    kernel_rfl
    (simp only [Yj, nthO]; rfl)
    exact rfl
    repeat' (first | apply (zs1 ?_) | (apply zg2; refine zs58 ?_) | (apply zg3; first | refine zs8 ?_ | refine zs59 ?_) | (apply zg5; refine zs57 ?_) | (apply zg25; refine zs55 ?_) | apply (zs87 ?_) | fail)
    apply Yo _ en66
    exact za
    exact rfl
    exact fun _ hw => (p2 (hin.mono zk) (hxb.mono zk) (hw))
    rintro _ _ ⟨⟨b, rfl, hb⟩, hK0⟩
    rw [hK0]
    cases b with
    | false =>
      repeat' (first | apply (zs2 ?_) | (apply zg20; refine zs48 ?_) | apply (zs65 ?_) | (apply Ys; exact zp) | apply (zs68 ?_) | apply (zs69 ?_) | apply (zs70 ?_) | (apply zg27; refine zs71 ?_) | apply (zs74 ?_) | apply (zs77 ?_) | apply (zs78 ?_) | (apply Yk; (repeat (first | with_reducible exact Yh | (with_reducible apply Yg; (repeat (first | with_reducible exact Yf | with_reducible apply Ye)))))) | apply (zs93 ?_) | apply (zs94 ?_) | fail)
      · show Perm H (H ++ [])
        rw [List.append_nil]; exact Perm.refl _
      repeat' (first | fail)
      apply Yi H
      · exact zk
      apply Yd; exact rfl; exact rfl; exact ⟨⟨_, rfl, fun h => by cases h⟩, rfl⟩
    | true =>
      have hb := hb rfl
      repeat' (first | apply (zs1 ?_) | apply (zs2 ?_) | (apply zg13; refine zs30 ?_) | (apply zg20; refine zs47 ?_) | apply (zs65 ?_) | (apply Ys; exact zp) | apply (zs68 ?_) | apply (zs70 ?_) | (apply zg27; refine zs72 ?_) | apply (zs76 ?_) | apply (zs79 ?_) | (apply Yk; (repeat (first | with_reducible exact Yh | (with_reducible apply Yg; (repeat (first | with_reducible exact Yf | with_reducible apply Ye)))))) | apply (zs93 ?_) | apply (zs94 ?_) | fail)
      · show Perm H (H ++ [])
        rw [List.append_nil]; exact Perm.refl _
      repeat' (first | fail)
      apply hK (k + 1)
      · exact ⟨by omega, Ydw hz hx hb⟩
      · omega
      · exact zu
      · exact fun w hw => hw
  · have hz := Yf2 hz hlt
    clear hK
    cases hb : YcE n.net <;> (
      rw [hb] at p1
      repeat' (first | apply (zs1 ?_) | (apply zg3; refine zs8 ?_) | (apply zg4; refine zs9 ?_) | (apply (zs17 ?_ ?_) <;> intro _ <;> try (exfalso; omega)) | apply (zs65 ?_) | apply (zs68 ?_) | apply (zs69 ?_) | apply (zs70 ?_) | (apply zg27; refine zs72 ?_) | apply (zs75 ?_) | apply (zs80 ?_) | apply (zs81 ?_) | fail)
      first | apply Ya en12 | apply Yb en12
      exact za
      exact rfl
      exact fun _ hw => (p1 (hin.mono zk) hw)
      repeat' (first | apply (zs1 ?_) | apply (zs2 ?_) | (apply zg1; first | refine zs3 ?_ | refine zs4 ?_) | (apply zg2; refine zs6 ?_) | (apply zg3; refine zs7 ?_) | (apply zg4; refine zs9 ?_) | (apply zg6; first | refine zs11 ?_ | refine zs12 ?_) | (apply (zs18 ?_ ?_) <;> intro _ <;> try (exfalso; omega)) | apply (zs65 ?_) | apply (zs68 ?_) | apply (zs74 ?_) | fail)
      all_goals (
        apply Yi H
        · exact zk
        apply Yd; exact rfl; exact rfl
        exact ⟨⟨_, rfl, fun h => by first | (exact absurd h (by decide)) | (rw [decide_eq_true_eq] at h; exact ⟨by omega, by omega, hz⟩) | exact ⟨by omega, by omega, hz⟩⟩, rfl⟩))
open Go.RowKit Go.Eng Go.Nw
theorem J0 {n : Int} (h : 0 ≤ n ∧ n < 10) : Lib.itoa n = [UInt8.ofNat (48 + n.toNat)] := by
  rw [JZ h.1, Lib.decDigits_one (by omega)]
end Go.Proofs.YtmalhidldgfeoaaGreatDoor
namespace Go.Eng
open Go.RowKit
theorem YgL {P : Program} {B : Nat} {w0 : World} {env : Env} {H : List HP} {n : Nat} (T : Tab P) {fn : Func} {Φ : Value → List HP → Prop} {p g k u p2 g2 k2 rt rt2 : Nat} {x : Value} {cs cs2 : Array Value} {tt tt2 : TypeId} {fr fr2 : Nat × Nat} (hr : fn.results = #[.cell p rt, .tmp u, .cell p2 rt2]) (hp : get env p = some (.pointer (some ⟨g, 0, none⟩))) (hu : get env u = some x) (hp2 : get env p2 = some (.pointer (some ⟨g2, 0, none⟩)))
    (hm : blk g (.cells cs tt fr) ∈ H) (hm2 : blk g2 (.cells cs2 tt2 fr2) ∈ H) (ht : look T.ag rt = some k) (ht2 : look T.ag rt2 = some k2) (hk : cs.size = k) (hk2 : cs2.size = k2) {H2 : List HP} (hH : ∀ w, St B w0 H w → St B w0 H2 w) (h : Φ (.tuple #[.agg cs, x, .agg cs2]) H2) : VQ ⟨n, [], none⟩ B w0 (bodyPost P fn (Post B w0 Φ)) .ret env H := by
  refine ⟨fun a w ha hw => bodyPost_ret (v := .tuple #[.agg cs, x, .agg cs2]) ?_ ha.defers ⟨_, H2, rfl, hH w hw, h⟩⟩
  have hp' := ha.slot p _ hp
  have hp2' := ha.slot p2 _ hp2
  simp [results, hr, Array.getD_eq_getD_getElem?, hp', hp2', ha.slot u _ hu, asAddr, Z9 T (hw.blk hm).1 ht hk, Z9 T (hw.blk hm2).1 ht2 hk2]
end Go.Eng
namespace Go.Proofs.YtmalhidldgfeoaaGreatDoor
open Go.RowKit Go.Eng Go.Nw Go.Rt
def exN8 : Net := ⟨3, [[0, 9, 9], [9, 0, 9], [9, 9, 0]], 1, 1000, [(0, 1, 1), (1, 0, 0), (1, 2, 1), (2, 1, 0)], [9, 9, 9, 9]⟩
def exQ : List Rqs := [((3, 0, 2, 6, 0, 6), [[0, 1, 2]])]
def exZ : Sch := ⟨6, 1, [(0, 0, 0, 1, 3), (1, 0, 1, 2, 3), (2, 0, 0, 1, 3), (3, 0, 1, 2, 3), (4, 0, 1, 2, 3)]⟩
set_option maxRecDepth 10000 in
set_option maxHeartbeats 4000000 in
theorem Yfd {B : Nat} {w0 : World} {H : List HP} {w : World} (hw : St B w0 H w) :
    Calls Tryz.prog 65 [].toArray w (Post B w0 fun v K => ∃ (n : NetM) (A : Option Addr) (cap : Nat) (q : List RqM) (s : SchM), v = .tuple #[n.val, .slice A q.length cap, s.val] ∧ n.net = exN8 ∧ q.map RqM.rq = exQ ∧ s.sch = exZ ∧ n.In B w0 K ∧ QIn B w0 K A q ∧ Rd B w0 K s.A (s.cells.flatMap celF) ∧ ∀ w, St B w0 K w → St B w0 H w) := by
  refine Yc Tryz.func65 Tryz.ntmps65 rfl rfl hw ?_
  repeat' (first | apply (zs2 ?_) | (apply zg2; refine zs6 ?_) | (apply zg22; first | refine zs50 ?_ | refine zs51 ?_) | (apply zg24; (refine zs54 ?_; intro _)) | (apply zg25; refine zs55 ?_) | (apply zg26; (refine zs56 ?_; intro _)) | apply (zs65 ?_) | apply (zs68 ?_) | apply (zs69 ?_) | apply (zs70 ?_) | fail)
  rename_i g0 g2 r5 r6 r7 gp gm g3 gl gc g4
  apply Us (.n1 0 (.n1 1 (.n1 6 (.n2 2 (.n2 3 (.n1 4 (.n2 5 (.n1 7 (.n1 8 .done)) 7 (.n1 5 (.n1 8 .done)))) 7 (.n1 3 (.n1 4 (.n1 5 (.n1 8 .done))))) 7 (.n1 2 (.n1 3 (.n1 4 (.n1 5 (.n1 8 .done))))))))) [9] [true, false, false, true]
  kernel_rfl
  kernel_rfl
  exact zy
  (simp only [Yj, nthO]; rfl)
  repeat' (first | apply (zs2 ?_) | (apply zg3; refine zs8 ?_) | (apply zg22; refine zs51 ?_) | (apply zg25; refine zs55 ?_) | (apply zg26; (refine zs56 ?_; intro _)) | apply (zs65 ?_) | (apply Ys; exact zp) | apply (zs68 ?_) | apply (zs74 ?_) | apply (zs87 ?_) | (apply Yk; (repeat (first | with_reducible exact Yh | (with_reducible apply Yg; (repeat (first | with_reducible exact Yf | with_reducible apply Ye)))))) | (apply Va; exact zp) | apply (zs90 ?_) | apply (zs91 ?_ ?_) | (apply Y9; (repeat (first | with_reducible exact Yh | (with_reducible apply Yg; (repeat (first | with_reducible exact Yf | with_reducible apply Ye)))))) | apply (zs93 ?_) | apply (zs94 ?_) | fail)
  all_goals (
    rename_i gi gr gq
    apply YgL T; exact rfl; exact rfl; exact rfl; exact rfl; exact zm; exact zm; exact rfl; exact rfl; exact rfl; exact rfl; exact fun w hw => hw
    refine ⟨⟨3, (some ⟨gp, 0, none⟩), 3, [⟨(some ⟨r5, 0, none⟩), 3, [0, 9, 9]⟩, ⟨(some ⟨r6, 0, none⟩), 3, [9, 0, 9]⟩, ⟨(some ⟨r7, 0, none⟩), 3, [9, 9, 0]⟩], 1, 1000, (some ⟨gl, 0, none⟩), 4, [(0, 1, 1), (1, 0, 0), (1, 2, 1), (2, 1, 0)], (some ⟨gm, 0, none⟩), 4, [9, 9, 9, 9]⟩, (some ⟨gq, 0, none⟩), 1, [⟨(3, 0, 2, 6, 0, 6), (some ⟨gr, 0, none⟩), 1, [⟨(some ⟨gi, 0, none⟩), 3, [0, 1, 2]⟩]⟩], ⟨6, 1, (some ⟨gc, 0, none⟩), 5, exZ.cells⟩, rfl, rfl, rfl, rfl, ?_, ?_, ?_, ?_⟩
    · refine ⟨Rd.blk (cs := #[.slice (some ⟨r5, 0, none⟩) 3 3, .slice (some ⟨r6, 0, none⟩) 3 3, .slice (some ⟨r7, 0, none⟩) 3 3]) (t := 24) (fr := (0, 0)) zm, fun r hr => ?_, Rd.blk (cs := #[.int .i64 0, .int .i64 1, .int .i64 1, .int .i64 1, .int .i64 0, .int .i64 0, .int .i64 1, .int .i64 2, .int .i64 1, .int .i64 2, .int .i64 1, .int .i64 0]) (t := 172) (fr := (0, 0)) zm, Rd.blk (cs := #[.int .i64 9, .int .i64 9, .int .i64 9, .int .i64 9]) (t := 3) (fr := (0, 0)) zm, by show 3 ≤ _; omega, fun r hr => ?_, by show 4 ≤ _; omega, by show 4 ≤ _; omega⟩
      · simp only [List.mem_cons, List.not_mem_nil, or_false] at hr
        rcases hr with rfl | rfl | rfl
        · exact Rd.blk (cs := #[.int .i64 0, .int .i64 9, .int .i64 9]) (t := 3) (fr := (0, 0)) zm
        · exact Rd.blk (cs := #[.int .i64 9, .int .i64 0, .int .i64 9]) (t := 3) (fr := (0, 0)) zm
        · exact Rd.blk (cs := #[.int .i64 9, .int .i64 9, .int .i64 0]) (t := 3) (fr := (0, 0)) zm
      · simp only [List.mem_cons, List.not_mem_nil, or_false] at hr
        rcases hr with rfl | rfl | rfl <;> (show 3 ≤ _; omega)
    · refine ⟨Rd.blk (cs := #[.int .i64 3, .int .i64 0, .int .i64 2, .int .i64 6, .int .i64 0, .int .i64 6, .slice (some ⟨gr, 0, none⟩) 1 1]) (t := 70) (fr := (0, 0)) zm, fun x hx => ?_, by show 1 ≤ _; omega⟩
      obtain rfl := List.mem_singleton.1 hx
      refine ⟨Rd.blk (cs := #[.slice (some ⟨gi, 0, none⟩) 3 3]) (t := 72) (fr := (0, 0)) zm, fun r hr => ?_, by show 1 ≤ _; omega, fun r hr => ?_⟩
      · obtain rfl := List.mem_singleton.1 hr
        exact Rd.blk (cs := #[.int .i64 0, .int .i64 1, .int .i64 2]) (t := 3) (fr := (0, 0)) zm
      · obtain rfl := List.mem_singleton.1 hr
        exact ⟨by show 3 ≤ _; omega, by show 3 ≤ 3; omega⟩
    · exact Rd.blk (cs := #[.int .i64 0, .int .i64 0, .int .i64 0, .int .i64 1, .int .i64 3, .int .i64 1, .int .i64 0, .int .i64 1, .int .i64 2, .int .i64 3, .int .i64 2, .int .i64 0, .int .i64 0, .int .i64 1, .int .i64 3, .int .i64 3, .int .i64 0, .int .i64 1, .int .i64 2, .int .i64 3, .int .i64 4, .int .i64 0, .int .i64 1, .int .i64 2, .int .i64 3]) (t := 40) (fr := (0, 0)) zm
    · exact zk)
open Go.RowKit Go.Eng Go.Nw Go.Rt
def exK : Clm := ⟨3, [[0, 1, 2]], [5], [0], [[0, 2, 3, 4]]⟩
theorem Ygj : Zt exN8 exQ exZ = ([exK], (-1, 0)) := by decide
theorem YbH : VK [exK] = true := by decide
theorem YiA : bndE [exK] 3 = (5, true) := by decide
def QU : List UInt8 := [102, 108, 111, 119, 32, 51, 10, 114, 111, 117, 116, 101, 32, 48, 32, 49, 32, 50, 10, 98, 111, 117, 110, 100, 32, 53, 32, 48, 10, 115, 108, 111, 116, 115, 32, 48, 32, 50, 32, 51, 32, 52, 10]
theorem YbI : OQ [exK] = QU := by
  have h0 : Lib.itoa 0 = [48] := J0 (by omega)
  have h1 : Lib.itoa 1 = [49] := J0 (by omega)
  have h2 : Lib.itoa 2 = [50] := J0 (by omega)
  have h3 : Lib.itoa 3 = [51] := J0 (by omega)
  have h4 : Lib.itoa 4 = [52] := J0 (by omega)
  have h5 : Lib.itoa 5 = [53] := J0 (by omega)
  unfold OQ Zw exK
  simp only [List.flatMap_cons, List.flatMap_nil, List.length_cons, List.length_nil, show List.range (0 + 1) = [0] from rfl]
  unfold Yex YM rtAt
  simp [h0, h1, h2, h3, h4, h5, QU, wordF, wordR, wordB, wordL]
set_option maxRecDepth 10000 in
set_option maxHeartbeats 4000000 in
theorem YeM {B : Nat} {w0 : World} {H : List HP} {w : World} (ht : TabsB B w0) (hw : St B w0 H w) :
    Calls Tryz.prog 17 [].toArray w (Post B w0 fun v K => v = .bool true ∧ K = H) := by
  refine Yc Tryz.func17 Tryz.ntmps17 rfl rfl hw ?_
  have hpr : Uk [exK] = (QU, 0) := by unfold Uk; rw [YbH, if_neg (by decide), YbI]
  have hpa : W7 QU = ([exK], (-1, 0)) := by rw [← YbI]; exact YcR YbH
  repeat' (first | apply (zs2 ?_) | apply (zs65 ?_) | apply (zs68 ?_) | apply (zs69 ?_) | apply (zs70 ?_) | fail)
  apply Yo _ en65
  exact za
  exact rfl
  exact fun _ hw => (Yfd (hw))
  rintro _ K0 ⟨n, A, cap, q, s, rfl, hn, hq, hs, hin, hqin, hrs, hback⟩
  have hsl : s.cells.length ≤ 1000000000000 := by
    have h1 : s.sch.cells.length = 5 := by rw [hs]; rfl
    have h2 : s.cells.length = 5 := h1
    omega
  have p1 : ∀ {H' : List HP} {w : World}, n.In B w0 H' → QIn B w0 H' A q → Rd B w0 H' s.A (s.cells.flatMap celF) → St B w0 H' w → Calls Tryz.prog 19 [n.val, .slice A q.length cap, s.val].toArray w (Post B w0 (OutC H' ([exK], (-1, 0)))) := fun hin hqin hrs hw => by
    have h := W4 n q s (cap := cap) ht hin hqin hrs hsl hw
    rw [hn, hq, hs, Ygj] at h
    exact h
  have hchk : chkE exN8 exQ exZ [exK] = (-1, 0) := by unfold chkE; rw [Ygj]; decide
  unfold NetM.val SchM.val
  unfold NetM.val SchM.val at p1
  repeat' (first | apply (zs1 ?_) | apply (zs2 ?_) | (apply zg3; refine zs8 ?_) | apply (zs13 ?_) | (apply zg22; refine zs51 ?_) | (apply zg24; (refine zs54 ?_; intro _)) | apply (zs65 ?_) | apply (zs68 ?_) | apply (zs69 ?_) | apply (zs70 ?_) | fail)
  apply Yo _ en19
  exact za
  exact rfl
  exact fun _ hw => (p1 (hin.mono zk) (hqin.mono zk) (hrs.mono zk) (hw))
  rintro _ _ ⟨A2, cap2, C, rfl, hC, hCl, rfl⟩
  have hC : C.map ClM.clm = [exK] := hC
  have hCn : C.length = 1 := by have := congrArg List.length hC; rwa [List.length_map] at this
  have hcin : ∀ {H' : List HP}, clsP A2 cap2 C ∈ H' → many (C.map clQ) ∈ H' → CIn B w0 H' A2 C := fun h1 h2 => ⟨.sl h1, fun x hx => W6 h2 hx (hCl x hx), by omega⟩
  have p2 : ∀ {H' : List HP} {w : World}, CIn B w0 H' A2 C → St B w0 H' w → Calls Tryz.prog 25 [.slice A2 C.length cap2].toArray w (Post B w0 fun v K => v = .tuple #[strV QU, .int .i64 0] ∧ K = H') := fun hc hw => by
    have h := YdS C (cap := cap2) ht hc hw
    rw [hC, hpr] at h
    exact h
  have p3 : ∀ {H' : List HP} {w : World}, n.In B w0 H' → QIn B w0 H' A q → Rd B w0 H' s.A (s.cells.flatMap celF) → CIn B w0 H' A2 C → St B w0 H' w → Calls Tryz.prog 23 [n.val, .slice A q.length cap, s.val, .slice A2 C.length cap2].toArray w (Post B w0 fun v K => v = .tuple #[.int .i64 (-1), .int .i64 0] ∧ K = H') := fun hin hqin hrs hc hw => by
    have h := Ycx n q s C (cap := cap) (cap1 := cap2) ht hin hqin hrs hsl hc hw
    rw [hn, hq, hs, hC, hchk] at h
    exact h
  have p4 : ∀ {H' : List HP} {w : World}, St B w0 H' w → Calls Tryz.prog 27 [strV QU].toArray w (Post B w0 (OutC H' ([exK], (-1, 0)))) := fun hw => by
    have h := YdR QU (by decide) ht hw
    rw [hpa] at h
    exact h
  have p5 : ∀ {H' : List HP} {w : World}, CIn B w0 H' A2 C → St B w0 H' w → Calls Tryz.prog 37 [.slice A2 C.length cap2, .int .i64 3].toArray w (Post B w0 fun v K => v = .tuple #[.int .i64 5, .bool true] ∧ K = H') := fun hc hw => by
    have h := YdE C 3 (cap := cap2) hc hw
    rw [hC, YiA] at h
    exact h
  unfold NetM.val SchM.val at p3
  repeat' (first | apply (zs1 ?_) | apply (zs2 ?_) | apply (zs13 ?_) | apply (zs65 ?_) | apply (zs68 ?_) | apply (zs69 ?_) | apply (zs70 ?_) | fail)
  first | apply Ya en25 | apply Yb en25
  exact za
  exact rfl
  exact fun _ hw => (p2 (hcin zm zm) hw)
  repeat' (first | apply (zs1 ?_) | apply (zs2 ?_) | (apply zg3; refine zs8 ?_) | apply (zs13 ?_) | apply (zs65 ?_) | apply (zs68 ?_) | apply (zs69 ?_) | apply (zs70 ?_) | fail)
  first | apply Ya en23 | apply Yb en23
  exact za
  exact rfl
  exact fun _ hw => (p3 (hin.mono zk) (hqin.mono zk) (hrs.mono zk) (hcin zm zm) hw)
  repeat' (first | apply (zs1 ?_) | apply (zs2 ?_) | apply (zs13 ?_) | apply (zs65 ?_) | apply (zs68 ?_) | apply (zs69 ?_) | apply (zs70 ?_) | fail)
  apply Yo _ en27
  exact za
  exact rfl
  exact fun _ hw => (p4 (hw))
  rintro _ _ ⟨A3, cap3, C3, rfl, hC3, hCl3, rfl⟩
  have hC3 : C3.map ClM.clm = [exK] := hC3
  have hCn3 : C3.length = 1 := by have := congrArg List.length hC3; rwa [List.length_map] at this
  have hcin3 : ∀ {H' : List HP}, clsP A3 cap3 C3 ∈ H' → many (C3.map clQ) ∈ H' → CIn B w0 H' A3 C3 := fun h1 h2 => ⟨.sl h1, fun x hx => W6 h2 hx (hCl3 x hx), by omega⟩
  have p6 : ∀ {H' : List HP} {w : World}, CIn B w0 H' A2 C → CIn B w0 H' A3 C3 → St B w0 H' w → Calls Tryz.prog 21 [.slice A2 C.length cap2, .slice A3 C3.length cap3].toArray w (Post B w0 fun v K => v = .bool true ∧ K = H') := fun hc hd hw => by
    have h := YaB C C3 (cap := cap2) (cap2 := cap3) hc hd hw
    rw [hC, hC3, decide_eq_true rfl] at h
    exact h
  dsimp only
  repeat' (first | apply (zs1 ?_) | apply (zs2 ?_) | apply (zs13 ?_) | apply (zs65 ?_) | apply (zs68 ?_) | apply (zs69 ?_) | apply (zs70 ?_) | fail)
  first | apply Ya en37 | apply Yb en37
  exact za
  exact rfl
  exact fun _ hw => (p5 (hcin zm zm) hw)
  repeat' (first | (apply YjG; exact rfl; exact rfl; exact rfl; all_goals (intro hE; try (exact absurd rfl hE))) | apply (zs1 ?_) | apply (zs2 ?_) | (apply zg1; refine zs4 ?_) | (apply zg6; refine zs11 ?_) | apply (zs13 ?_) | (apply zg7; (refine zs15 ?_ ?_ <;> intro _ <;> try (exfalso; omega))) | apply (zs65 ?_) | apply (zs68 ?_) | apply (zs69 ?_) | apply (zs70 ?_) | fail)
  first | apply Ya en21 | apply Yb en21
  exact za
  exact rfl
  exact fun _ hw => (p6 (hcin zm zm) (hcin3 zm zm) hw)
  repeat' (first | apply (zs1 ?_) | apply (zs2 ?_) | (apply zg1; refine zs4 ?_) | (apply zg6; refine zs11 ?_) | (apply zg7; (refine zs15 ?_ ?_ <;> intro _ <;> try (exfalso; omega))) | apply (zs65 ?_) | apply (zs68 ?_) | apply (zs74 ?_) | fail)
  apply Yi H
  · intro w hw
    refine hback w ?_
    revert w
    exact zk
  apply Yd; exact rfl; exact rfl
  exact ⟨rfl, rfl⟩
open Go.RowKit Go.Eng Go.Nw Go.Rt
theorem Ylc {r : List Int} (h : r.Nodup) {i : Nat} (hi : i < r.length) : Yn (fun y => decide (r.getD i 0 = y)) r 0 = (i : Nat) := by
  have h1 : r[i]? = some (r.getD i 0) := by rw [List.getD_eq_getElem?_getD, List.getElem?_eq_getElem hi]; rfl
  have h0 := @U0 _ (fun y => decide (r.getD i 0 = y)) r 0 i _ h1 (decide_eq_true rfl) (fun j b hj hb => by
    obtain ⟨h2, rfl⟩ := List.getElem?_eq_some_iff.1 hb
    refine decide_eq_false fun e => ?_
    rw [List.getD_eq_getElem?_getD, List.getElem?_eq_getElem hi] at e
    exact List.pairwise_iff_getElem.1 h j i h2 hi hj e.symm)
  rw [h0]; omega
theorem Yhe {n : Net} {r : List Int} {i : Nat} (h : Xa n (r.getD i 0) (r.getD (i + 1) 0) = true) (id k : Int) : OJ n [id, k, r.getD i 0, r.getD (i + 1) 0] = some (X0 n r i).2.2 := by
  show (if 0 ≤ YB n (r.getD i 0) (r.getD (i + 1) 0) then some (lnk n (YB n (r.getD i 0) (r.getD (i + 1) 0)).toNat).2.2 else none) = _
  rw [if_pos (Uy h)]; rfl
theorem Yhh {n : Net} {a b : Int} {r : List Int} (hr : XQ n a b r = 0) {atts : List AttM} {out : List BrM} (hbr : ∀ (k : KL) b, OJ n k = some b → brO b (osK atts k) 0 = true → ∃ x ∈ out, [x.f, x.k, x.u, x.v] = k) {id k : Int} (hno : out.any (onBr id k r) = false) :
    ∀ x ∈ YA n r, brO x.2.2 ((keyL atts id k x.1 x.2.1).map AttM.o) 0 = false := by
  intro x hx
  obtain ⟨-, -, -, hnd, hk⟩ := OI hr
  obtain ⟨-, -, hg⟩ := Vd hr
  unfold YA at hx
  obtain ⟨i, hi, rfl⟩ := List.mem_map.1 hx
  have hi := List.mem_range.1 hi
  have hi2 : i + 1 < r.length := by omega
  obtain ⟨k1, k2⟩ := hk i hi2
  rw [k1, k2, ← YiW]
  cases hb : brO (X0 n r i).2.2 (osK atts [id, k, r.getD i 0, r.getD (i + 1) 0]) 0 with
  | false => rfl
  | true =>
    obtain ⟨y, hy, e⟩ := hbr _ _ (Yhe (hg i hi2) id k) hb
    obtain ⟨e1, e⟩ := List.cons.inj e
    obtain ⟨e2, e⟩ := List.cons.inj e
    obtain ⟨e3, e⟩ := List.cons.inj e
    obtain ⟨e4, -⟩ := List.cons.inj e
    exfalso
    apply List.any_eq_false.1 hno y hy
    refine decide_eq_true ?_
    rw [e3, e4, Ylc hnd (by omega), Int.toNat_natCast]
    exact ⟨e1, e2, by omega, hi2, rfl⟩
theorem Ykf {l : List Flw} {s : Sch} {n : Int} {j : Nat} {p : PlM} (h : Pl l s n j p) : 0 ≤ n ∧ ∀ d ∈ p.dels, 0 ≤ d.2.2 := by
  induction h with
  | start => exact ⟨Int.le_refl _, fun d hd => by cases hd⟩
  | rel st h _ _ ih => exact ih
  | skip h _ _ ih => exact ih
  | att o h _ _ _ _ _ ih =>
    refine ⟨ih.1, fun d hd => ?_⟩
    rcases List.mem_append.1 hd with hd | hd
    · exact ih.2 d hd
    · unfold delS at hd
      split at hd
      · rw [List.mem_singleton.1 hd]; exact ih.1
      · cases hd
  | next ds h hp ih => exact ⟨by have := ih.1; omega, fun d hd => ih.2 d (hp.mem_iff.1 hd)⟩
theorem Yfo {n : Net} {s : Sch} {l : List Flw} {sl : Int} {st : List StM} {atts : List AttM} {dels : List (Int × Int × Int)} {out : List BrM} (hpl : Pl l s sl 0 ⟨st, atts, dels⟩) (hf32 : (YO 32 l).2 = 0) {f : Flw} (hf : f ∈ l) (hl : 1 ≤ s.len) {r : List Int} (hr : (YP n s f r).2 = 0) (hdl : (YP n s f r).1.1 ≤ f.2.2.2.2.2)
    (hbr : ∀ (k : KL) b, OJ n k = some b → brO b (osK atts k) 0 = true → ∃ x ∈ out, [x.f, x.k, x.u, x.v] = k) {k : Int} (hk : k ∈ frsL f 0 (max 0 (sl - f.2.2.2.1 + 1))) (hno : out.any (onBr f.1 k r) = false) :
    ∃ t, delT dels f.1 k = some t ∧ 0 ≤ t ∧ t - Yx f k + 1 ≤ (YP n s f r).1.1 := by
  obtain ⟨hw, b, hb, he⟩ := WA hr
  obtain ⟨hc, hfm, -, hmod, hck⟩ := Yc4 hw
  obtain ⟨hg, hid⟩ := UX hf32
  have hfx := hg f hf
  obtain ⟨h1, h2, -, h4⟩ := Xm hfx
  obtain ⟨hk0, hk1⟩ := Ygl hfx (by omega) hk
  have hfk : 0 ≤ Yx f k := by
    have := Int.mul_nonneg hk0 (show 0 ≤ perF f by unfold perF; omega)
    unfold Yx phaF
    omega
  rw [he] at hdl ⊢
  dsimp only at hdl ⊢
  obtain ⟨hch, hloss, hne, -, -⟩ := OI hck
  obtain ⟨t, ht, htl, hun⟩ := Yg8 (fun f hf => YjV (hg f hf)) hid hpl hf hfm hl (by unfold phaF perF; omega) hmod hne hch hloss (b := b) hb hk0 (by omega) (Yhh hck hbr hno)
  refine ⟨t, ?_, (Ykf hpl).2 _ ht, htl⟩
  unfold delT
  cases hfi : dels.find? (Wn f.1 k) with
  | none => exact absurd (show Wn f.1 k (f.1, k, t) = true from decide_eq_true ⟨rfl, rfl⟩) (by have := List.find?_eq_none.1 hfi _ ht; exact this)
  | some d =>
    have h6 : Wn f.1 k d = true := List.find?_some hfi
    have h5 := of_decide_eq_true (show decide (d.1 = f.1 ∧ d.2.1 = k) = true from h6)
    have := hun d (List.mem_of_find?_eq_some hfi) h5.1 h5.2
    rw [Option.map_some, this]
theorem YdL {n : Net} {s : Sch} {q : List Rqs} (h : (Zt n q s).2.2 = 0) {x : Rqs} (hx : x ∈ q) {r : List Int} (hr : r ∈ x.2) : (YP n s x.1 r).2 = 0 ∧ (YP n s x.1 r).1.1 ≤ x.1.2.2.2.2.2 := by
  have hw := (YdI.1 h).2 x hx
  unfold Ycd at hw
  rw [Bool.and_eq_true] at hw
  have hl := hw.2
  simp only [Bool.not_eq_true'] at hl
  exact Ygp hl hr
open Go.RowKit Go.Eng Go.Nw Go.Rt
section
variable {P : Program} {n : Shp} {B : Nat} {w0 : World} {Q : Exit → Act → World → Prop} {env : Env} {H : List HP} {m : Eng.Mode} {ops : Array Oper} {rest : List Oper} {d : Nat} {ty : TypeId} {pos : String} {after : Array Edge}
theorem YjC {x y : Operand} {k : IntKind} {a b : Int} {tys : Array TypeId} (hx : evo env x = some (.int k a)) (hy : evo env y = some (.int k b)) (hn : Nat.ble (d + 1) n.k = true) (ha : 0 ≤ a) (hb : 0 ≤ b) (h : ∀ z, 0 ≤ z → z ≤ b → VL P m n B w0 ops Q rest ((d, .int k z) :: env) H) :
    VL P m n B w0 ops Q (⟨some d, .call ⟨.builtin .min, #[x, y], tys⟩, ty, pos, after, none⟩ :: rest) env H :=
  YfW hx hy hn (fun _ => h _ (by omega) (by omega)) (fun _ => h _ (by omega) (by omega))
theorem YjB {x y : Operand} {k : IntKind} {a b : Int} {tys : Array TypeId} (hx : evo env x = some (.int k a)) (hy : evo env y = some (.int k b)) (hn : Nat.ble (d + 1) n.k = true) (h : VL P m n B w0 ops Q rest ((d, .int k (max a b)) :: env) H) :
    VL P m n B w0 ops Q (⟨some d, .call ⟨.builtin .max, #[x, y], tys⟩, ty, pos, after, none⟩ :: rest) env H :=
  YfV hx hy hn (fun hlt => by rw [show max a b = b by omega] at h; exact h) (fun hge => by rw [show max a b = a by omega] at h; exact h)
end
set_option maxRecDepth 10000 in
set_option maxHeartbeats 4000000 in
theorem Yld (n : NetM) (q : List RqM) (s : SchM) (xs : List RuM) {A xA : Option Addr} {cap xc B : Nat} {w0 : World} {H : List HP} {w : World} (ht : TabsB B w0) (hin : n.In B w0 H) (hqb : QBg B w0 H A q) (hrs : Rd B w0 H s.A (s.cells.flatMap celF)) (hsl : s.cells.length ≤ 9223372036854775807) (hx : XIn B w0 H xA xs) (hxl : xs.length ≤ 9223372036854775807) (hw : St B w0 H w) :
    Calls Tryz.prog 10 [n.val, .slice A q.length cap, s.val, .slice xA xs.length xc].toArray w (Post B w0 fun v K => v = .bool true ∧ K = H) := by
  refine Yc Tryz.func10 Tryz.ntmps10 rfl rfl hw ?_
  have hop : ∀ w, St B w0 [many H] w → St B w0 H w := fun w hw => hw.perm (.openT H)
  have hin := hin.mono hop
  have hqb := hqb.mono hop
  have hrs := hrs.mono hop
  have hx := hx.mono hop
  refine VR [many H] (fun w hw => hw.perm (.closeT H)) ?_
  have p0 := fun {H' : List HP} {w : World} (hin : n.In B w0 H') (hqb : QBg B w0 H' A q) (hw : St B w0 H' w) => Yfg n q s (cap := cap) hin hqb hsl hw
  unfold NetM.val SchM.val
  unfold NetM.val SchM.val at p0
  repeat' (first | apply (zs2 ?_) | (apply zg23; (refine zs52 ?_; intro _)) | apply (zs65 ?_) | apply (zs68 ?_) | apply (zs69 ?_) | apply (zs70 ?_) | fail)
  rename_i gn gs
  first | apply Ya en17 | apply Yb en17
  exact za
  exact rfl
  exact fun _ hw => (YeM ht hw)
  repeat' (first | apply (zs1 ?_) | (apply zg3; refine zs8 ?_) | (apply zg20; refine zs47 ?_) | apply (zs65 ?_) | apply (zs68 ?_) | apply (zs69 ?_) | apply (zs70 ?_) | (apply zg27; refine zs72 ?_) | apply (zs76 ?_) | fail)
  apply Yo _ en18
  exact za
  exact rfl
  exact fun _ hw => (p0 (hin.mono zk) (hqb.mono zk) (hw))
  rintro _ _ ⟨⟨b, rfl, hfew⟩, hK0⟩
  rw [hK0]
  cases b with
  | false =>
    repeat' (first | apply (zs1 ?_) | apply (zs2 ?_) | (apply zg1; refine zs3 ?_) | (apply zg6; refine zs11 ?_) | (apply zg20; refine zs48 ?_) | apply (zs65 ?_) | apply (zs68 ?_) | apply (zs69 ?_) | apply (zs70 ?_) | (apply zg27; refine zs71 ?_) | apply (zs74 ?_) | apply (zs77 ?_) | fail)
    apply Yi H
    · intro w hw
      have h5 : St B w0 [many H] w := by
        revert w
        exact zk
      exact hop w h5
    apply Yd; exact rfl; exact rfl; exact ⟨rfl, rfl⟩
  | true =>
  have hfew := hfew rfl
  by_cases hc24 : 24 < s.cells.length
  · repeat' (first | apply (zs1 ?_) | apply (zs2 ?_) | (apply zg1; first | refine zs3 ?_ | refine zs4 ?_) | (apply zg2; refine zs6 ?_) | (apply zg3; refine zs7 ?_) | (apply zg4; refine zs9 ?_) | (apply zg6; first | refine zs11 ?_ | refine zs12 ?_) | (apply (zs19 ?_ ?_) <;> intro _ <;> try (exfalso; omega)) | (apply zg20; refine zs47 ?_) | apply (zs65 ?_) | apply (zs68 ?_) | apply (zs69 ?_) | apply (zs70 ?_) | (apply zg27; refine zs71 ?_) | apply (zs74 ?_) | apply (zs77 ?_) | fail)
    apply Yi H
    · intro w hw
      have h5 : St B w0 [many H] w := by
        revert w
        exact zk
      exact hop w h5
    apply Yd; exact rfl; exact rfl; exact ⟨rfl, rfl⟩
  by_cases hx40 : 40 < xs.length
  · repeat' (first | apply (zs1 ?_) | apply (zs2 ?_) | (apply zg1; refine zs4 ?_) | (apply zg2; refine zs6 ?_) | (apply zg3; refine zs7 ?_) | (apply zg4; refine zs9 ?_) | (apply zg6; refine zs12 ?_) | (apply (zs19 ?_ ?_) <;> intro _ <;> try (exfalso; omega)) | (apply zg20; refine zs47 ?_) | apply (zs65 ?_) | apply (zs68 ?_) | apply (zs69 ?_) | apply (zs70 ?_) | (apply zg27; refine zs71 ?_) | apply (zs74 ?_) | apply (zs77 ?_) | fail)
    apply Yi H
    · intro w hw
      have h5 : St B w0 [many H] w := by
        revert w
        exact zk
      exact hop w h5
    apply Yd; exact rfl; exact rfl; exact ⟨rfl, rfl⟩
  have hq := hqb.small hfew
  have hsl2 : s.cells.length ≤ 1000000000000 := by omega
  have hq4 := hfew.1
  have p1 := fun {H' : List HP} {w : World} (hin : n.In B w0 H') (hq : QIn B w0 H' A q) (hrs : Rd B w0 H' s.A (s.cells.flatMap celF)) (hw : St B w0 H' w) => W4 n q s (cap := cap) ht hin hq hrs hsl2 hw
  unfold OutC NetM.val SchM.val at p1
  obtain ⟨⟨RC, ri, re⟩, hR⟩ : ∃ R, Zt n.net (q.map RqM.rq) s.sch = R := ⟨_, rfl⟩
  rw [hR] at p1
  dsimp only at p1
  repeat' (first | apply (zs1 ?_) | (apply zg1; refine zs4 ?_) | (apply zg2; refine zs6 ?_) | (apply zg3; first | refine zs7 ?_ | refine zs8 ?_) | (apply zg4; refine zs9 ?_) | (apply zg6; refine zs12 ?_) | (apply (zs19 ?_ ?_) <;> intro _ <;> try (exfalso; omega)) | (apply zg20; refine zs47 ?_) | apply (zs65 ?_) | apply (zs68 ?_) | apply (zs69 ?_) | apply (zs70 ?_) | (apply zg27; refine zs72 ?_) | apply (zs76 ?_) | fail)
  apply Yo _ en19
  exact za
  exact rfl
  exact fun _ hw => (p1 (hin.mono zk) (hq.mono zk) (hrs.mono zk) (hw))
  rintro _ _ ⟨A2, cap2, C, rfl, hC, hCl, rfl⟩
  by_cases hre : re = 0
  rotate_left
  · repeat' (first | apply (zs1 ?_) | apply (zs2 ?_) | apply (zs13 ?_) | (apply zg8; (refine zs16 ?_ ?_ <;> intro _ <;> try (exfalso; omega))) | apply (zs65 ?_) | apply (zs68 ?_) | apply (zs69 ?_) | apply (zs70 ?_) | (apply zg27; refine zs71 ?_) | apply (zs74 ?_) | apply (zs77 ?_) | fail)
    apply Yi H
    · intro w hw
      have h5 : St B w0 [many H] w := by
        revert w
        exact zk
      exact hop w h5
    apply Yd; exact rfl; exact rfl; exact ⟨rfl, rfl⟩
  subst hre
  have hce := YjS (n := n.net) (q := q.map RqM.rq) (s := s.sch) (by rw [hR])
  have hsch := (YdI.1 (show (Zt n.net (q.map RqM.rq) s.sch).2.2 = 0 by rw [hR])).1
  obtain ⟨hnc, hfl, hsz, hmod, -⟩ := WK (Yc3.1 hsch).whole
  have hsb : 1 ≤ s.len ∧ s.len ≤ 512 := by
    unfold ZZ at hsz
    have := of_decide_eq_true hsz
    exact ⟨this.1, this.2.1⟩
  have pf := fun {H' : List HP} {w : World} (hq : QIn B w0 H' A q) (hw : St B w0 H' w) => Yew q (cap := cap) (by omega) hq.rd hw
  have hfll : (RqM.fl q).length = q.length := by unfold RqM.fl; rw [List.length_map]
  have pp := fun (sl : Int) (A4 : Option Addr) (cap4 : Nat) {H' : List HP} {w : World} (hr : Rd B w0 H' A4 ((RqM.fl q).flatMap flwF)) (hs : Rd B w0 H' s.A (s.cells.flatMap celF)) (hx : XIn B w0 H' xA xs) (hw : St B w0 H' w) => Yfx (PlC.mk A4 cap4 (RqM.fl q) s xA xc xs) sl (by dsimp only; omega) (by dsimp only; omega) (by dsimp only; omega) ht hr hs hx hw
  unfold SchM.val at pp
  dsimp only at pp
  repeat' (first | (apply YjC; exact rfl; exact rfl; exact rfl; omega; omega; intro sl hs0 hs1) | apply (zs1 ?_) | apply (zs2 ?_) | (apply zg2; refine zs6 ?_) | (apply zg3; refine zs7 ?_) | apply (zs13 ?_) | (apply zg8; (refine zs16 ?_ ?_ <;> intro _ <;> try (exfalso; omega))) | (apply zg15; refine zs32 ?_) | apply (zs65 ?_) | apply (zs68 ?_) | apply (zs69 ?_) | apply (zs70 ?_) | (apply zg27; refine zs72 ?_) | apply (zs76 ?_) | fail)
  refine Zb (fun (z : {z : (Option Addr × Nat) × Nat × (Option Addr × Nat × List AttM) × (Option Addr × Nat × List (Int × Int × Int)) × Int // YhT (PlC.mk z.1.1 z.1.2 (RqM.fl q) s xA xc xs) sl z.2.2.1.2.2 z.2.2.2.1.2.2 z.2.2.2.2}) => [(14, .int .i64 z.1.2.2.2.2), (13, .pointer (some ⟨z.1.2.1, 0, none⟩)), (12, .int .i64 sl), (11, .int .i64 0), (9, .slice A2 C.length cap2), (8, .bool false), (6, .pointer (some ⟨gs, 0, none⟩)), (4, .pointer (some ⟨gn, 0, none⟩)), (1, .slice A q.length cap), (3, .slice xA xs.length xc)])
    (fun z => blk z.1.2.1 (.cells #[.slice z.1.2.2.1.1 z.1.2.2.1.2.2.length z.1.2.2.1.2.1, .slice z.1.2.2.2.1.1 z.1.2.2.2.1.2.2.length z.1.2.2.2.1.2.1] 84 (0, 0)) :: plT z.1.2.2.1.1 z.1.2.2.1.2.1 z.1.2.2.1.2.2 :: plD z.1.2.2.2.1.1 z.1.2.2.2.1.2.1 z.1.2.2.2.1.2.2 :: clsP A2 cap2 C :: many (C.map clQ) :: blk gn (.cells #[.int .i64 n.nodes, .slice n.pA n.rows.length n.pcap, .int .i64 n.noise, .int .i64 n.thr, .slice n.lA n.links.length n.lcap, .slice n.mA n.margin.length n.mcap] 26 (0, 0)) :: [many H]) ?_ ?_
  · intro K2 hK2
    apply Us (.n1 0 (.n1 2 (.n1 3 (.n1 4 (.n2 1 (.n2 5 (.n1 6 (.n1 7 (.n1 8 (.n1 9 (.n1 10 (.n1 11 .done)))))) 9 (.n1 5 (.n1 6 (.n1 7 (.n1 8 (.n1 10 (.n1 11 .done))))))) 9 (.n1 1 (.n1 5 (.n1 6 (.n1 7 (.n1 8 (.n1 10 (.n1 11 .done)))))))))))) [] [true, true, true, true, true]
    kernel_rfl
    kernel_rfl
    exact zy
    exact rfl
    repeat' (first | apply (zs1 ?_) | (apply zg3; refine zs8 ?_) | (apply zg24; (refine zs54 ?_; intro _)) | apply (zs65 ?_) | (apply Ys; exact zp) | apply (zs87 ?_) | (apply Yk; (repeat (first | with_reducible exact Yh | (with_reducible apply Yg; (repeat (first | with_reducible exact Yf | with_reducible apply Ye)))))) | apply (zs90 ?_) | apply (zs91 ?_ ?_) | (apply Y9; (repeat (first | with_reducible exact Yh | (with_reducible apply Yg; (repeat (first | with_reducible exact Yf | with_reducible apply Ye)))))) | fail)
    · skip
      apply Yo _ en32
      exact za
      exact rfl
      exact fun _ hw => (pf (hq.mono zk) (hw))
      rintro _ _ ⟨A4, cap4, rfl, rfl⟩
      repeat' (first | (apply zg24; (refine zs54 ?_; intro _)) | apply (zs65 ?_) | (apply Ys; exact zp) | apply (zs87 ?_) | (apply Yk; (repeat (first | with_reducible exact Yh | (with_reducible apply Yg; (repeat (first | with_reducible exact Yf | with_reducible apply Ye)))))) | apply (zs90 ?_) | apply (zs91 ?_ ?_) | (apply Y9; (repeat (first | with_reducible exact Yh | (with_reducible apply Yg; (repeat (first | with_reducible exact Yf | with_reducible apply Ye)))))) | fail)
      · skip
        apply Yo _ en38
        exact za
        exact rfl
        exact fun _ hw => (pp sl A4 cap4 (.sl zm) (hrs.mono zk) (hx.mono zk) (hw))
        rintro _ _ ⟨tA, tc, atts, dA, dc, dels, e, rfl, hok, rfl⟩
        repeat' (first | apply (zs1 ?_) | apply (zs2 ?_) | apply (zs13 ?_) | (apply zg22; refine zs51 ?_) | (apply zg24; (refine zs54 ?_; intro _)) | apply (zs65 ?_) | (apply Ys; exact zp) | apply (zs87 ?_) | (apply Yk; (repeat (first | with_reducible exact Yh | (with_reducible apply Yg; (repeat (first | with_reducible exact Yf | with_reducible apply Ye)))))) | (apply Va; exact zp) | apply (zs90 ?_) | (apply Y9; (repeat (first | with_reducible exact Yh | (with_reducible apply Yg; (repeat (first | with_reducible exact Yf | with_reducible apply Ye)))))) | apply (zs93 ?_) | apply (zs94 ?_) | fail)
        rename_i g13
        apply hK2 ⟨((A4, cap4), g13, (tA, tc, atts), (dA, dc, dels), e), hok⟩
        · exact zu
        · exact zk
      · rename_i g13
        apply Yo _ en38
        exact za
        exact rfl
        exact fun _ hw => (pp sl A4 cap4 (.sl zm) (hrs.mono zk) (hx.mono zk) (hw))
        rintro _ _ ⟨tA, tc, atts, dA, dc, dels, e, rfl, hok, rfl⟩
        repeat' (first | apply (zs1 ?_) | apply (zs2 ?_) | apply (zs13 ?_) | (apply zg22; refine zs51 ?_) | apply (zs65 ?_) | (apply Ys; exact zp) | apply (zs87 ?_) | (apply Yk; (repeat (first | with_reducible exact Yh | (with_reducible apply Yg; (repeat (first | with_reducible exact Yf | with_reducible apply Ye)))))) | (apply Va; exact zp) | apply (zs90 ?_) | (apply Y9; (repeat (first | with_reducible exact Yh | (with_reducible apply Yg; (repeat (first | with_reducible exact Yf | with_reducible apply Ye)))))) | apply (zs93 ?_) | apply (zs94 ?_) | fail)
        apply hK2 ⟨((A4, cap4), g13, (tA, tc, atts), (dA, dc, dels), e), hok⟩
        · exact zu
        · exact zk
    · rename_i g13
      apply Yo _ en32
      exact za
      exact rfl
      exact fun _ hw => (pf (hq.mono zk) (hw))
      rintro _ _ ⟨A4, cap4, rfl, rfl⟩
      repeat' (first | apply (zs65 ?_) | (apply Ys; exact zp) | apply (zs87 ?_) | (apply Yk; (repeat (first | with_reducible exact Yh | (with_reducible apply Yg; (repeat (first | with_reducible exact Yf | with_reducible apply Ye)))))) | apply (zs90 ?_) | (apply Y9; (repeat (first | with_reducible exact Yh | (with_reducible apply Yg; (repeat (first | with_reducible exact Yf | with_reducible apply Ye)))))) | fail)
      apply Yo _ en38
      exact za
      exact rfl
      exact fun _ hw => (pp sl A4 cap4 (.sl zm) (hrs.mono zk) (hx.mono zk) (hw))
      rintro _ _ ⟨tA, tc, atts, dA, dc, dels, e, rfl, hok, rfl⟩
      repeat' (first | apply (zs1 ?_) | apply (zs2 ?_) | apply (zs13 ?_) | (apply zg22; refine zs51 ?_) | apply (zs65 ?_) | (apply Ys; exact zp) | apply (zs87 ?_) | (apply Yk; (repeat (first | with_reducible exact Yh | (with_reducible apply Yg; (repeat (first | with_reducible exact Yf | with_reducible apply Ye)))))) | (apply Va; exact zp) | apply (zs90 ?_) | (apply Y9; (repeat (first | with_reducible exact Yh | (with_reducible apply Yg; (repeat (first | with_reducible exact Yf | with_reducible apply Ye)))))) | apply (zs93 ?_) | apply (zs94 ?_) | fail)
      apply hK2 ⟨((A4, cap4), g13, (tA, tc, atts), (dA, dc, dels), e), hok⟩
      · exact zu
      · exact zk
  rintro ⟨⟨⟨A4, cap4⟩, g13, ⟨tA, tc, atts⟩, ⟨dA, dc, dels⟩, e⟩, hok⟩
  dsimp only at hok ⊢
  by_cases he : e = 0
  rotate_left
  · repeat' (first | apply (zs1 ?_) | apply (zs2 ?_) | (apply zg1; refine zs3 ?_) | (apply zg6; refine zs11 ?_) | (apply zg8; (refine zs16 ?_ ?_ <;> intro _ <;> try (exfalso; omega))) | apply (zs65 ?_) | apply (zs68 ?_) | apply (zs69 ?_) | apply (zs70 ?_) | (apply zg27; refine zs71 ?_) | apply (zs74 ?_) | apply (zs77 ?_) | fail)
    apply Yi H
    · intro w hw
      have h5 : St B w0 [many H] w := by
        revert w
        exact zk
      exact hop w h5
    apply Yd; exact rfl; exact rfl; exact ⟨rfl, rfl⟩
  obtain ⟨⟨ss, hP⟩, hal, hf32, hfm, -⟩ := hok he
  subst he
  dsimp only at hP hf32 hfm
  have hRC : RC = (q.map RqM.rq).map (clmE n.net s.sch) := by
    rw [hR] at hce
    exact (Prod.mk.inj hce).1
  have hCq : C.length = q.length := by
    have h := congrArg List.length hC
    rw [hRC, List.length_map, List.length_map, List.length_map] at h
    exact h
  have pb := fun {H' : List HP} {w : World} (hin : n.In B w0 H') (hr : Rd B w0 H' tA (atts.flatMap attF)) (hw : St B w0 H' w) => Ya4 n atts hal dA dels.length dc (tc := tc) hin hr hw
  unfold NetM.val at pb
  repeat' (first | apply (zs1 ?_) | (apply zg1; refine zs4 ?_) | (apply zg3; refine zs8 ?_) | (apply zg4; refine zs9 ?_) | (apply zg6; refine zs12 ?_) | (apply zg8; (refine zs16 ?_ ?_ <;> intro _ <;> try (exfalso; omega))) | apply (zs65 ?_) | apply (zs68 ?_) | apply (zs69 ?_) | apply (zs70 ?_) | (apply zg27; refine zs72 ?_) | apply (zs76 ?_) | fail)
  apply Yo _ en39
  exact za
  exact rfl
  exact fun _ hw => (pb (hin.mono zk) (.sl zm) (hw))
  rintro _ _ ⟨out, A5, cap5, rfl, hol, hbr, rfl⟩
  have hbr := hbr hnc
  have hqr := hq.rd
  repeat' (first | apply (zs1 ?_) | apply (zs2 ?_) | (apply zg4; refine zs9 ?_) | apply (zs65 ?_) | apply (zs68 ?_) | apply (zs69 ?_) | apply (zs70 ?_) | apply (zs73 ?_) | fail)
  refine Yl (fun j : Nat => [(87, .int .i64 (j : Nat)), (86, .int .i64 q.length), (85, .slice A q.length cap), (15, .slice A5 out.length cap5), (13, .pointer (some ⟨g13, 0, none⟩)), (12, .int .i64 sl), (9, .slice A2 C.length cap2)])
    (fun _ => brP A5 cap5 out :: blk g13 (.cells #[.slice tA atts.length tc, .slice dA dels.length dc] 84 (0, 0)) :: plT tA tc atts :: plD dA dc dels :: clsP A2 cap2 C :: many (C.map clQ) :: [many H]) (fun j => j ≤ q.length) (fun j => q.length - j) 0 (Nat.zero_le _) ?_ ?_ ?_
  · exact zu
  · exact zk
  rintro j hj K hK
  dsimp only at hj ⊢
  by_cases hlt : j < q.length
  rotate_left
  · clear hK
    repeat' (first | apply (zs2 ?_) | (apply (zs17 ?_ ?_) <;> intro _ <;> try (exfalso; omega)) | apply (zs65 ?_) | apply (zs68 ?_) | apply (zs69 ?_) | apply (zs70 ?_) | (apply zg27; refine zs72 ?_) | apply (zs74 ?_) | apply (zs75 ?_) | apply (zs80 ?_) | apply (zs81 ?_) | fail)
    apply Yi H
    · intro w hw
      have h5 : St B w0 [many H] w := by
        revert w
        exact zk
      exact hop w h5
    apply Yd; exact rfl; exact rfl; exact ⟨rfl, rfl⟩
  obtain ⟨x, hxj⟩ : ∃ x, q[j]? = some x := ⟨_, List.getElem?_eq_getElem hlt⟩
  have hxm : x ∈ q := List.mem_of_getElem? hxj
  have hfx : YW 32 x.f = 0 := (UX hf32).1 x.f (List.mem_map.2 ⟨x, hxm, rfl⟩)
  have hnum := Xm hfx
  obtain ⟨to_, hto⟩ : ∃ t : Int, max 0 (sl - x.f.2.2.2.1 + 1) = t := ⟨_, rfl⟩
  have htb : 0 ≤ to_ ∧ to_ ≤ 1000 := by have := hnum.1; omega
  have hfr0 : frIx x.f 0 ≤ frIx x.f to_ := by
    have h1 := Vi hfx (t := 0) (Int.le_refl _)
    have h2 := Vi hfx (t := to_) htb.1
    omega
  have pfr := fun {H' : List HP} {w : World} (hw : St B w0 H' w) => Yd3 x.f 0 to_ hfx ⟨Int.le_refl _, htb.1⟩ htb.2 hfr0 hw
  rw [← hto] at pfr
  obtain ⟨F, hF⟩ : ∃ F, frsL x.f 0 (max 0 (sl - x.f.2.2.2.1 + 1)) = F := ⟨_, rfl⟩
  rw [hF] at pfr
  have hFl : F.length ≤ 1000 := by
    rw [← hF, hto]
    unfold frsL
    rw [List.length_map, List.length_range]
    have h1 := Vi hfx (t := to_) htb.1
    have h2 := Vi hfx (t := 0) (Int.le_refl _)
    omega
  obtain ⟨y, hyj⟩ : ∃ y, C[j]? = some y := ⟨_, List.getElem?_eq_getElem (by omega)⟩
  have hym : y ∈ C := List.mem_of_getElem? hyj
  have hyc : y.clm = clmE n.net s.sch x.rq := by
    have h1 : (C.map ClM.clm)[j]? = some y.clm := by rw [List.getElem?_map, hyj]; rfl
    rw [hC, hRC, List.getElem?_map, List.getElem?_map, hxj] at h1
    exact (Option.some.inj h1).symm
  have hyb : y.bs = x.rows.map fun r => (YP n.net s.sch x.f r.xs).1.1 := by
    have h1 : y.bs = (x.rows.map (·.xs)).map fun r => (YP n.net s.sch x.f r).1.1 := congrArg Clm.bounds hyc
    rw [h1, List.map_map]; rfl
  have hybl : y.bs.length = x.rows.length := by rw [hyb, List.length_map]
  have hxl2 : x.rows.length ≤ 1000000000000 := (hq.x x hxm).ln
  have hxr := (hq.x x hxm).rt
  have hyr := (W6 (H := [many (C.map clQ), many H]) (B := B) (w0 := w0) (.head _) hym (hCl y hym)).bd
  have hdl9 : dels.length ≤ 1000000000 := by have := hP.dl; omega
  have hrk : ∀ r ∈ x.rows, ((YP n.net s.sch x.f r.xs).1.1 ≤ 512 ∧ r.xs.length ≤ 9) ∧ ∀ k ∈ F, out.any (onBr x.f.1 k r.xs) = false → ∃ t, delT dels x.f.1 k = some t ∧ 0 ≤ t ∧ t - Yx x.f k + 1 ≤ (YP n.net s.sch x.f r.xs).1.1 := fun r hr => by
    have h1 := YdL (n := n.net) (q := q.map RqM.rq) (s := s.sch) (by rw [hR]) (x := x.rq) (List.mem_map_of_mem hxm) (r := r.xs) (List.mem_map.2 ⟨r, hr, rfl⟩)
    have h2 : (YP n.net s.sch x.f r.xs).1.1 ≤ x.f.2.2.2.2.2 := h1.2
    refine ⟨⟨by omega, (Vd (Yc4 (WA h1.1).1).2.2.2.2).2.1.2⟩, fun k hk hno => ?_⟩
    rw [← hF] at hk
    exact Yfo (l := RqM.fl q) (s := s.sch) hP.pl hf32 (List.mem_map.2 ⟨x, hxm, rfl⟩) hsb.1 h1.1 h1.2 hbr hk hno
  unfold flwV at pfr
  repeat' (first | (apply YjB; exact rfl; exact rfl; exact rfl) | (apply YV T; exact rfl; exact zm; exact rfl; exact zv; exact rfl; exact rfl) | apply (zs1 ?_) | apply (zs2 ?_) | (apply zg2; refine zs6 ?_) | (apply zg3; first | refine zs7 ?_ | refine zs61 ?_) | (apply zg5; refine zs57 ?_) | (apply (zs17 ?_ ?_) <;> intro _ <;> try (exfalso; omega)) | (apply zg13; refine zs30 ?_) | (apply zg14; refine zs31 ?_) | (apply zg22; refine zs51 ?_) | (apply zg24; (refine zs54 ?_; intro _)) | apply (zs65 ?_) | apply (zs68 ?_) | apply (zs69 ?_) | apply (zs70 ?_) | (apply zg27; refine zs71 ?_) | apply (zs73 ?_) | apply (zs76 ?_) | fail)
  rename Nat => gq
  apply Yo _ en40
  exact za
  exact rfl
  exact fun _ hw => (pfr (hw))
  rintro _ _ ⟨A6, cap6, rfl, rfl⟩
  repeat' (first | apply (zs1 ?_) | apply (zs2 ?_) | (apply zg1; refine zs4 ?_) | (apply zg2; first | refine zs6 ?_ | refine zs58 ?_) | (apply zg3; first | refine zs7 ?_ | refine zs59 ?_) | (apply zg4; refine zs9 ?_) | (apply zg5; refine zs10 ?_) | (apply zg6; refine zs12 ?_) | apply (zs13 ?_) | (apply zg8; (refine zs16 ?_ ?_ <;> intro _ <;> try (exfalso; omega))) | apply (zs65 ?_) | apply (zs66 ?_) | apply (zs68 ?_) | apply (zs69 ?_) | apply (zs70 ?_) | (apply zg27; refine zs72 ?_) | apply (zs73 ?_) | apply (zs76 ?_) | (apply zg28; refine zs83 ?_) | fail)
  refine Yl (fun i : Nat => [(121, .int .i64 (i : Nat)), (120, .int .i64 F.length), (119, .slice A6 F.length cap6), (17, .pointer (some ⟨gq, 0, none⟩)), (16, .int .i64 (j : Nat)), (87, .int .i64 (j : Nat)), (86, .int .i64 q.length), (85, .slice A q.length cap), (15, .slice A5 out.length cap5), (13, .pointer (some ⟨g13, 0, none⟩)), (12, .int .i64 sl), (9, .slice A2 C.length cap2)])
    (fun _ => rqA gq x :: nrs A6 cap6 F :: brP A5 cap5 out :: blk g13 (.cells #[.slice tA atts.length tc, .slice dA dels.length dc] 84 (0, 0)) :: plT tA tc atts :: plD dA dc dels :: clsP A2 cap2 C :: many (C.map clQ) :: [many H]) (fun i => i ≤ F.length) (fun i => F.length - i) 0 (Nat.zero_le _) ?_ ?_ ?_
  · exact zu
  · exact zk
  rintro i hi K2 hK2
  dsimp only at hi ⊢
  by_cases hlt2 : i < F.length
  rotate_left
  · repeat' (first | apply (zs1 ?_) | (apply (zs17 ?_ ?_) <;> intro _ <;> try (exfalso; omega)) | (apply zg13; refine zs30 ?_) | apply (zs65 ?_) | apply (zs68 ?_) | apply (zs69 ?_) | apply (zs70 ?_) | (apply zg27; refine zs72 ?_) | apply (zs75 ?_) | apply (zs79 ?_) | apply (zs80 ?_) | apply (zs81 ?_) | fail)
    apply hK (j + 1)
    · show j + 1 ≤ _; omega
    · omega
    · exact zu
    · exact zk
  obtain ⟨k, hk⟩ : ∃ k, F[i]? = some k := ⟨_, List.getElem?_eq_getElem hlt2⟩
  have hkm : k ∈ F := List.mem_of_getElem? hk
  have hkb : 0 ≤ k ∧ Yx x.f k < to_ := by
    have h1 := hkm
    rw [← hF, hto] at h1
    exact Ygl hfx htb.1 h1
  have hfb : 0 ≤ Yx x.f k ∧ k ≤ 1000000 := by
    have h1 := Int.mul_le_mul_of_nonneg_left hnum.1.1 hkb.1
    have h2 := hkb.2
    unfold Yx phaF perF at h2 ⊢
    omega
  have pw := fun {H' : List HP} {w : World} (hw : St B w0 H' w) => YeQ x.f k hfx ⟨hkb.1, hfb.2⟩ hw
  unfold flwV at pw
  have pd := fun {H' : List HP} {w : World} (hr : Rd B w0 H' dA (dels.flatMap delF)) (hw : St B w0 H' w) => QQ dels x.f.1 k hdl9 tA atts.length tc (dc := dc) hr hw
  obtain ⟨od, hod⟩ : ∃ o, delT dels x.f.1 k = o := ⟨_, rfl⟩
  rw [hod] at pd
  obtain ⟨fw, hfw⟩ : ∃ o, Yx x.f k = o := ⟨_, rfl⟩
  rw [hfw] at pw hfb hkb
  repeat' (first | (apply YV T; exact rfl; exact zm; exact rfl; exact zv; exact rfl; exact rfl) | (apply zg2; refine zs6 ?_) | (apply zg3; first | refine zs7 ?_ | refine zs60 ?_) | (apply zg5; refine zs10 ?_) | (apply (zs17 ?_ ?_) <;> intro _ <;> try (exfalso; omega)) | (apply zg22; refine zs50 ?_) | (apply zg24; (refine zs54 ?_; intro _)) | apply (zs65 ?_) | apply (zs68 ?_) | apply (zs69 ?_) | apply (zs70 ?_) | (apply zg27; refine zs71 ?_) | apply (zs73 ?_) | apply (zs76 ?_) | fail)
  rename Nat => gk
  first | apply Ya en41 | apply Yb en41
  exact za
  exact rfl
  exact fun _ hw => (pw hw)
  repeat' (first | apply (zs1 ?_) | apply (zs2 ?_) | (apply zg2; refine zs6 ?_) | (apply zg3; first | refine zs7 ?_ | refine zs8 ?_) | apply (zs13 ?_) | apply (zs65 ?_) | apply (zs68 ?_) | apply (zs69 ?_) | apply (zs70 ?_) | fail)
  first | apply Ya en42 | apply Yb en42
  exact za
  exact rfl
  exact fun _ hw => (pd (.sl zm) hw)
  repeat' (first | apply (zs1 ?_) | apply (zs2 ?_) | (apply zg2; refine zs6 ?_) | (apply zg3; refine zs7 ?_) | (apply zg4; refine zs9 ?_) | apply (zs13 ?_) | apply (zs65 ?_) | apply (zs68 ?_) | apply (zs69 ?_) | apply (zs70 ?_) | apply (zs73 ?_) | fail)
  refine Yl (fun m : Nat => [(145, .int .i64 (m : Nat)), (144, .int .i64 x.rows.length), (143, .slice x.A x.rows.length x.cap), (26, .bool od.isSome), (25, .int .i64 (od.getD 0)), (24, .int .i64 0), (22, .int .i64 fw), (21, .pointer (some ⟨gk, 0, none⟩)), (121, .int .i64 (i : Nat)), (120, .int .i64 F.length), (119, .slice A6 F.length cap6), (17, .pointer (some ⟨gq, 0, none⟩)), (16, .int .i64 (j : Nat)), (87, .int .i64 (j : Nat)), (86, .int .i64 q.length), (85, .slice A q.length cap), (15, .slice A5 out.length cap5), (13, .pointer (some ⟨g13, 0, none⟩)), (12, .int .i64 sl), (9, .slice A2 C.length cap2)])
    (fun _ => rqA gq x :: blk gk (.cells #[.int .i64 k] 3 (0, 0)) :: nrs A6 cap6 F :: brP A5 cap5 out :: blk g13 (.cells #[.slice tA atts.length tc, .slice dA dels.length dc] 84 (0, 0)) :: plT tA tc atts :: plD dA dc dels :: clsP A2 cap2 C :: many (C.map clQ) :: [many H]) (fun m => m ≤ x.rows.length) (fun m => x.rows.length - m) 0 (Nat.zero_le _) ?_ ?_ ?_
  · exact zu
  · exact zk
  rintro m hm K3 hK3
  dsimp only at hm ⊢
  by_cases hlt3 : m < x.rows.length
  rotate_left
  · repeat' (first | apply (zs1 ?_) | (apply (zs17 ?_ ?_) <;> intro _ <;> try (exfalso; omega)) | (apply zg13; refine zs30 ?_) | apply (zs65 ?_) | apply (zs68 ?_) | apply (zs69 ?_) | apply (zs70 ?_) | (apply zg27; refine zs72 ?_) | apply (zs75 ?_) | apply (zs79 ?_) | apply (zs80 ?_) | apply (zs81 ?_) | fail)
    apply hK2 (i + 1)
    · show i + 1 ≤ _; omega
    · omega
    · exact zu
    · exact zk
  obtain ⟨r, hr⟩ : ∃ r, x.rows[m]? = some r := ⟨_, List.getElem?_eq_getElem hlt3⟩
  have hrm : r ∈ x.rows := List.mem_of_getElem? hr
  obtain ⟨hbd, hkp⟩ := hrk r hrm
  have hkp := hkp k hkm
  rw [hod, hfw] at hkp
  obtain ⟨bd, hbde⟩ : ∃ b, (YP n.net s.sch x.f r.xs).1.1 = b := ⟨_, rfl⟩
  rw [hbde] at hbd hkp
  have hbs : y.bs[m]? = some bd := by
    rw [hyb, List.getElem?_map, hr, ← hbde]; rfl
  repeat' (first | apply (zs1 ?_) | apply (zs2 ?_) | (apply zg3; refine zs60 ?_) | (apply zg5; refine zs57 ?_) | (apply (zs17 ?_ ?_) <;> intro _ <;> try (exfalso; omega)) | (apply zg22; refine zs50 ?_) | (apply zg24; (refine zs54 ?_; intro _)) | apply (zs65 ?_) | apply (zs68 ?_) | apply (zs69 ?_) | apply (zs70 ?_) | (apply zg27; refine zs71 ?_) | apply (zs73 ?_) | apply (zs76 ?_) | (apply zg29; (apply Yq; exact za ; exact rfl)) | fail)
  rename Nat => gr
  have hrr := (hq.x x hxm).rw_ r hrm
  first | apply Ya en43 | apply Yb en43
  exact za
  exact rfl
  exact fun _ hw => (O4 (onBr x.f.1 k r.xs) out 44 [.pointer (some ⟨gr, 0, none⟩), .pointer (some ⟨gq, 0, none⟩), .pointer (some ⟨gk, 0, none⟩)] en44 (by omega) (.sl zm) (fun a _ w hw => Yfn a k x r gr gq gk (by omega) (hrr.mono zk) hw) hw)
  cases hbk : out.any (onBr x.f.1 k r.xs) with
  | true =>
    repeat' (first | apply (zs1 ?_) | apply (zs2 ?_) | (apply zg1; first | refine zs3 ?_ | refine zs4 ?_) | (apply zg6; refine zs12 ?_) | (apply zg8; (refine zs16 ?_ ?_ <;> intro _ <;> try (exfalso; omega))) | (apply zg13; refine zs30 ?_) | (apply zg20; refine zs47 ?_) | apply (zs65 ?_) | apply (zs68 ?_) | apply (zs69 ?_) | apply (zs70 ?_) | (apply zg27; refine zs72 ?_) | apply (zs76 ?_) | apply (zs79 ?_) | fail)
    apply hK3 (m + 1)
    · show m + 1 ≤ _; omega
    · omega
    · exact zu
    · exact zk
  | false =>
    obtain ⟨t, rfl, ht0, htb2⟩ := hkp hbk
    dsimp only [Option.isSome_some, Option.getD_some]
    repeat' (first | apply (zs1 ?_) | apply (zs2 ?_) | (apply zg1; refine zs4 ?_) | (apply zg2; refine zs58 ?_) | (apply zg3; first | refine zs59 ?_ | refine zs60 ?_) | (apply zg5; first | refine zs10 ?_ | refine zs57 ?_) | (apply zg6; first | refine zs11 ?_ | refine zs12 ?_) | (apply zg8; (refine zs16 ?_ ?_ <;> intro _ <;> try (exfalso; omega))) | (apply (zs19 ?_ ?_) <;> intro _ <;> try (exfalso; omega)) | (apply zg13; refine zs30 ?_) | (apply zg14; refine zs31 ?_) | (apply zg20; first | refine zs47 ?_ | refine zs48 ?_) | apply (zs65 ?_) | apply (zs68 ?_) | apply (zs69 ?_) | apply (zs70 ?_) | (apply zg27; refine zs72 ?_) | apply (zs76 ?_) | apply (zs79 ?_) | fail)
    apply hK3 (m + 1)
    · show m + 1 ≤ _; omega
    · omega
    · exact zu
    · exact zk
open Go.ChangeShapes Go.WideShapes Go.ChangeAt Go.RowKit Go.Eng Go.Nw Go.Rt
section
variable {H : Type} {enc : TypeId × Value → H} {W : World} {spare : Nat → Bool} {held : Bool}
def RuG (W : World) (r : RuM) : Prop := RtG W ⟨r.A, r.cap, r.os⟩
theorem Ykc : Opn enc Tryz.prog W spare held 257 ruF (RuG W) :=
  Vt (ZG (ts := [3, 3, 3, 3, 24]) (by kernel_rfl) (Yz op_i (Yz op_i (Yz op_i (Yz op_i (Yz Yka Vh))))))
    (fun x => ⟨x.1, x.2.1, x.2.2.1, x.2.2.2.1, x.2.2.2.2.1.A, x.2.2.2.2.1.cap, x.2.2.2.2.1.xs⟩) (fun x => by simp [ruF, numF, rowF]) (fun x h => by
      obtain ⟨h1, h2, h3, h4, h5, _⟩ := h
      exact h5)
theorem YiV : Opn enc Tryz.prog W spare held 80 (fun s : SlM RuM => [s.val]) (SlG W ruF (RuG W)) := ZR (q := 5) Tryz.underlying80 (by kernel_rfl) (by decide) Ykc
set_option maxRecDepth 100000 in
theorem YkR {r : Reach} {b0 : Nat} {v : Value} {d : DataW H} {p : List MemPlace} (hv : Value.okWide Tryz.prog W r b0 80 v) (h : DataW.Trod enc Tryz.prog W 0 spare held 80 v d p) : ∃ s : SlM RuM, v = s.val ∧ SlG W ruF (RuG W) s := by
  obtain ⟨a, len, cap, rfl⟩ := okWide_slice Tryz.underlying80 hv
  obtain ⟨fuel, hf⟩ := h
  obtain ⟨n, h1, h2⟩ := YiV fuel _ _ hf
  refine ⟨n, ?_, h2⟩
  injection h1
end
theorem YlA {W : World} {s : SlM RuM} {K : List HP} (h : SlG W ruF (RuG W) s) : XIn W.heap.size W K s.A s.xs :=
  ⟨h.old.rd, fun x hx => ⟨RtG.old (h.good x hx) |>.rd, RtG.len (h.good x hx)⟩⟩
theorem Yll {W : World} {s : SlM RuM} (h : SlG W ruF (RuG W) s) : s.xs.length ≤ 9223372036854775807 := Nat.le_trans h.len maxL
open Go.ChangeShapes Go.WideShapes Go.ChangeAt Go.RowKit Go.Eng
section
variable {H : Type} {enc : TypeId × Value → H}
theorem Ygm {a : Assume} {C : Checked} {os : Os} {f : FuncId} {fn : Func} {s : ChangeSpec} {conds : List PathCond} {apart fresh handsOn again : Bool} {X : World → Prop} (hX : ∀ w w' : World, w.heap = w'.heap → X w → X w')
    (own : ownKnob C.prog.godebug = none) (started : os.Started) (noInit : C.prog.inits.idxOf? f = none) (hfn : C.prog.funcs[f]? = some fn)
    (witness : ∃ (w : World) (tape : Tape) (i : Input), w.os = os ∧ (w.forCall tape i).Shaped C.prog ∧ i.vars = [] ∧ Input.okWide C.prog (w.forCall tape i) .any w.heap.size f i ∧
      ((s.pre enc C.prog fn conds apart (w.forCall tape i).memory i.args ∧ X (w.forCall tape i).memory) ∧ sizedMet enc C.prog fn (OpenSpec.ofChange s) apart (w.forCall tape i).memory i.args) ∧ a.holds C.prog (lone (Frame.enter C.prog f i.args .normal) [] (w.forCall tape i)))
    (contract : ∀ (W : World) (base : Nat) (args : Array Value) (ds gs : List (DataW H)) (before : List MemPlace),
      (∀ (j : Nat) t v, fn.params[j]? = some t → args[j]? = some v → Value.okWide C.prog W .any base t v) →
      DataW.Whole enc C.prog fn.params.toList s.vars apart W args.toList ds gs before → X W → W.ShapedOpen C.prog →
      Calls C.prog f args W fun e W' => ∃ v, e = .returned v ∧ s.post enc C.prog fn apart fresh handsOn again W args v W') :
    ReturnsInHanded a C os f .any (fun w args => (s.pre enc C.prog fn conds apart w args ∧ X w) ∧ sizedMet enc C.prog fn (OpenSpec.ofChange s) apart w args) (s.post enc C.prog fn apart fresh handsOn again) := by
  refine returnsInHanded_of_calls own started noInit witness ?_
  intro w tape i _ hsh _ hok hpre _
  obtain ⟨_, _, _, fn', hfn', _, _, _, _, hval⟩ := hok
  have e : fn' = fn := Option.some.inj (hfn'.symm.trans hfn)
  subst e
  obtain ⟨⟨⟨ds, gs, before, hw, _⟩, hx⟩, _⟩ := hpre
  have hw' := DataW.Whole.of_heap (w' := w.forCall tape i) (by rfl) hw
  refine (contract (w.forCall tape i) w.heap.size i.args ds gs before hval hw' (hX _ _ (by rfl) hx) hsh).mono fun e W' ⟨v, he, hp⟩ => ?_
  subst he
  exact ChangeSpec.post_blind hp
end
def Yah : List (String × DataW Unit) := [("math/bits.deBruijn32tab", Rows.laid_math_bits_deBruijn32tab), ("math/bits.deBruijn64tab", Rows.laid_math_bits_deBruijn64tab), ("internal/strconv.uint64pow10", Rows.laid_internal_strconv_uint64pow10), ("unicode/utf8.acceptRanges", Rows.laid_unicode_utf8_acceptRanges), ("strconv.ErrRange", Rows.laid_strconv_ErrRange), ("strconv.ErrSyntax", Rows.laid_strconv_ErrSyntax), ("unicode/utf8.first", Rows.laid_unicode_utf8_first)]
def litV : DataW Unit → Value
  | .lit (.int k z) => .int k z
  | _ => .bool false
def Ymc : DataW Unit → List Value
  | .agg l => l.map litV
  | _ => []
noncomputable def YbV (os : Os) : World :=
  let w0 := World.doorLaid Tryz.prog 72 os
  { w0 with heap := w0.heap.modify ((Tryz.prog.globalNamed "unicode/utf8.first").getD 0) fun
      | .cells _ t frozen => .cells (Ymc Go.Pinned.utf8First).toArray t frozen
      | o => o }
theorem OF (w : World) : laidMetH Tryz.prog Yah w = laidMet Tryz.prog Yah w := MakeChecks.laidMetH_plain _ _ _ (by kernel_rfl)
theorem Yjt (os : Os) (args : Array Value) : laidMetH Tryz.prog Yah ((YbV os).forCall (fun _ _ => 0) ⟨#[], args, []⟩).memory := by
  rw [OF]
  exact laidMet_of_run3 8 (by kernel_rfl) (by kernel_rfl) (by kernel_rfl)
theorem Yhd (os : Os) (args : Array Value) : ((YbV os).forCall (fun _ _ => 0) ⟨#[], args, []⟩).Shaped Tryz.prog := World.shaped_of_RefB (by kernel_rfl) (by kernel_rfl)
theorem Oj {W w : World} {n : String} {cs : Array Value} (h : W.var? Tryz.prog n = some cs) (hb : Below W.heap.size W w) : w.var? Tryz.prog n = some cs := by
  unfold World.var? at h ⊢
  cases hg : Tryz.prog.globalNamed n with
  | none => rw [hg] at h; cases h
  | some g =>
    rw [hg] at h
    simp only [Option.bind_some] at h ⊢
    rcases Nat.lt_or_ge g W.heap.size with hlt | hge
    · rw [hb.block g hlt]; exact h
    · rw [Array.getElem?_eq_none hge] at h; cases h
theorem YdV {W : World} {n : String} {s : String} {d : DataW Unit} (hT : (Tryz.prog.globalNamed n).bind (fun g => (Tryz.prog.globals[g]?).map (·.type)) = some 134) (h : Lib.VarReads Tryz.prog W n (.iface s d)) : ∃ tp p, W.var? Tryz.prog n = some #[.iface tp p] := by
  obtain ⟨g, t, cs, fuel, p, h1, h2, h3, h4⟩ := h
  rw [h1] at hT
  obtain rfl : t = 134 := Option.some.inj (h2.symm.trans hT)
  obtain ⟨_, u, v, e, _⟩ := iface_of_trod Tryz.underlying134 h4
  refine ⟨u, v, ?_⟩
  rw [h3, Array.eq_one_of_toList e]
theorem tabs_of {W : World} (hL : laidMetH Tryz.prog Yah W) (hsh : W.ShapedOpen Tryz.prog) : TabsB W.heap.size W := by
  rw [OF] at hL
  have hpow : Lib.TabIs Tryz.prog W "internal/strconv.uint64pow10" .u64 Lib.pow10Tab := by
    obtain ⟨g, t, cs, fuel, p, h1, h2, h3, h4⟩ := Lib.laidMet.reads hL (n := "internal/strconv.uint64pow10") (d := Rows.laid_internal_strconv_uint64pow10) (by unfold Yah; simp)
    have hT : (Tryz.prog.globalNamed "internal/strconv.uint64pow10").bind (fun g => (Tryz.prog.globals[g]?).map (·.type)) = some 334 := by kernel_rfl
    rw [h1] at hT
    obtain rfl : t = 334 := Option.some.inj (h2.symm.trans hT)
    have h5 : Rows.laid_internal_strconv_uint64pow10 (H := Unit) = Lib.tabData .u64 Lib.pow10Tab := by kernel_rfl
    rw [h5] at h4
    have h6 := Lib.cells_of_tab Tryz.underlying334 Tryz.underlying277 (by kernel_rfl) (by kernel_rfl) h4
    unfold Lib.TabIs
    rw [h3, ← h6]
  obtain ⟨tp1, p1, hsy⟩ := YdV (n := "strconv.ErrSyntax") (by kernel_rfl) (Lib.laidMet.reads hL (n := "strconv.ErrSyntax") (d := Rows.laid_strconv_ErrSyntax) (by unfold Yah; simp))
  obtain ⟨tp2, p2, hrg⟩ := YdV (n := "strconv.ErrRange") (by kernel_rfl) (Lib.laidMet.reads hL (n := "strconv.ErrRange") (d := Rows.laid_strconv_ErrRange) (by unfold Yah; simp))
  obtain ⟨m, hm⟩ := Go.Proofs.cell_of_shapedOpen_int (P := Tryz.prog) (g := 0) (k := .i64) (zero := #[.int .i64 0]) (t := 3) hsh (of_decide_eq_true (by kernel_rfl)) (by kernel_rfl) rfl (by kernel_rfl) (by kernel_rfl) Tryz.underlying3
  intro w hb
  refine ⟨Oj hpow hb, ⟨tp1, p1, Oj hsy hb⟩, ⟨tp2, p2, Oj hrg hb⟩, m, ?_⟩
  have hlt : 0 < W.heap.size := by
    rcases Nat.eq_zero_or_pos W.heap.size with h | h
    · simp [World.cell?, Array.getElem?_eq_none (show W.heap.size ≤ 0 by omega)] at hm
    · exact h
  exact (hb.cell (p := ⟨0, 0, none⟩) hlt).trans hm
theorem Tryz.own : ownKnob Tryz.prog.godebug = none := by kernel_rfl
theorem Tryz.laidOut : laidOutB Tryz.prog = true := by kernel_rfl
end Go.Proofs.YtmalhidldgfeoaaGreatDoor
