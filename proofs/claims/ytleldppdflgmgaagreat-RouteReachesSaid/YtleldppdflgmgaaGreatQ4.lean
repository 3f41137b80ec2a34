/- Lemmas for the claim, part 4. -/
import Derived.Test.YtleldppdflgmgaaGreatQ3

/- An engine for walks, part 20: regions that draw their order and write rows that other operations of them read: three phases, the pieces HA being kept by all. -/
namespace Go.Eng
open Go.RowKit
section
variable {P : Program} {n B : Nat} {w0 : World} {ops : Array Oper} {Q : Exit → Act → World → Prop} {rest : List Oper} {env : Env} {H : List HP}

/-- What follows is walked while S holds. -/
def TailH (P : Program) (ops : Array Oper) (Q : Exit → Act → World → Prop) (S : World → Prop) (l : List Oper) : Exit → Act → World → Prop
  | .normal, a, w => S w ∧ wpHeld P ops Q S l a w
  | e, a, w => Q e a w
theorem VQ_tailh {F H' : List HP} {Hc : List HP} (hp : Pull Hc H' F) (h : VL P (some (some F)) n B w0 ops Q rest env Hc) : VQ n B w0 (TailH P ops Q (St B w0 Hc) rest) .normal env H' :=
  ⟨fun a w ha hw => ⟨(hw.perm hp).prefix_, h.run a ha w (hw.perm hp)⟩⟩
theorem Oper.wp_tailH {o : Oper} {a : Act} {w : World} {K : Act → World → Prop} {S : World → Prop} {l : List Oper} (h : o.wp P a w K (TailH P ops Q S l)) : o.wp P a w K Q := by
  unfold Oper.wp at h ⊢
  generalize (execOp a.eval o).run P w = r at *
  cases r with
  | ok nx w' =>
    cases nx <;> simp only [Oper.upon] at h ⊢ <;> first
      | exact h
      | (refine Calls.mono h fun e w'' he => ?_
         cases e with
         | returned u => exact he
         | panicked c => exact he
         | outgrown => obtain ⟨a', w', h'⟩ := he; exact ⟨a', w', h'⟩)
  | halt x w' =>
    cases x <;> simp only [Oper.upon] at h ⊢
    exact h

def wpAnyW (P : Program) (ops : Array Oper) (Q : Exit → Act → World → Prop) (S S2 : World → Prop) (last : List Nat) : Nat → Array Bool → Act → World → Prop
  | 0, listed, a, w => Region.ready .any ops listed = [] ∧ Q .normal a w
  | fuel + 1, listed, a, w =>
    (Region.ready .any ops listed = [] → Q .normal a w) ∧
    ∀ i ∈ Region.ready .any ops listed, wpOp P ops Q i (fun a' w' => ((last.contains i = false → S w') ∧ S2 w') ∧ wpAnyW P ops Q S S2 last fuel (listed.setIfInBounds i true) a' w') a w
theorem wpAny_of_W {S S2 : World → Prop} {last : List Nat} : ∀ (fuel : Nat) (listed : Array Bool) (a : Act) (w : World), wpAnyW P ops Q S S2 last fuel listed a w → wpAny P .any ops Q fuel listed a w
  | 0, _, _, _, h => h
  | fuel + 1, _, _, _, h => ⟨h.1, fun i hi => wpOp_mono (fun a' w' h' => wpAny_of_W fuel _ a' w' h'.2) (h.2 i hi)⟩

theorem wpAnyW_free {S S2 : World → Prop} {last : List Nat} {i : Nat} {oi : Oper} {v : Value} (hi : ops[i]? = some oi) (hsel : ∀ (j : Nat) (o : Oper) cs b, ops[j]? = some o → o.op ≠ .select cs b)
    (hQ : ∀ c (a : Act) (w : World), ¬ Q (.panic c) a w) (hil : last.contains i = true) :
    ∀ (fuel : Nat) (listed : Array Bool) (a : Act) (w : World), Closed ops listed →
      (∀ j oj, ops[j]? = some oj → j ≠ i → listed.getD j true = false → (∀ e ∈ oj.after, Region.binds .any e = true → e.on ≠ i) → oi.apart ops oj = true) →
      i ∈ Region.ready .any ops listed → YieldsIf P ops S2 oi v a → S2 w →
      wpAnyW P ops Q S S2 last fuel (listed.setIfInBounds i true) (a.put oi.dst v) w → wpAnyW P ops Q S S2 last (fuel + 1) listed a w := by
  intro fuel
  have hno : ¬ last.contains i = false := by rw [hil]; intro h; cases h
  induction fuel with
  | zero =>
    intro listed a w _ _ hr hy hS H
    refine ⟨fun h => (by rw [h] at hr; cases hr), fun j hj => ?_⟩
    by_cases hji : j = i
    · subst hji; exact hy.wpOp hi hS ⟨⟨fun h => absurd h hno, hS⟩, H⟩
    · have := ready_mono hj hji
      rw [H.1] at this
      cases this
  | succ fuel ih =>
    intro listed a w hcl hfree hr hy hS H
    refine ⟨fun h => (by rw [h] at hr; cases hr), fun j hj => ?_⟩
    by_cases hji : j = i
    · subst hji; exact hy.wpOp hi hS ⟨⟨fun h => absurd h hno, hS⟩, H⟩
    · have h1 := H.2 j (ready_mono hj hji)
      obtain ⟨hjun, oj, hoj, hall⟩ := mem_ready.1 hj
      have hun := (mem_ready.1 hr).1
      have hun' : listed.getD i false = false := by
        rcases Nat.lt_or_ge i listed.size with h' | h'
        · simp [h'] at hun ⊢; exact hun
        · simp [Array.getElem?_eq_none h'] at hun
      have hnot : ∀ e ∈ oj.after, Region.binds .any e = true → e.on ≠ i := fun e he hb heq => by
        have h2 := hall e he hb
        rw [heq, hun'] at h2
        cases h2
      have h2 := wpOp_putIf hoj (hfree j oj hoj hji hjun hnot) (fun cs b => hsel i oi cs b hi) (fun cs b => hsel j oj cs b hoj) (fun c a w h => (hQ c _ w h).elim) hy h1
      have hfree' : ∀ k ok, ops[k]? = some ok → k ≠ i → (listed.setIfInBounds j true).getD k true = false →
          (∀ e ∈ ok.after, Region.binds .any e = true → e.on ≠ i) → oi.apart ops ok = true := fun k ok hk hki hu hno => by
        refine hfree k ok hk hki ?_ hno
        by_cases hjk : j = k
        · subst hjk; exact hjun
        · rw [getD_set_ne true hjk] at hu; exact hu
      refine wpOp_mono (fun a' w' h3 => ⟨h3.2.1, ih (listed.setIfInBounds j true) a' w' (hcl.set hj) hfree' (ready_mono hr (Ne.symm hji)) h3.1 h3.2.1.2 ?_⟩) h2
      rw [Array.setIfInBounds_comm _ _ hji]
      exact h3.2.2

theorem wpAnyW_first {S S2 : World → Prop} (hSS : ∀ w, S w → S2 w) {last : List Nat} {i : Nat} {oi : Oper} {v : Value} (hi : ops[i]? = some oi) (hsel : ∀ (j : Nat) (o : Oper) cs b, ops[j]? = some o → o.op ≠ .select cs b)
    (hQ : ∀ c (a : Act) (w : World), ¬ Q (.panic c) a w) (hil : last.contains i = false) :
    ∀ (fuel : Nat) (listed : Array Bool) (a : Act) (w : World), Closed ops listed → (∀ j, last.contains j = true → listed.getD j false = true ∨ ∃ f, ancB ops f j i = true) →
      (∀ j oj, ops[j]? = some oj → j ≠ i → listed.getD j true = false → (∀ e ∈ oj.after, Region.binds .any e = true → e.on ≠ i) → oi.apart ops oj = true) →
      i ∈ Region.ready .any ops listed → YieldsIf P ops S oi v a → S w →
      wpAnyW P ops Q S S2 last fuel (listed.setIfInBounds i true) (a.put oi.dst v) w → wpAnyW P ops Q S S2 last (fuel + 1) listed a w := by
  intro fuel
  induction fuel with
  | zero =>
    intro listed a w _ _ _ hr hy hS H
    refine ⟨fun h => (by rw [h] at hr; cases hr), fun j hj => ?_⟩
    by_cases hji : j = i
    · subst hji; exact hy.wpOp hi hS ⟨⟨fun _ => hS, hSS _ hS⟩, H⟩
    · have := ready_mono hj hji
      rw [H.1] at this
      cases this
  | succ fuel ih =>
    intro listed a w hcl hlast hfree hr hy hS H
    refine ⟨fun h => (by rw [h] at hr; cases hr), fun j hj => ?_⟩
    by_cases hji : j = i
    · subst hji; exact hy.wpOp hi hS ⟨⟨fun _ => hS, hSS _ hS⟩, H⟩
    · have h1 := H.2 j (ready_mono hj hji)
      obtain ⟨hjun, oj, hoj, hall⟩ := mem_ready.1 hj
      have hun := (mem_ready.1 hr).1
      have hun' : listed.getD i false = false := by
        rcases Nat.lt_or_ge i listed.size with h' | h'
        · simp [h'] at hun ⊢; exact hun
        · simp [Array.getElem?_eq_none h'] at hun
      have hnl : last.contains j = false := by
        cases hc : last.contains j with
        | false => rfl
        | true =>
          rcases hlast j hc with h4 | ⟨f, hf⟩
          · have h5 : listed.getD j true = true := by
              rcases Nat.lt_or_ge j listed.size with h' | h'
              · simp [h'] at h4 ⊢; exact h4
              · simp [Array.getElem?_eq_none h']
            rw [h5] at hjun; cases hjun
          · have := anc_listed hcl f j i (fun ok hk e he hb => by
              obtain rfl : ok = oj := Option.some.inj (hk.symm.trans hoj)
              exact hall e he hb) hf
            rw [hun'] at this
            cases this
      have hnot : ∀ e ∈ oj.after, Region.binds .any e = true → e.on ≠ i := fun e he hb heq => by
        have h2 := hall e he hb
        rw [heq, hun'] at h2
        cases h2
      have h2 := wpOp_putIf hoj (hfree j oj hoj hji hjun hnot) (fun cs b => hsel i oi cs b hi) (fun cs b => hsel j oj cs b hoj) (fun c a w h => (hQ c _ w h).elim) hy h1
      have hfree' : ∀ k ok, ops[k]? = some ok → k ≠ i → (listed.setIfInBounds j true).getD k true = false →
          (∀ e ∈ ok.after, Region.binds .any e = true → e.on ≠ i) → oi.apart ops ok = true := fun k ok hk hki hu hno => by
        refine hfree k ok hk hki ?_ hno
        by_cases hjk : j = k
        · subst hjk; exact hjun
        · rw [getD_set_ne true hjk] at hu; exact hu
      refine wpOp_mono (fun a' w' h3 => ⟨h3.2.1, ih (listed.setIfInBounds j true) a' w' (hcl.set hj) (fun k hk => ?_) hfree' (ready_mono hr (Ne.symm hji)) h3.1 (h3.2.1.1 hnl) ?_⟩) h2
      · rcases hlast k hk with h4 | h4
        · left
          by_cases hjk : j = k
          · subst hjk
            rcases Nat.lt_or_ge j listed.size with h' | h'
            · simp [h']
            · simp [Array.getElem?_eq_none h'] at hjun
          · rw [getD_set_ne false hjk]; exact h4
        · exact .inr h4
      · rw [Array.setIfInBounds_comm _ _ hji]
        exact h3.2.2

theorem tail_soundW {S S2 : World → Prop} {last : List Nat} (l : List Oper) (hl : ops = l.toArray) (hef : ∀ j, last.contains j = true → ∃ o, ops[j]? = some o) :
    ∀ (o2 : List Nat) (listed : Array Bool) (a : Act) (w : World), (∀ j ∈ o2, last.contains j = true) → orderT ops o2 listed = true → S2 w → wpHeld P ops Q S2 (pickOps l o2) a w → wpAnyW P ops Q S S2 last o2.length listed a w
  | [], listed, a, w, _, hB, _, h => ⟨by simpa [orderT] using hB, h⟩
  | i :: rest, listed, a, w, hin, hB, hS, h => by
    simp only [orderT, Bool.and_eq_true, decide_eq_true_eq] at hB
    obtain ⟨h1, h2⟩ := hB
    obtain ⟨o, ho⟩ := hef i (hin i (by simp))
    have hget : nthO l i = o := nthO_get hl ho
    simp only [pickOps, hget] at h
    unfold wpHeld at h
    refine ⟨fun h0 => (by rw [h1] at h0; cases h0), fun k hk => ?_⟩
    rw [h1] at hk
    obtain rfl : k = i := by simpa using hk
    have hc : last.contains k = true := hin k (by simp)
    have hf : ¬ last.contains k = false := by rw [hc]; intro h; cases h
    have hin' : ∀ j ∈ rest, last.contains j = true := fun j hj => hin j (by simp [hj])
    by_cases he : eff o = true
    · rw [if_pos he] at h
      unfold wpOp
      simp only [ho]
      by_cases hw : Region.wanted o (yielded ops a.tmps) = true
      · rw [if_pos hw] at h ⊢
        exact .inl (Oper.wp_mono (fun a' w' h' => ⟨⟨fun h => absurd h hf, h'.1⟩, tail_soundW l hl hef rest _ a' w' hin' h2 h'.1 h'.2⟩) h)
      · rw [if_neg hw] at h ⊢
        exact ⟨⟨fun h => absurd h hf, hS⟩, tail_soundW l hl hef rest _ _ w hin' h2 hS h⟩
    · rw [if_neg he] at h
      obtain ⟨v, hy, h3⟩ := h
      exact hy.wpOp ho hS ⟨⟨fun h => absurd h hf, hS⟩, tail_soundW l hl hef rest _ _ w hin' h2 hS h3⟩

def orderW1 (ops : Array Oper) (last tail : List Nat) : List Nat → Array Bool → Bool
  | [], listed => orderT ops tail listed
  | i :: rest, listed =>
    (match ops[i]? with
      | some o =>
        !last.contains i && (if eff o then decide (Region.ready .any ops listed = [i])
        else (Region.ready .any ops listed).contains i && Region.free .any ops listed i && last.all fun j => listed.getD j false || ancB ops ops.size j i)
      | none => false) && orderW1 ops last tail rest (listed.setIfInBounds i true)
def orderW (ops : Array Oper) (last tail o1 : List Nat) : List Nat → Array Bool → Bool
  | [], listed => orderW1 ops last tail o1 listed
  | i :: rest, listed =>
    (match ops[i]? with
      | some o => last.contains i && !eff o && (Region.ready .any ops listed).contains i && Region.free .any ops listed i
      | none => false) && orderW ops last tail o1 rest (listed.setIfInBounds i true)

theorem held_soundW1 {S S2 : World → Prop} (hSS : ∀ w, S w → S2 w) {last tail : List Nat} (hs : Region.noSelect ops = true) (hQ : ∀ c (a : Act) (w : World), ¬ Q (.panic c) a w) (l : List Oper) (hl : ops = l.toArray) (htl : ∀ j ∈ tail, last.contains j = true) (hex : ∀ j, last.contains j = true → ∃ o, ops[j]? = some o) :
    ∀ (o1 : List Nat) (listed : Array Bool) (a : Act) (w : World), Closed ops listed → orderW1 ops last tail o1 listed = true → S w → wpHeld P ops (TailH P ops Q S2 (pickOps l tail)) S (pickOps l o1) a w →
      wpAnyW P ops Q S S2 last (o1 ++ tail).length listed a w
  | [], listed, a, w, _, hB, hS, h => by
    have h' : S2 w ∧ wpHeld P ops Q S2 (pickOps l tail) a w := h
    exact tail_soundW l hl hex tail listed a w htl hB h'.1 h'.2
  | i :: rest, listed, a, w, hcl, hB, hS, h => by
    simp only [orderW1, Bool.and_eq_true] at hB
    obtain ⟨h1, h2⟩ := hB
    cases ho : ops[i]? with
    | none => rw [ho] at h1; cases h1
    | some o =>
      rw [ho] at h1
      have hget : nthO l i = o := nthO_get hl ho
      simp only [pickOps, hget] at h
      simp only [Bool.and_eq_true, Bool.not_eq_true'] at h1
      obtain ⟨hla', h1⟩ := h1
      by_cases he : eff o = true
      · simp only [he, if_true, decide_eq_true_eq] at h1
        unfold wpHeld at h
        rw [if_pos he] at h
        refine ⟨fun h0 => (by rw [h1] at h0; cases h0), fun k hk => ?_⟩
        have hk' := hk
        rw [h1] at hk
        obtain rfl : k = i := by simpa using hk
        unfold wpOp
        simp only [ho]
        by_cases hw : Region.wanted o (yielded ops a.tmps) = true
        · rw [if_pos hw] at h ⊢
          refine .inl (Oper.wp_tailH (Oper.wp_mono (fun a' w' h' => ⟨⟨fun _ => h'.1, hSS _ h'.1⟩, held_soundW1 hSS hs hQ l hl htl hex rest _ a' w' (hcl.set hk') h2 h'.1 h'.2⟩) h))
        · rw [if_neg hw] at h ⊢
          exact ⟨⟨fun _ => hS, hSS _ hS⟩, held_soundW1 hSS hs hQ l hl htl hex rest _ _ w (hcl.set hk') h2 hS h⟩
      · simp only [he, Bool.false_eq_true, if_false, Bool.and_eq_true] at h1
        obtain ⟨⟨h3, h4⟩, h6⟩ := h1
        unfold wpHeld at h
        rw [if_neg he] at h
        obtain ⟨v, hy, h5⟩ := h
        have hr : i ∈ Region.ready .any ops listed := by simpa using h3
        refine wpAnyW_first hSS ho (Region.noSelect_spec hs) hQ hla' _ listed a w hcl (fun j hj => ?_) (Region.free_spec ho h4) hr hy hS (held_soundW1 hSS hs hQ l hl htl hex rest _ _ w (hcl.set hr) h2 hS h5)
        have h7 := List.all_eq_true.1 h6 j (by simpa using hj)
        simp only [Bool.or_eq_true] at h7
        rcases h7 with h7 | h7
        · exact .inl h7
        · exact .inr ⟨_, h7⟩
theorem held_soundW {S S2 : World → Prop} (hSS : ∀ w, S w → S2 w) {last tail o1 : List Nat} (hs : Region.noSelect ops = true) (hQ : ∀ c (a : Act) (w : World), ¬ Q (.panic c) a w) (l : List Oper) (hl : ops = l.toArray) (htl : ∀ j ∈ tail, last.contains j = true) (hex : ∀ j, last.contains j = true → ∃ o, ops[j]? = some o) :
    ∀ (oA : List Nat) (listed : Array Bool) (a : Act) (w : World), Closed ops listed → orderW ops last tail o1 oA listed = true → S2 w → wpHeld P ops (TailH P ops (TailH P ops Q S2 (pickOps l tail)) S (pickOps l o1)) S2 (pickOps l oA) a w →
      wpAnyW P ops Q S S2 last (oA ++ (o1 ++ tail)).length listed a w
  | [], listed, a, w, hcl, hB, _, h => by
    have h' : S w ∧ wpHeld P ops (TailH P ops Q S2 (pickOps l tail)) S (pickOps l o1) a w := h
    exact held_soundW1 hSS hs hQ l hl htl hex o1 listed a w hcl hB h'.1 h'.2
  | i :: rest, listed, a, w, hcl, hB, hS, h => by
    simp only [orderW, Bool.and_eq_true] at hB
    obtain ⟨h1, h2⟩ := hB
    cases ho : ops[i]? with
    | none => rw [ho] at h1; cases h1
    | some o =>
      rw [ho] at h1
      have hget : nthO l i = o := nthO_get hl ho
      simp only [pickOps, hget] at h
      simp only [Bool.and_eq_true, Bool.not_eq_true'] at h1
      obtain ⟨⟨⟨hla, he⟩, h3⟩, h4⟩ := h1
      unfold wpHeld at h
      rw [if_neg (by rw [he]; simp)] at h
      obtain ⟨v, hy, h5⟩ := h
      have hr : i ∈ Region.ready .any ops listed := by simpa using h3
      exact wpAnyW_free ho (Region.noSelect_spec hs) hQ hla _ listed a w hcl (Region.free_spec ho h4) hr hy hS (held_soundW hSS hs hQ l hl htl hex rest _ _ w (hcl.set hr) h2 hS h5)

/-- Three phases: oA reads only what nothing here writes (HA); o1 reads HB; tail writes, in a forced order. -/
theorem VC_heldW {id : Nat} {l : List Oper} (oA o1 tail : List Nat) (maskA maskB : List Bool) {HA FA HB FB : List HP} (hm : P.follows .mixedOrders = true)
    (hB : (Region.noSelect l.toArray && decide ((oA ++ (o1 ++ tail)).length = l.toArray.size) && ((oA ++ tail).all fun j => decide (j < l.toArray.size)) && orderW l.toArray (oA ++ tail) tail o1 oA (Array.replicate l.toArray.size false)) = true)
    (hspA : Split maskA H HA FA) (_hspB : Split maskB H HB FB) (hsub : ∀ w, St B w0 HB w → St B w0 HA w) {lA l1 l2 : List Oper} (hlA : pickOps l oA = lA) (hl1 : pickOps l o1 = l1) (hl2 : pickOps l tail = l2)
    (h : VL P (some (some FA)) n B w0 l.toArray (TailH P l.toArray (TailH P l.toArray (Only Q) (St B w0 HA) l2) (St B w0 HB) l1) lA env HA) : VC P n B w0 (.region id l.toArray true) Q env H := by
  simp only [Bool.and_eq_true, decide_eq_true_eq] at hB
  obtain ⟨⟨⟨h1, h2⟩, h4⟩, h5⟩ := hB
  refine ⟨fun a w ha hw => wp_mono (Q := Only Q) ?_ fun e a w h => by cases e <;> first | exact h | cases h⟩
  have hst : St B w0 (HA ++ FA) w.drew := (hw.perm (split_perm hspA)).drew
  have hr := h.run a ha w.drew hst
  have hr' : wpHeld P l.toArray (TailH P l.toArray (TailH P l.toArray (Only Q) (St B w0 HA) l2) (St B w0 HB) l1) (St B w0 HA) lA a w.drew := hr
  rw [← hlA, ← hl1, ← hl2] at hr'
  have := held_soundW (S := St B w0 HB) (S2 := St B w0 HA) hsub (last := oA ++ tail) h1 (fun c a w h => h) l rfl (fun j hj => by simp [hj]) (fun j hj => ⟨_, Array.getElem?_eq_getElem (by
    have := List.all_eq_true.1 h4 j (by simpa using hj)
    simpa using this)⟩) oA _ a w.drew (closed_none _ _) h5 hst.prefix_ hr'
  rw [h2] at this
  exact wp_region_any hm (wpAny_of_W _ _ _ _ this)
end
end Go.Eng

/- Routes, plain: the flow of two units, as the program finds it. -/
namespace Go.Rt
open Go.Nw

/-- An edge: from, to, cost, room. -/
structure Ed where
  f : Int
  t : Int
  c : Int
  r : Int
def pairE (f t c : Int) : List Ed := [⟨f, t, c, 1⟩, ⟨t, f, -c, 0⟩]
def nodeEs (closed : Int → Bool) (k : Nat) : List Ed := (List.range k).flatMap fun v : Nat => if closed (v : Int) = true then [] else pairE (2 * (v : Int)) (2 * (v : Int) + 1) 0
def arcEs (l : List Lk) : List Ed := l.flatMap fun a => pairE (2 * a.1 + 1) (2 * a.2.1) a.2.2
def splitE (nodes : Nat) (l : List Lk) (closed : Int → Bool) : List Ed := nodeEs closed nodes ++ arcEs l

abbrev RelSt := List Int × List Int × Bool
def relStep (i : Nat) (e : Ed) (st : RelSt) : RelSt :=
  if 0 < e.r ∧ farAt st.1 e.f < noneC ∧ farAt st.1 e.f + e.c < farAt st.1 e.t then (st.1.set e.t.toNat (farAt st.1 e.f + e.c), st.2.1.set e.t.toNat (i : Int), true) else st
def relPass : Nat → List Ed → RelSt → RelSt
  | _, [], st => st
  | i, e :: es, st => relPass (i + 1) es (relStep i e st)
def relaxF : Nat → List Ed → List Int → List Int → Option (List Int × List Int)
  | 0, _, _, _ => none
  | k + 1, es, far, by_ => if (relPass 0 es (far, by_, false)).2.2 = true then relaxF k es (relPass 0 es (far, by_, false)).1 (relPass 0 es (far, by_, false)).2.1 else some ((relPass 0 es (far, by_, false)).1, (relPass 0 es (far, by_, false)).2.1)
def twin (i : Nat) : Nat := if i % 2 = 0 then i + 1 else i - 1
def moveE (es : List Ed) (i : Nat) (d : Int) : List Ed := match es[i]? with | some e => es.set i { e with r := e.r + d } | none => es
def backF : Nat → List Ed → List Int → Int → Int → Option (List Ed)
  | 0, _, _, _, _ => none
  | k + 1, es, by_, s, at_ =>
    if at_ = s then some es else
      if farAt by_ at_ < 0 then none else
        match es[(farAt by_ at_).toNat]? with
        | none => none
        | some e => if es.length ≤ twin (farAt by_ at_).toNat then none else backF k (moveE (moveE es (farAt by_ at_).toNat (-1)) (twin (farAt by_ at_).toNat) 1) by_ s e.f
def startF (sides : Nat) (s : Int) : List Int := (List.replicate sides noneC).set s.toNat 0
def pushF (fuel sides : Nat) (es : List Ed) (s t : Int) : Option (Int × Bool × List Ed) :=
  match relaxF fuel es (startF sides s) (List.replicate sides (-1)) with
  | none => none
  | some (far, by_) => if noneC ≤ farAt far t then some (0, false, es) else
    match backF fuel es by_ s t with
    | none => none
    | some es' => some (farAt far t, true, es')
def shutB (a b to : Int) (closed : Int → Bool) (v : Int) : Bool := decide (v = a ∨ v = b ∨ v = to) || closed v
def bothF (fuel nodes : Nat) (l : List Lk) (a b to : Int) (closed : Int → Bool) : Option (Int × Bool × List Ed) :=
  match pushF fuel (2 * nodes) (splitE nodes l (shutB a b to closed)) (2 * a + 1) (2 * to) with
  | none => none
  | some (x, ok, es) =>
    match pushF fuel (2 * nodes) es (2 * b + 1) (2 * to) with
    | none => none
    | some (y, is, es2) => some (x + y, ok && is, es2)

theorem relPass_snoc : ∀ (l : List Ed) (i : Nat) (e : Ed) (st : RelSt), relPass i (l ++ [e]) st = relStep (i + l.length) e (relPass i l st)
  | [], _, _, _ => rfl
  | x :: l, i, e, st => by
    show relPass (i + 1) (l ++ [e]) (relStep i x st) = _
    rw [relPass_snoc l (i + 1) e, List.length_cons, show i + 1 + l.length = i + (l.length + 1) by omega]; rfl
/-- Edges of a graph with so many sides. -/
def EdsOk (sides : Nat) (es : List Ed) : Prop := ∀ e ∈ es, (0 ≤ e.f ∧ e.f < sides) ∧ (0 ≤ e.t ∧ e.t < sides) ∧ (-1000000 ≤ e.c ∧ e.c ≤ 1000000) ∧ (-1000000000 ≤ e.r ∧ e.r ≤ 1000000000)
/-- What holds of the distances on the way: how low they may be. -/
structure RelOk (sides : Nat) (low : Int) (st : RelSt) : Prop where
  l1 : st.1.length = sides
  l2 : st.2.1.length = sides
  low : ∀ v : Int, 0 ≤ v → v < sides → low ≤ farAt st.1 v ∧ farAt st.1 v ≤ noneC
theorem relOk_step {sides : Nat} {low : Int} {st : RelSt} {e : Ed} {i : Nat} {es : List Ed} (hes : EdsOk sides es) (he : e ∈ es) (h : RelOk sides low st) : RelOk sides (low - 1000000) (relStep i e st) := by
  obtain ⟨⟨e1, e2⟩, ⟨e3, e4⟩, ⟨e5, e6⟩, _⟩ := hes e he
  unfold relStep
  split
  · rename_i hc
    have hlt : e.t.toNat < st.1.length := by rw [h.l1]; omega
    refine ⟨by rw [List.length_set]; exact h.l1, by rw [List.length_set]; exact h.l2, fun v h0 h1 => ?_⟩
    have h2 := h.low v h0 h1
    have h3 := h.low e.f e1 e2
    by_cases hv : v = e.t
    · subst hv
      simp only
      rw [farAt_self hlt]
      omega
    · simp only
      rw [farAt_ne (by omega)]
      omega
  · exact ⟨h.l1, h.l2, fun v h0 h1 => by have := h.low v h0 h1; omega⟩
theorem relOk_pass {sides : Nat} {es : List Ed} (hes : EdsOk sides es) : ∀ (l : List Ed) (i : Nat) (st : RelSt) (low : Int), (∀ e ∈ l, e ∈ es) → RelOk sides low st → RelOk sides (low - 1000000 * l.length) (relPass i l st)
  | [], _, _, _, _, h => by simpa [relPass] using h
  | e :: l, i, st, low, hl, h => by
    have h1 := relOk_pass hes l (i + 1) (relStep i e st) (low - 1000000) (fun x hx => hl x (List.mem_cons_of_mem _ hx)) (relOk_step hes (hl e List.mem_cons_self) h)
    rw [List.length_cons]
    have e1 : low - 1000000 * ((l.length + 1 : Nat) : Int) = low - 1000000 - 1000000 * (l.length : Int) := by omega
    rw [e1]; exact h1
/-- The same, with a bound of the room. -/
def EdsIn (sides : Nat) (b : Int) (es : List Ed) : Prop := ∀ e ∈ es, (0 ≤ e.f ∧ e.f < sides) ∧ (0 ≤ e.t ∧ e.t < sides) ∧ (-1000000 ≤ e.c ∧ e.c ≤ 1000000) ∧ (-b ≤ e.r ∧ e.r ≤ b)
theorem EdsIn.ok {sides : Nat} {b : Int} {es : List Ed} (h : EdsIn sides b es) (hb : b ≤ 1000000000) : EdsOk sides es := fun e he => by
  obtain ⟨h1, h2, h3, h4⟩ := h e he
  exact ⟨h1, h2, h3, by omega⟩
theorem EdsIn.mono {sides : Nat} {b b' : Int} {es : List Ed} (h : EdsIn sides b es) (hb : b ≤ b') : EdsIn sides b' es := fun e he => by
  obtain ⟨h1, h2, h3, h4⟩ := h e he
  exact ⟨h1, h2, h3, by omega⟩
theorem moveE_len (es : List Ed) (i : Nat) (d : Int) : (moveE es i d).length = es.length := by
  unfold moveE
  split
  · exact List.length_set
  · rfl
theorem moveE_in {sides : Nat} {b : Int} {es : List Ed} (h : EdsIn sides b es) (i : Nat) {d : Int} (hd : -1 ≤ d ∧ d ≤ 1) : EdsIn sides (b + 1) (moveE es i d) := by
  unfold moveE
  cases hi : es[i]? with
  | none => exact h.mono (by omega)
  | some e =>
    intro x hx
    rcases List.mem_or_eq_of_mem_set hx with hx | rfl
    · obtain ⟨h1, h2, h3, h4⟩ := h x hx
      exact ⟨h1, h2, h3, by omega⟩
    · obtain ⟨h1, h2, h3, h4⟩ := h e (List.mem_of_getElem? hi)
      exact ⟨h1, h2, h3, by simp only; omega⟩
theorem twin_ne (i : Nat) : twin i ≠ i := by unfold twin; split <;> omega
theorem startF_ok {sides : Nat} {s : Int} (hs : 0 ≤ s ∧ s < sides) (b : List Int) (hb : b.length = sides) (ag : Bool) : RelOk sides (-2000000000) (startF sides s, b, ag) := by
  have hl : s.toNat < (List.replicate sides noneC).length := by rw [List.length_replicate]; omega
  refine ⟨by unfold startF; rw [List.length_set, List.length_replicate], hb, fun v h0 h1 => ?_⟩
  have hn : noneC = 1073741824 := rfl
  unfold startF
  simp only
  by_cases hv : v = s
  · subst hv
    rw [farAt_self hl, hn]; omega
  · rw [farAt_ne (by omega)]
    unfold farAt
    rw [List.getD_eq_getElem?_getD, List.getElem?_replicate, if_pos (by omega), Option.getD_some, hn]
    omega
theorem relaxF_len {es : List Ed} {sides : Nat} (hes : EdsOk sides es) : ∀ (k : Nat) (far by_ : List Int) (r : List Int × List Int), far.length = sides → by_.length = sides → relaxF k es far by_ = some r → r.1.length = sides ∧ r.2.length = sides
  | 0, _, _, _, _, _, h => by cases h
  | k + 1, far, by_, r, h1, h2, h => by
    unfold relaxF at h
    have hp : ∀ (l : List Ed) (i : Nat) (st : RelSt), st.1.length = sides ∧ st.2.1.length = sides → (relPass i l st).1.length = sides ∧ (relPass i l st).2.1.length = sides := by
      intro l
      induction l with
      | nil => exact fun _ _ h => h
      | cons e l ih =>
        intro i st hst
        refine ih _ _ ?_
        unfold relStep
        split
        · exact ⟨by rw [List.length_set]; exact hst.1, by rw [List.length_set]; exact hst.2⟩
        · exact hst
    have hp' := hp es 0 (far, by_, false) ⟨h1, h2⟩
    split at h
    · exact relaxF_len hes k _ _ r hp'.1 hp'.2 h
    · obtain rfl := Option.some.inj h
      exact hp'
end Go.Rt

/- Walk: relax. -/
namespace Go.Proofs.YtleldppdflgmgaaGreat
open Go.RowKit Go.Eng Go.Nw Go.Rt

def edF (e : Ed) : List Value := [.int .i64 e.f, .int .i64 e.t, .int .i64 e.c, .int .i64 e.r]
abbrev gcells (sides : Nat) (A : Option Addr) (k cap : Nat) : Obj := .cells #[.int .i64 sides, .slice A k cap] 75 (0, 0)
/-- A graph in memory. -/
def gpcs (g sides : Nat) (A : Option Addr) (cap : Nat) (es : List Ed) (H : List HP) : List HP := blk g (gcells sides A es.length cap) :: sl 102 4 A es.length cap (es.flatMap edF) :: H

structure Rz where
  k : Nat
  ag : Bool
  far : List Int
  by_ : List Int
structure RzOk (sides : Nat) (es : List Ed) (fuel : Nat) (res : List Int × List Int) (z : Rz) : Prop where
  kf : z.k ≤ fuel
  ok : RelOk sides (-2000000000 - 2000000000 * ((fuel - z.k : Nat) : Int)) (z.far, z.by_, z.ag)
  run : if z.ag = true then relaxF z.k es z.far z.by_ = some res else (z.far, z.by_) = res

set_option maxRecDepth 10000 in
set_option maxHeartbeats 2000000 in
theorem relax_spec (g sides : Nat) (es : List Ed) (far : List Int) (fuel : Nat) (res : List Int × List Int) (hs : 1 ≤ sides ∧ sides ≤ 100) (hes : EdsOk sides es) (hel : es.length ≤ 2000) (hfu : fuel ≤ 100000) (hfar : RelOk sides (-2000000000) (far, List.replicate sides (-1), true)) (hrun : relaxF fuel es far (List.replicate sides (-1)) = some res)
    {A AF : Option Addr} {cap capF : Nat} {B : Nat} {w0 : World} {H : List HP} {w : World} (hw : St B w0 (gpcs g sides A cap es (ints AF capF far :: H)) w) :
    Calls Tryz.prog 33 [.pointer (some ⟨g, 0, none⟩), .slice AF far.length capF].toArray w (Post B w0 fun v K => ∃ gb, v = .tuple #[.slice AF res.1.length capF, .slice (some ⟨gb, 0, none⟩) res.2.length sides] ∧ RelOk sides (-2000000000 - 2000000000 * (fuel : Int)) (res.1, res.2, false) ∧ K = ints (some ⟨gb, 0, none⟩) sides res.2 :: gpcs g sides A cap es (ints AF capF res.1 :: H)) := by
  refine Calls_of_VC Tryz.func33 Tryz.ntmps33 rfl rfl hw ?_
  unfold gpcs
  repeat' (first | apply (zs1 ?_) | apply (zs2 ?_) | apply (zs5 ?_) | (apply zg2; refine zs6 ?_) | (apply zg3; refine zs7 ?_) | (apply zg26; (refine zs56 ?_; intro _)) | apply (zs65 ?_) | apply (zs68 ?_) | apply (zs69 ?_) | apply (zs70 ?_) | fail)
  apply VL_call _ en61
  (repeat (first | exact args_nil | (apply args_cons; exact rfl)))
  exact rfl
  exact fun _ hw => (repeat_spec (-1) sides (by omega) (.blk (by (focus repeat (first | with_reducible exact List.mem_cons_self | with_reducible apply List.mem_cons_of_mem | assumption)))) (hw))
  rintro _ _ ⟨gb, rfl, rfl⟩
  have hrl : (List.replicate sides (-1 : Int)).length = sides := List.length_replicate
  repeat' (first | apply (zs2 ?_) | apply (zs65 ?_) | apply (zs68 ?_) | apply (zs69 ?_) | apply (zs70 ?_) | apply (zs73 ?_) | fail)
  refine VC_loop1 (fun (z : Rz) => [(7, .bool z.ag), (1, .slice AF z.far.length capF), (6, .slice (some ⟨gb, 0, none⟩) z.by_.length sides), (0, .pointer (some ⟨g, 0, none⟩))])
    (fun z => ints (some ⟨gb, 0, none⟩) sides z.by_ :: blk g (gcells sides A es.length cap) :: sl 102 4 A es.length cap (es.flatMap edF) :: ints AF capF z.far :: H) (fun z => RzOk sides es fuel res z) (fun z => z.k) ⟨fuel, true, far, List.replicate sides (-1)⟩ ⟨Nat.le_refl _, by simpa using hfar, hrun⟩ ?_ (by (intro w hw; refine hw.perm ?_; focus repeat (first | with_reducible exact Perm.refl _ | (with_reducible apply perm_take; focus ((repeat (first | with_reducible exact rem_here | with_reducible apply rem_there)); done)) | with_reducible apply Perm.dropK))) ?_
  · (repeat (first | exact sub_nil _ | (apply sub_cons; first | exact rfl | exact congrArg (fun z : Int => some (Value.int .i64 z)) (by omega))))
  rintro ⟨k, ag, fa, by_⟩ hz K hK
  obtain ⟨hkf, hok, hrun⟩ := hz
  simp only at hkf hok hrun ⊢
  cases ag with
  | false =>
    rw [if_neg (by decide)] at hrun
    clear hK
    obtain ⟨rfl, rfl⟩ : fa = res.1 ∧ by_ = res.2 := by rw [← hrun]; exact ⟨rfl, rfl⟩
    repeat' (first | apply (zs1 ?_) | apply (zs2 ?_) | apply (zs65 ?_) | apply (zs68 ?_) | apply (zs69 ?_) | apply (zs70 ?_) | (apply zg27; refine zs72 ?_) | apply (zs74 ?_) | apply (zs75 ?_) | apply (zs80 ?_) | apply (zs81 ?_) | fail)
    apply VQ_ret2; exact rfl; exact rfl; exact rfl
    refine ⟨gb, rfl, ⟨hok.l1, hok.l2, fun v h0 h1 => ?_⟩, rfl⟩
    have := hok.low v h0 h1
    simp only at this ⊢
    omega
  | true =>
    rw [if_pos rfl] at hrun
    cases k with
    | zero => cases hrun
    | succ k =>
      have hok0 : RelOk sides (-2000000000 - 2000000000 * ((fuel - (k + 1) : Nat) : Int)) (fa, by_, false) := ⟨hok.l1, hok.l2, hok.low⟩
      obtain ⟨low, hlow⟩ : ∃ low : Int, -2000000000 - 2000000000 * ((fuel - (k + 1) : Nat) : Int) = low := ⟨_, rfl⟩
      rw [hlow] at hok0
      have hlb : -300000000000000 ≤ low := by omega
      unfold relaxF at hrun
      repeat' (first | apply (zs1 ?_) | apply (zs2 ?_) | apply (zs5 ?_) | (apply zg2; refine zs6 ?_) | (apply zg3; refine zs7 ?_) | (apply zg4; refine zs9 ?_) | apply (zs65 ?_) | apply (zs68 ?_) | apply (zs69 ?_) | apply (zs70 ?_) | (apply zg27; refine zs71 ?_) | apply (zs73 ?_) | apply (zs76 ?_) | fail)
      refine VC_loop1 (fun (j : Nat) => [(22, .int .i64 j), (21, .int .i64 es.length), (20, .slice A es.length cap), (7, .bool (relPass 0 (es.take j) (fa, by_, false)).2.2), (1, .slice AF (relPass 0 (es.take j) (fa, by_, false)).1.length capF), (6, .slice (some ⟨gb, 0, none⟩) (relPass 0 (es.take j) (fa, by_, false)).2.1.length sides), (0, .pointer (some ⟨g, 0, none⟩))])
        (fun j => ints (some ⟨gb, 0, none⟩) sides (relPass 0 (es.take j) (fa, by_, false)).2.1 :: blk g (gcells sides A es.length cap) :: sl 102 4 A es.length cap (es.flatMap edF) :: ints AF capF (relPass 0 (es.take j) (fa, by_, false)).1 :: H) (fun j => j ≤ es.length) (fun j => es.length - j) 0 (Nat.zero_le _) ?_ (fun w hw => hw) ?_
      · (repeat (first | exact sub_nil _ | (apply sub_cons; first | exact rfl | exact congrArg (fun z : Int => some (Value.int .i64 z)) (by omega))))
      intro j hj K2 hK2
      by_cases hlt : j < es.length
      · obtain ⟨e, he⟩ : ∃ e, es[j]? = some e := ⟨_, List.getElem?_eq_getElem hlt⟩
        have hem := List.mem_of_getElem? he
        obtain ⟨⟨e1, e2⟩, ⟨e3, e4⟩, ⟨e5, e6⟩, ⟨e7, e8⟩⟩ := hes e hem
        have htl : (es.take j).length = j := by rw [List.length_take]; omega
        have hst : relPass 0 (es.take (j + 1)) (fa, by_, false) = relStep j e (relPass 0 (es.take j) (fa, by_, false)) := by
          rw [List.take_add_one, he]
          have := relPass_snoc (es.take j) 0 e (fa, by_, false)
          rw [htl, Nat.zero_add] at this
          exact this
        have hpo := relOk_pass hes (es.take j) 0 (fa, by_, false) low (fun x hx => List.mem_of_mem_take hx) hok0
        rw [htl] at hpo
        obtain ⟨⟨f2, b2, ag2⟩, hst2⟩ : ∃ st, relPass 0 (es.take j) (fa, by_, false) = st := ⟨_, rfl⟩
        rw [hst2] at hst hpo ⊢
        obtain ⟨p1, p2, p3⟩ := hpo
        simp only at p1 p2 p3
        have q1 := p3 e.f e1 e2
        have q2 := p3 e.t e3 e4
        have hgf := farAt_get (far := f2) (i := e.f) (by omega)
        have hgt := farAt_get (far := f2) (i := e.t) (by omega)
        have hnn : noneC = 1073741824 := rfl
        rw [hnn] at q1 q2
        dsimp only
        unfold relStep at hst
        simp only [hnn] at hst
        by_cases hc : 0 < e.r ∧ farAt f2 e.f < 1073741824 ∧ farAt f2 e.f + e.c < farAt f2 e.t
        · rw [if_pos hc] at hst
          repeat' (first | apply (zs1 ?_) | apply (zs2 ?_) | (apply zg1; refine zs4 ?_) | (apply zg2; refine zs6 ?_) | (apply zg3; first | refine zs7 ?_ | refine zs60 ?_ | refine zs61 ?_) | (apply zg5; refine zs10 ?_) | (apply zg6; refine zs11 ?_) | (apply (zs17 ?_ ?_) <;> intro _ <;> try (exfalso; omega)) | (apply (zs19 ?_ ?_) <;> intro _ <;> try (exfalso; omega)) | (apply zg13; refine zs30 ?_) | (apply zg22; refine zs51 ?_) | (apply zg24; (refine zs54 ?_; intro _)) | apply (zs65 ?_) | apply (zs66 ?_) | apply (zs68 ?_) | apply (zs69 ?_) | apply (zs70 ?_) | (apply zg27; refine zs71 ?_) | apply (zs73 ?_) | apply (zs76 ?_) | (apply zg28; refine zs83 ?_) | fail)
          have hl1 : (f2.set e.t.toNat (farAt f2 e.f + e.c)).length = f2.length := List.length_set
          have hl2 : (b2.set e.t.toNat (j : Int)).length = b2.length := List.length_set
          apply VC_heldW [3, 4, 5, 14] [0, 1, 2, 6, 7, 8, 9, 10, 11, 12, 13, 15] [16, 17, 18, 19] [true] [true, true, false, false, true]
          kernel_rfl
          kernel_rfl
          (repeat (first | with_reducible exact split_nil | with_reducible apply split_t | with_reducible apply split_f))
          (repeat (first | with_reducible exact split_nil | with_reducible apply split_t | with_reducible apply split_f))
          (intro w hw; refine hw.perm ?_; focus repeat (first | with_reducible exact Perm.refl _ | (with_reducible apply perm_take; focus ((repeat (first | with_reducible exact rem_here | with_reducible apply rem_there)); done)) | with_reducible apply Perm.dropK))
          (simp only [pickOps, nthO]; rfl)
          (simp only [pickOps, nthO]; rfl)
          (simp only [pickOps, nthO]; rfl)
          repeat' (first | (apply VQ_tailh; (repeat (first | with_reducible exact pull_nil | (with_reducible apply pull_cons; (repeat (first | with_reducible exact rem_here | with_reducible apply rem_there)))))) | (apply VL_index_some T; exact rfl; exact rfl; exact rfl; exact rfl; omega) | (apply VL_store_row T (f := numF) (l := f2) (i := e.t.toNat) (a := farAt f2 e.f + e.c); exact rfl; exact rfl; exact rfl; (repeat (first | with_reducible exact Upd.here _ | with_reducible apply Upd.there)); exact rfl; exact fun _ => rfl; exact rfl; omega) | (apply VL_store_row T (f := numF) (l := b2) (i := e.t.toNat) (a := (j : Int)); exact rfl; exact rfl; exact rfl; (repeat (first | with_reducible exact Upd.here _ | with_reducible apply Upd.there)); exact rfl; exact fun _ => rfl; exact rfl; omega) | apply (zs1 ?_) | apply (zs2 ?_) | (apply zg2; refine zs6 ?_) | (apply zg3; first | refine zs7 ?_ | refine zs60 ?_) | (apply zg5; refine zs10 ?_) | (apply zg13; refine zs30 ?_) | apply (zs65 ?_) | (apply VL_nilh; (repeat (first | with_reducible exact app_nil | with_reducible apply app_cons))) | apply (zs68 ?_) | apply (zs70 ?_) | apply (zs79 ?_) | apply (zs87 ?_) | (apply VQ_heldq; (repeat (first | with_reducible exact pull_nil | (with_reducible apply pull_cons; (repeat (first | with_reducible exact rem_here | with_reducible apply rem_there)))))) | apply (zs94 ?_) | fail)
          apply hK2 (j + 1)
          · omega
          · omega
          · rw [hst]
            dsimp only
            rw [hl1, hl2]
            (repeat (first | exact sub_nil _ | (apply sub_cons; first | exact rfl | exact congrArg (fun z : Int => some (Value.int .i64 z)) (by omega))))
          · rw [hst]
            dsimp only
            unfold ints
            rw [hl1, hl2]
            (intro w hw; refine hw.perm ?_; focus repeat (first | with_reducible exact Perm.refl _ | (with_reducible apply perm_take; focus ((repeat (first | with_reducible exact rem_here | with_reducible apply rem_there)); done)) | with_reducible apply Perm.dropK))
        · rw [if_neg hc] at hst
          repeat' (first | apply (zs1 ?_) | apply (zs2 ?_) | (apply zg1; first | refine zs3 ?_ | refine zs4 ?_) | (apply zg2; refine zs6 ?_) | (apply zg3; first | refine zs7 ?_ | refine zs60 ?_ | refine zs61 ?_) | (apply zg5; refine zs10 ?_) | (apply zg6; first | refine zs11 ?_ | refine zs12 ?_) | (apply (zs17 ?_ ?_) <;> intro _ <;> try (exfalso; omega)) | (apply (zs19 ?_ ?_) <;> intro _ <;> try (exfalso; omega)) | (apply zg13; refine zs30 ?_) | (apply zg22; refine zs51 ?_) | (apply zg24; (refine zs54 ?_; intro _)) | apply (zs65 ?_) | apply (zs66 ?_) | apply (zs68 ?_) | apply (zs69 ?_) | apply (zs70 ?_) | (apply zg27; first | refine zs71 ?_ | refine zs72 ?_) | apply (zs73 ?_) | apply (zs76 ?_) | apply (zs79 ?_) | (apply zg28; refine zs83 ?_) | fail)
          all_goals (
            apply hK2 (j + 1)
            · omega
            · omega
            · rw [hst]; (repeat (first | exact sub_nil _ | (apply sub_cons; first | exact rfl | exact congrArg (fun z : Int => some (Value.int .i64 z)) (by omega))))
            · rw [hst]; exact fun w hw => hw.tail)
      · obtain rfl : j = es.length := by omega
        clear hK2
        have hpo := relOk_pass hes es 0 (fa, by_, false) low (fun x hx => hx) hok0
        rw [List.take_length]
        obtain ⟨⟨f2, b2, ag2⟩, hst2⟩ : ∃ st, relPass 0 es (fa, by_, false) = st := ⟨_, rfl⟩
        rw [hst2] at hrun hpo ⊢
        dsimp only at hrun ⊢
        repeat' (first | (apply (zs17 ?_ ?_) <;> intro _ <;> try (exfalso; omega)) | apply (zs65 ?_) | apply (zs68 ?_) | apply (zs69 ?_) | apply (zs70 ?_) | (apply zg27; refine zs72 ?_) | apply (zs75 ?_) | apply (zs79 ?_) | apply (zs80 ?_) | apply (zs81 ?_) | fail)
        apply hK ⟨k, ag2, f2, b2⟩
        · refine ⟨by simp only; omega, ⟨hpo.l1, hpo.l2, fun v h0 h1 => ?_⟩, ?_⟩
          · have := hpo.low v h0 h1
            simp only at this ⊢
            omega
          · simp only
            cases ag2
            · rw [if_neg (by decide)] at hrun ⊢
              exact Option.some.inj hrun
            · rw [if_pos rfl] at hrun ⊢
              exact hrun
        · simp only; omega
        · (repeat (first | exact sub_nil _ | (apply sub_cons; first | exact rfl | exact congrArg (fun z : Int => some (Value.int .i64 z)) (by omega))))
        · exact fun w hw => hw
end Go.Proofs.YtleldppdflgmgaaGreat

/- Walk: push. -/
namespace Go.Proofs.YtleldppdflgmgaaGreat
open Go.RowKit Go.Eng Go.Nw Go.Rt

theorem xor_twin (i : Nat) (hi : i < 4611686018427387904) : bits .xor .i64 (i : Int) 1 = (twin i : Int) := by
  have e1 : (BitVec.ofInt 64 (i : Int)).toNat = i := by rw [BitVec.ofInt_natCast, BitVec.toNat_ofNat]; exact Nat.mod_eq_of_lt (by omega)
  show IntKind.i64.wrap ((BitVec.ofInt 64 (i : Int) ^^^ BitVec.ofInt 64 1).toNat : Int) = _
  have e2 : (BitVec.ofInt 64 (1 : Int)).toNat = 1 := by decide
  have e3 : i ^^^ 1 = twin i := by
    unfold twin
    rcases Nat.mod_two_eq_zero_or_one i with h | h
    · rw [if_pos h]
      obtain ⟨k, rfl⟩ : ∃ k, i = 2 * k := ⟨i / 2, by omega⟩
      apply Nat.eq_of_testBit_eq
      intro j
      rw [Nat.testBit_xor]
      cases j with
      | zero => simp
      | succ j =>
        rw [Nat.testBit_succ, Nat.testBit_succ, Nat.testBit_succ]
        rw [show (2 * k + 1) / 2 = k by omega, show 2 * k / 2 = k by omega, show 1 / 2 = 0 by omega, Nat.zero_testBit, Bool.xor_false]
    · rw [if_neg (by omega)]
      obtain ⟨k, rfl⟩ : ∃ k, i = 2 * k + 1 := ⟨i / 2, by omega⟩
      apply Nat.eq_of_testBit_eq
      intro j
      rw [Nat.testBit_xor]
      cases j with
      | zero => simp
      | succ j =>
        rw [Nat.testBit_succ, Nat.testBit_succ, Nat.testBit_succ]
        rw [show (2 * k + 1) / 2 = k by omega, show (2 * k + 1 - 1) / 2 = k by omega, show 1 / 2 = 0 by omega, Nat.zero_testBit, Bool.xor_false]
  rw [BitVec.toNat_xor, e1, e2, e3, IntKind.wrap_i64]
  have : twin i ≤ i + 1 := by unfold twin; split <;> omega
  omega

structure Bz where
  k : Nat
  es : List Ed
  at_ : Int
structure BzOk (fuel sides : Nat) (b : Int) (E : Nat) (by_ : List Int) (s : Int) (res : List Ed) (z : Bz) : Prop where
  kf : z.k ≤ fuel
  run : backF z.k z.es by_ s z.at_ = some res
  ein : EdsIn sides (b + 2 * ((fuel - z.k : Nat) : Int)) z.es
  len : z.es.length = E
  at_ : 0 ≤ z.at_ ∧ z.at_ < sides

set_option maxRecDepth 10000 in
set_option maxHeartbeats 4000000 in
theorem push_spec (g sides : Nat) (es : List Ed) (s t : Int) (fuel : Nat) (b : Int) (r : Int × Bool × List Ed) (hs : 1 ≤ sides ∧ sides ≤ 100) (hes : EdsIn sides b es) (hb : 1 ≤ b ∧ b ≤ 900000) (hel : es.length ≤ 2000) (hfu : fuel ≤ 100000) (hs0 : 0 ≤ s ∧ s < sides) (ht0 : 0 ≤ t ∧ t < sides) (hrun : pushF fuel sides es s t = some r)
    {A : Option Addr} {cap : Nat} {B : Nat} {w0 : World} {H : List HP} {w : World} (hw : St B w0 (gpcs g sides A cap es H) w) :
    Calls Tryz.prog 60 [.pointer (some ⟨g, 0, none⟩), .int .i64 s, .int .i64 t].toArray w (Post B w0 fun v K => v = .tuple #[.int .i64 r.1, .bool r.2.1] ∧ (r.2.2.length = es.length ∧ EdsIn sides (b + 2 * (fuel : Int)) r.2.2 ∧ -300000000000000 ≤ r.1 ∧ r.1 ≤ 1073741824) ∧ K = gpcs g sides A cap r.2.2 H) := by
  refine Calls_of_VC Tryz.func60 Tryz.ntmps60 rfl rfl hw ?_
  have hok := hes.ok (by omega)
  have hnn : noneC = 1073741824 := rfl
  unfold gpcs
  repeat' (first | apply (zs1 ?_) | apply (zs2 ?_) | apply (zs5 ?_) | (apply zg2; refine zs6 ?_) | (apply zg3; refine zs7 ?_) | (apply zg26; (refine zs56 ?_; intro _)) | apply (zs65 ?_) | apply (zs68 ?_) | apply (zs69 ?_) | apply (zs70 ?_) | fail)
  apply VL_call _ en61
  (repeat (first | exact args_nil | (apply args_cons; exact rfl)))
  exact rfl
  exact fun _ hw => (repeat_spec 1073741824 sides (by omega) (.blk (by (focus repeat (first | with_reducible exact List.mem_cons_self | with_reducible apply List.mem_cons_of_mem | assumption)))) (hw))
  rintro _ _ ⟨gs, rfl, rfl⟩
  have hrl : (List.replicate sides (1073741824 : Int)).length = sides := List.length_replicate
  repeat' (first | (apply VL_store_row T (f := numF) (l := List.replicate sides (1073741824 : Int)) (i := s.toNat) (a := 0); exact rfl; exact rfl; exact rfl; (repeat (first | with_reducible exact Upd.here _ | with_reducible apply Upd.there)); exact rfl; exact fun _ => rfl; exact rfl; omega) | apply (zs1 ?_) | apply (zs2 ?_) | (apply zg5; refine zs10 ?_) | apply (zs65 ?_) | apply (zs68 ?_) | apply (zs69 ?_) | apply (zs70 ?_) | fail)
  have hst : startF sides s = (List.replicate sides (1073741824 : Int)).set s.toNat 0 := rfl
  have hsl : (startF sides s).length = (List.replicate sides (1073741824 : Int)).length := by rw [hst]; exact List.length_set
  unfold pushF at hrun
  cases hre : relaxF fuel es (startF sides s) (List.replicate sides (-1)) with
  | none => rw [hre] at hrun; cases hrun
  | some fb =>
    rw [hre] at hrun
    obtain ⟨far, by_⟩ := fb
    dsimp only at hrun
    rw [← hst, ← hsl]
    apply VL_st (gpcs g sides A cap es (ints (some ⟨gs, 0, none⟩) sides (startF sides s) :: H))
    · unfold gpcs ints
      (intro w hw; refine hw.perm ?_; focus repeat (first | with_reducible exact Perm.refl _ | (with_reducible apply perm_take; focus ((repeat (first | with_reducible exact rem_here | with_reducible apply rem_there)); done)) | with_reducible apply Perm.dropK))
    apply VL_call _ en33
    (repeat (first | exact args_nil | (apply args_cons; exact rfl)))
    exact rfl
    exact fun _ hw => (relax_spec g sides es (startF sides s) fuel (far, by_) hs hok hel (by omega) (startF_ok hs0 _ List.length_replicate _) hre (hw))
    rintro _ _ ⟨gb, rfl, hro, rfl⟩
    obtain ⟨l1, l2, hlow⟩ := hro
    simp only at l1 l2 hlow
    have hgt := farAt_get (far := far) (i := t) (by omega)
    have hlt := hlow t ht0.1 ht0.2
    rw [hnn] at hlt hrun
    unfold gpcs
    dsimp only
    by_cases hno : 1073741824 ≤ farAt far t
    · rw [if_pos hno] at hrun
      obtain rfl := Option.some.inj hrun
      repeat' (first | apply (zs1 ?_) | apply (zs2 ?_) | (apply zg3; refine zs60 ?_) | (apply zg5; refine zs10 ?_) | apply (zs13 ?_) | (apply (zs20 ?_ ?_) <;> intro _ <;> try (exfalso; omega)) | apply (zs65 ?_) | apply (zs68 ?_) | apply (zs69 ?_) | apply (zs70 ?_) | (apply zg27; refine zs71 ?_) | apply (zs74 ?_) | apply (zs77 ?_) | fail)
      apply VQ_st (gpcs g sides A cap es H)
      · unfold gpcs
        (intro w hw; refine hw.perm ?_; focus repeat (first | with_reducible exact Perm.refl _ | (with_reducible apply perm_take; focus ((repeat (first | with_reducible exact rem_here | with_reducible apply rem_there)); done)) | with_reducible apply Perm.dropK))
      apply VQ_ret2; exact rfl; exact rfl; exact rfl
      exact ⟨rfl, ⟨rfl, hes.mono (by omega), show (-300000000000000 : Int) ≤ 0 by decide, show (0 : Int) ≤ 1073741824 by decide⟩, rfl⟩
    · rw [if_neg hno] at hrun
      cases hba : backF fuel es by_ s t with
      | none => rw [hba] at hrun; cases hrun
      | some res =>
        rw [hba] at hrun
        dsimp only at hrun
        obtain rfl := Option.some.inj hrun
        repeat' (first | apply (zs1 ?_) | apply (zs2 ?_) | (apply zg3; refine zs60 ?_) | (apply zg5; refine zs10 ?_) | apply (zs13 ?_) | (apply (zs20 ?_ ?_) <;> intro _ <;> try (exfalso; omega)) | apply (zs65 ?_) | apply (zs68 ?_) | apply (zs69 ?_) | apply (zs70 ?_) | (apply zg27; refine zs72 ?_) | apply (zs73 ?_) | apply (zs76 ?_) | fail)
        refine VC_loop1 (fun (z : Bz) => [(11, .int .i64 z.at_), (10, .slice (some ⟨gb, 0, none⟩) by_.length sides), (9, .slice (some ⟨gs, 0, none⟩) far.length sides), (0, .pointer (some ⟨g, 0, none⟩)), (1, .int .i64 s), (2, .int .i64 t)])
          (fun z => ints (some ⟨gb, 0, none⟩) sides by_ :: blk g (gcells sides A z.es.length cap) :: sl 102 4 A z.es.length cap (z.es.flatMap edF) :: ints (some ⟨gs, 0, none⟩) sides far :: H) (fun z => BzOk fuel sides b es.length by_ s res z) (fun z => z.k) ⟨fuel, es, t⟩ ⟨Nat.le_refl _, hba, hes.mono (by omega), rfl, ht0⟩ ?_ (fun w hw => hw) ?_
        · (repeat (first | exact sub_nil _ | (apply sub_cons; first | exact rfl | exact congrArg (fun z : Int => some (Value.int .i64 z)) (by omega))))
        rintro ⟨k, e1, v⟩ ⟨hkf, hrun1, hein, hlen, ⟨v0, v1⟩⟩ K hK
        simp only at hkf hrun1 hein hlen v0 v1 ⊢
        cases k with
        | zero => cases hrun1
        | succ k =>
          unfold backF at hrun1
          by_cases hvs : v = s
          · rw [if_pos hvs] at hrun1
            obtain rfl := Option.some.inj hrun1
            clear hK
            repeat' (first | apply (zs1 ?_) | apply (zs2 ?_) | (apply zg3; refine zs60 ?_) | (apply zg5; refine zs10 ?_) | (apply zg8; (refine zs16 ?_ ?_ <;> intro _ <;> try (exfalso; omega))) | apply (zs65 ?_) | apply (zs68 ?_) | apply (zs69 ?_) | apply (zs70 ?_) | (apply zg27; refine zs72 ?_) | apply (zs74 ?_) | apply (zs75 ?_) | apply (zs80 ?_) | apply (zs81 ?_) | fail)
            apply VQ_st (gpcs g sides A cap e1 H)
            · unfold gpcs
              (intro w hw; refine hw.perm ?_; focus repeat (first | with_reducible exact Perm.refl _ | (with_reducible apply perm_take; focus ((repeat (first | with_reducible exact rem_here | with_reducible apply rem_there)); done)) | with_reducible apply Perm.dropK))
            apply VQ_ret2; exact rfl; exact rfl; exact rfl
            exact ⟨rfl, ⟨hlen, hein.mono (by omega), by omega, by omega⟩, rfl⟩
          · rw [if_neg hvs] at hrun1
            have hgv := farAt_get (far := by_) (i := v) (by omega)
            obtain ⟨i, hi⟩ : ∃ i, farAt by_ v = i := ⟨_, rfl⟩
            rw [hi] at hrun1 hgv
            by_cases hneg : i < 0
            · rw [if_pos hneg] at hrun1; cases hrun1
            rw [if_neg hneg] at hrun1
            obtain ⟨m, rfl⟩ : ∃ m : Nat, i = m := ⟨i.toNat, by omega⟩
            rw [Int.toNat_natCast] at hrun1
            cases he : e1[m]? with
            | none => rw [he] at hrun1; cases hrun1
            | some e =>
              rw [he] at hrun1
              dsimp only at hrun1
              by_cases htw : e1.length ≤ twin m
              · rw [if_pos htw] at hrun1; cases hrun1
              rw [if_neg htw] at hrun1
              have hml := (List.getElem?_eq_some_iff.1 he).1
              have hmb : m < 2000 := by omega
              have hxor := xor_twin m (by omega)
              have hm1 : moveE e1 m (-1) = e1.set m { e with r := e.r - 1 } := by unfold moveE; rw [he]; rfl
              obtain ⟨f1, hf1⟩ : ∃ f1, e1.set m { e with r := e.r - 1 } = f1 := ⟨_, rfl⟩
              have hfl1 : f1.length = e1.length := by rw [← hf1]; exact List.length_set
              have hin1 := moveE_in hein m (d := -1) (by omega)
              rw [hm1, hf1] at hin1
              obtain ⟨e2, he2⟩ : ∃ x, f1[twin m]? = some x := ⟨_, List.getElem?_eq_getElem (by omega)⟩
              have hm2 : moveE f1 (twin m) 1 = f1.set (twin m) { e2 with r := e2.r + 1 } := by unfold moveE; rw [he2]
              obtain ⟨f2, hf2⟩ : ∃ f2, f1.set (twin m) { e2 with r := e2.r + 1 } = f2 := ⟨_, rfl⟩
              have hfl2 : f2.length = e1.length := by rw [← hf2, List.length_set]; exact hfl1
              have hin2 := moveE_in hin1 (twin m) (d := 1) (by omega)
              rw [hm2, hf2] at hin2
              rw [hm1, hf1, hm2, hf2] at hrun1
              obtain ⟨_, _, _, hr1⟩ := hein e (List.mem_of_getElem? he)
              obtain ⟨_, _, _, hr2⟩ := hin1 e2 (List.mem_of_getElem? he2)
              have hef := (hein e (List.mem_of_getElem? he)).1
              have hem : (f1.set (twin m) { e2 with r := e2.r + 1 })[m]? = some { e with r := e.r - 1 } := by
                rw [List.getElem?_set_ne (twin_ne m), ← hf1, List.getElem?_set_self hml]
              have hfl3 : (f1.set (twin m) { e2 with r := e2.r + 1 }).length = f1.length := List.length_set
              repeat' (first | apply (zs1 ?_) | (apply zg8; (refine zs16 ?_ ?_ <;> intro _ <;> try (exfalso; omega))) | apply (zs65 ?_) | apply (zs68 ?_) | apply (zs69 ?_) | apply (zs70 ?_) | (apply zg27; refine zs71 ?_) | apply (zs73 ?_) | apply (zs76 ?_) | fail)
              apply VC_held [0, 1, 2, 3, 4, 5, 6, 7, 8, 9, 10, 11, 12, 13] [14] [true, true, true]
              kernel_rfl
              kernel_rfl
              (repeat (first | with_reducible exact split_nil | with_reducible apply split_t | with_reducible apply split_f))
              (simp only [pickOps, nthO]; rfl)
              (simp only [pickOps, nthO]; rfl)
              repeat' (first | (apply VL_store_field T (f := edF) (l := e1) (i := m) (q := 4) (o := 3) (b := e) (b' := { e with r := e.r - 1 }); exact rfl; exact rfl; exact rfl; (repeat (first | with_reducible exact Upd.here _ | with_reducible apply Upd.there)); exact he; exact rfl; exact fun _ => rfl; exact rfl; exact rfl) | apply (zs1 ?_) | apply (zs5 ?_) | (apply zg2; first | refine zs6 ?_ | refine zs58 ?_) | (apply zg3; first | refine zs7 ?_ | refine zs59 ?_ | refine zs60 ?_) | (apply zg5; refine zs10 ?_) | (apply zg14; refine zs31 ?_) | apply (zs65 ?_) | (apply VL_nilh; (repeat (first | with_reducible exact app_nil | with_reducible apply app_cons))) | apply (zs68 ?_) | apply (zs93 ?_) | apply (zs94 ?_) | fail)
              rw [hf1]
              apply VC_st (ints (some ⟨gb, 0, none⟩) sides by_ :: blk g (gcells sides A f1.length cap) :: sl 102 4 A f1.length cap (f1.flatMap edF) :: ints (some ⟨gs, 0, none⟩) sides far :: H)
              · rw [hfl1]
                (intro w hw; refine hw.perm ?_; focus repeat (first | with_reducible exact Perm.refl _ | (with_reducible apply perm_take; focus ((repeat (first | with_reducible exact rem_here | with_reducible apply rem_there)); done)) | with_reducible apply Perm.dropK))
              apply VC_held [0, 1, 2, 3, 4, 5, 6, 7, 8, 9, 10, 11, 12, 13, 14] [15] [true, true, true]
              kernel_rfl
              kernel_rfl
              (repeat (first | with_reducible exact split_nil | with_reducible apply split_t | with_reducible apply split_f))
              (simp only [pickOps, nthO]; rfl)
              (simp only [pickOps, nthO]; rfl)
              repeat' (first | (apply VL_xor; exact rfl; exact rfl; exact rfl; rw [hxor]) | (apply VL_store_field T (f := edF) (l := f1) (i := twin m) (q := 4) (o := 3) (b := e2) (b' := { e2 with r := e2.r + 1 }); exact rfl; exact rfl; exact rfl; (repeat (first | with_reducible exact Upd.here _ | with_reducible apply Upd.there)); exact he2; exact rfl; exact fun _ => rfl; exact rfl; exact rfl) | (apply VL_index_rd T (l := f1.set (twin m) { e2 with r := e2.r + 1 }) (f := edF); (rw [hfl3]; exact rfl); exact rfl; exact .sl (by (focus repeat (first | with_reducible exact List.mem_cons_self | with_reducible apply List.mem_cons_of_mem | assumption))); exact rfl; exact fun _ => rfl; exact rfl; exact rfl; omega) | apply (zs1 ?_) | apply (zs2 ?_) | apply (zs5 ?_) | (apply zg2; first | refine zs6 ?_ | refine zs58 ?_) | (apply zg3; first | refine zs7 ?_ | refine zs59 ?_ | refine zs60 ?_) | (apply zg5; refine zs10 ?_) | (apply zg13; refine zs30 ?_) | apply (zs65 ?_) | apply (zs66 ?_) | (apply VL_nilh; (repeat (first | with_reducible exact app_nil | with_reducible apply app_cons))) | apply (zs68 ?_) | apply (zs79 ?_) | (apply zg28; refine zs83 ?_) | apply (zs93 ?_) | apply (zs94 ?_) | fail)
              apply hK ⟨k, f2, e.f⟩
              · exact ⟨by simp only; omega, hrun1, hin2.mono (by simp only; omega), by simp only; omega, hef⟩
              · simp only; omega
              · (repeat (first | exact sub_nil _ | (apply sub_cons; first | exact rfl | exact congrArg (fun z : Int => some (Value.int .i64 z)) (by omega))))
              · dsimp only
                rw [hf2, show f1.length = f2.length by omega]
                (intro w hw; refine hw.perm ?_; focus repeat (first | with_reducible exact Perm.refl _ | (with_reducible apply perm_take; focus ((repeat (first | with_reducible exact rem_here | with_reducible apply rem_there)); done)) | with_reducible apply Perm.dropK))
end Go.Proofs.YtleldppdflgmgaaGreat

/- An engine for walks, part 21: trees of orders with three writers; numbers made negative; maps of truths as sets. -/
namespace Go.Eng
open Go.RowKit
open Go.ChangeMaps (setBlock)

inductive OU where
  | done
  | n1 (i : Nat) (t : OU)
  | n2 (i : Nat) (t : OU) (j : Nat) (u : OU)
  | n3 (i : Nat) (t : OU) (j : Nat) (u : OU) (k : Nat) (v : OU)

section
variable {P : Program} {n B : Nat} {w0 : World} {Q : Exit → Act → World → Prop} {env : Env} {H : List HP} {ops : Array Oper}

/-- A tree of orders: at each node the operations that may come up. -/
def wpTreeU (P : Program) (ops : Array Oper) (l : List Oper) (Q : Exit → Act → World → Prop) (S : World → Prop) : OU → Act → World → Prop
  | .done, a, w => Q .normal a w
  | .n1 i t, a, w => wpHeld P ops (fun e a w => match e with | .normal => wpTreeU P ops l Q S t a w | _ => False) S [nthO l i] a w
  | .n2 i t j u, a, w => wpHeld P ops (fun e a w => match e with | .normal => wpTreeU P ops l Q S t a w | _ => False) S [nthO l i] a w ∧ wpHeld P ops (fun e a w => match e with | .normal => wpTreeU P ops l Q S u a w | _ => False) S [nthO l j] a w
  | .n3 i t j u k v, a, w => wpHeld P ops (fun e a w => match e with | .normal => wpTreeU P ops l Q S t a w | _ => False) S [nthO l i] a w ∧ wpHeld P ops (fun e a w => match e with | .normal => wpTreeU P ops l Q S u a w | _ => False) S [nthO l j] a w ∧ wpHeld P ops (fun e a w => match e with | .normal => wpTreeU P ops l Q S v a w | _ => False) S [nthO l k] a w

def treeBU (ops : Array Oper) (last : List Nat) : OU → Array Bool → Nat → Bool
  | .done, listed, 0 => orderT ops last listed
  | .done, _, _ + 1 => false
  | .n1 i t, listed, k + 1 => !last.contains i && (match ops[i]? with
      | some o => if eff o then decide (Region.ready .any ops listed = [i]) else (Region.ready .any ops listed).contains i && Region.free .any ops listed i
      | none => false) && treeBU ops last t (listed.setIfInBounds i true) k
  | .n2 i t j u, listed, k + 1 => !last.contains i && !last.contains j && isEff ops i && isEff ops j && ((Region.ready .any ops listed).all fun x => x == i || x == j) && !(Region.ready .any ops listed).isEmpty && treeBU ops last t (listed.setIfInBounds i true) k && treeBU ops last u (listed.setIfInBounds j true) k
  | .n3 i t j u q v, listed, k + 1 => !last.contains i && !last.contains j && !last.contains q && isEff ops i && isEff ops j && isEff ops q && ((Region.ready .any ops listed).all fun x => x == i || x == j || x == q) && !(Region.ready .any ops listed).isEmpty && treeBU ops last t (listed.setIfInBounds i true) k && treeBU ops last u (listed.setIfInBounds j true) k && treeBU ops last v (listed.setIfInBounds q true) k
  | .n1 _ _, _, 0 => false
  | .n2 _ _ _ _, _, 0 => false
  | .n3 _ _ _ _ _ _, _, 0 => false

theorem tree_soundU {S : World → Prop} {last : List Nat} (hs : Region.noSelect ops = true) (hQ : ∀ c (a : Act) (w : World), ¬ Q (.panic c) a w) (hlo : ¬ LetsOut Q) (l : List Oper) (hl : ops = l.toArray) (hlast : lastH ops last = true) :
    ∀ (t : OU) (k : Nat) (listed : Array Bool) (a : Act) (w : World), Closed ops listed → treeBU ops last t listed k = true → S w → wpTreeU P ops l (TailQ P ops Q (pickOps l last)) S t a w →
      wpAnyN P ops Q S last (k + last.length) listed a w
  | .done, 0, listed, a, w, _, hB, _, h => by
    have := tail_soundH (S := S) l hl (lastH_spec hlast).1 hlo last listed a w (fun j hj => by simpa using hj) hB h
    rw [Nat.zero_add]
    exact this
  | .done, _ + 1, _, _, _, _, hB, _, _ => by cases hB
  | .n1 _ _, 0, _, _, _, _, hB, _, _ => by cases hB
  | .n2 _ _ _ _, 0, _, _, _, _, hB, _, _ => by cases hB
  | .n3 _ _ _ _ _ _, 0, _, _, _, _, hB, _, _ => by cases hB
  | .n1 i t, k + 1, listed, a, w, hcl, hB, hS, h => by
    simp only [treeBU, Bool.and_eq_true] at hB
    obtain ⟨⟨h0, h1⟩, h2⟩ := hB
    have hno : last.contains i = false := by simpa using h0
    cases ho : ops[i]? with
    | none => rw [ho] at h1; cases h1
    | some o =>
      rw [ho] at h1
      have hget := nthO_get hl ho
      unfold wpTreeU at h
      rw [hget] at h
      rw [Nat.add_right_comm]
      by_cases he : eff o = true
      · simp only [he, if_true, decide_eq_true_eq] at h1
        refine ⟨fun h0 => (by rw [h1] at h0; cases h0), fun j hj => ?_⟩
        have hj' := hj
        rw [h1] at hj
        obtain rfl : j = i := by simpa using hj
        exact eff_node ho he hno (fun e a w hne => by cases e <;> simp_all) hS h fun a w hS' h' => tree_soundU hs hQ hlo l hl hlast t k _ a w (hcl.set hj') h2 hS' h'
      · simp only [he] at h1
        simp only [Bool.false_eq_true, if_false, Bool.and_eq_true] at h1
        unfold wpHeld at h
        rw [if_neg he] at h
        obtain ⟨v, hy, h3⟩ := h
        have hr : i ∈ Region.ready .any ops listed := by simpa using h1.1
        exact wpAnyN_first ho (Region.noSelect_spec hs) hQ ((lastH_spec hlast).2 i o ho (by simpa using he) hno) hno _ listed a w hcl (Region.free_spec ho h1.2) hr hy hS (tree_soundU hs hQ hlo l hl hlast t k _ _ w (hcl.set hr) h2 hS h3)
  | .n2 i t j u, k + 1, listed, a, w, hcl, hB, hS, h => by
    simp only [treeBU, Bool.and_eq_true] at hB
    obtain ⟨⟨⟨⟨⟨⟨⟨b1, b2⟩, b3⟩, b4⟩, b5⟩, b6⟩, b7⟩, b8⟩ := hB
    have hi : last.contains i = false := by simpa using b1
    have hj : last.contains j = false := by simpa using b2
    unfold wpTreeU at h
    rw [Nat.add_right_comm]
    refine ⟨fun h0 => (by rw [h0] at b6; cases b6), fun x hx => ?_⟩
    have h5 := List.all_eq_true.1 b5 x hx
    simp only [Bool.or_eq_true, beq_iff_eq] at h5
    rcases h5 with rfl | rfl
    · unfold isEff at b3
      cases ho : ops[x]? with
      | none => rw [ho] at b3; cases b3
      | some o =>
        rw [ho] at b3
        have hg := h.1
        rw [nthO_get hl ho] at hg
        exact eff_node ho b3 hi (fun e a w hne => by cases e <;> simp_all) hS hg fun a w hS' h' => tree_soundU hs hQ hlo l hl hlast t k _ a w (hcl.set hx) b7 hS' h'
    · unfold isEff at b4
      cases ho : ops[x]? with
      | none => rw [ho] at b4; cases b4
      | some o =>
        rw [ho] at b4
        have hg := h.2
        rw [nthO_get hl ho] at hg
        exact eff_node ho b4 hj (fun e a w hne => by cases e <;> simp_all) hS hg fun a w hS' h' => tree_soundU hs hQ hlo l hl hlast u k _ a w (hcl.set hx) b8 hS' h'

  | .n3 i t j u q v, k + 1, listed, a, w, hcl, hB, hS, h => by
    simp only [treeBU, Bool.and_eq_true] at hB
    obtain ⟨⟨⟨⟨⟨⟨⟨⟨⟨⟨b1, b2⟩, b2q⟩, b3⟩, b4⟩, b4q⟩, b5⟩, b6⟩, b7⟩, b8⟩, b9⟩ := hB
    have hi : last.contains i = false := by simpa using b1
    have hj : last.contains j = false := by simpa using b2
    have hq : last.contains q = false := by simpa using b2q
    unfold wpTreeU at h
    rw [Nat.add_right_comm]
    refine ⟨fun h0 => (by rw [h0] at b6; cases b6), fun x hx => ?_⟩
    have h5 := List.all_eq_true.1 b5 x hx
    simp only [Bool.or_eq_true, beq_iff_eq] at h5
    rcases h5 with (rfl | rfl) | rfl
    · unfold isEff at b3
      cases ho : ops[x]? with
      | none => rw [ho] at b3; cases b3
      | some o =>
        rw [ho] at b3
        have hg := h.1
        rw [nthO_get hl ho] at hg
        exact eff_node ho b3 hi (fun e a w hne => by cases e <;> simp_all) hS hg fun a w hS' h' => tree_soundU hs hQ hlo l hl hlast t k _ a w (hcl.set hx) b7 hS' h'
    · unfold isEff at b4
      cases ho : ops[x]? with
      | none => rw [ho] at b4; cases b4
      | some o =>
        rw [ho] at b4
        have hg := h.2.1
        rw [nthO_get hl ho] at hg
        exact eff_node ho b4 hj (fun e a w hne => by cases e <;> simp_all) hS hg fun a w hS' h' => tree_soundU hs hQ hlo l hl hlast u k _ a w (hcl.set hx) b8 hS' h'
    · unfold isEff at b4q
      cases ho : ops[x]? with
      | none => rw [ho] at b4q; cases b4q
      | some o =>
        rw [ho] at b4q
        have hg := h.2.2
        rw [nthO_get hl ho] at hg
        exact eff_node ho b4q hq (fun e a w hne => by cases e <;> simp_all) hS hg fun a w hS' h' => tree_soundU hs hQ hlo l hl hlast v k _ a w (hcl.set hx) b9 hS' h'

structure VU (P : Program) (n B : Nat) (w0 : World) (ops : Array Oper) (l : List Oper) (Q : Exit → Act → World → Prop) (t : OU) (env : Env) (H F : List HP) : Prop where
  run : ∀ a, Fits n a env → ∀ w, St B w0 (H ++ F) w → wpTreeU P ops l Q (St B w0 H) t a w

/-- What is asked behind a node. -/
def TreeUQ (P : Program) (B : Nat) (w0 : World) (ops : Array Oper) (l : List Oper) (Q : Exit → Act → World → Prop) (Hc : List HP) (t : OU) : Exit → Act → World → Prop
  | .normal, a, w => wpTreeU P ops l Q (St B w0 Hc) t a w
  | _, _, _ => False

theorem treeUQ_eq {l : List Oper} {t : OU} : TreeUQ P B w0 ops l Q H t = fun e a w => match e with | .normal => wpTreeU P ops l Q (St B w0 H) t a w | _ => False := by
  funext e a w
  cases e <;> rfl

theorem VU_done {l : List Oper} {F HF : List HP} (happ : App H F HF) (h : VQ n B w0 Q .normal env HF) : VU P n B w0 ops l Q .done env H F :=
  ⟨fun a ha w hw => by rw [← app_eq happ] at hw; exact h.run a w ha hw⟩
theorem VU_n1 {l : List Oper} {F : List HP} {i : Nat} {t : OU} {o : Oper} (ho : nthO l i = o) (h : VL P (some (some F)) n B w0 ops (TreeUQ P B w0 ops l Q H t) [o] env H) : VU P n B w0 ops l Q (.n1 i t) env H F := by
  refine ⟨fun a ha w hw => ?_⟩
  have h1 : wpHeld P ops (TreeUQ P B w0 ops l Q H t) (St B w0 H) [o] a w := h.run a ha w hw
  unfold wpTreeU
  rw [ho, ← treeUQ_eq]
  exact h1
theorem VU_n2 {l : List Oper} {F : List HP} {i j : Nat} {t u : OU} {o o' : Oper} (ho : nthO l i = o) (ho' : nthO l j = o') (h : VL P (some (some F)) n B w0 ops (TreeUQ P B w0 ops l Q H t) [o] env H)
    (h' : VL P (some (some F)) n B w0 ops (TreeUQ P B w0 ops l Q H u) [o'] env H) : VU P n B w0 ops l Q (.n2 i t j u) env H F := by
  refine ⟨fun a ha w hw => ?_⟩
  have h1 : wpHeld P ops (TreeUQ P B w0 ops l Q H t) (St B w0 H) [o] a w := h.run a ha w hw
  have h2 : wpHeld P ops (TreeUQ P B w0 ops l Q H u) (St B w0 H) [o'] a w := h'.run a ha w hw
  unfold wpTreeU
  rw [ho, ho', ← treeUQ_eq, ← treeUQ_eq]
  exact ⟨h1, h2⟩
theorem VU_n3 {l : List Oper} {F : List HP} {i j q : Nat} {t u v : OU} {o o' o2 : Oper} (ho : nthO l i = o) (ho' : nthO l j = o') (ho2 : nthO l q = o2) (h : VL P (some (some F)) n B w0 ops (TreeUQ P B w0 ops l Q H t) [o] env H)
    (h' : VL P (some (some F)) n B w0 ops (TreeUQ P B w0 ops l Q H u) [o'] env H) (h2 : VL P (some (some F)) n B w0 ops (TreeUQ P B w0 ops l Q H v) [o2] env H) : VU P n B w0 ops l Q (.n3 i t j u q v) env H F := by
  refine ⟨fun a ha w hw => ?_⟩
  have h1 : wpHeld P ops (TreeUQ P B w0 ops l Q H t) (St B w0 H) [o] a w := h.run a ha w hw
  have h2' : wpHeld P ops (TreeUQ P B w0 ops l Q H u) (St B w0 H) [o'] a w := h'.run a ha w hw
  have h3 : wpHeld P ops (TreeUQ P B w0 ops l Q H v) (St B w0 H) [o2] a w := h2.run a ha w hw
  unfold wpTreeU
  rw [ho, ho', ho2, ← treeUQ_eq, ← treeUQ_eq, ← treeUQ_eq]
  exact ⟨h1, h2', h3⟩
theorem VQ_treeu {l : List Oper} {F H' Hc : List HP} {t : OU} (hp : Pull Hc H' F) (h : VU P n B w0 ops l Q t env Hc F) : VQ n B w0 (TreeUQ P B w0 ops l Q Hc t) .normal env H' :=
  ⟨fun a w ha hw => h.run a ha w (hw.perm hp)⟩

/-- A region that draws its order: a tree of orders, and the last operations. -/
theorem VC_treeU {id : Nat} {l : List Oper} (t : OU) (last : List Nat) (mask : List Bool) {Hc F : List HP} (hm : P.follows .mixedOrders = true)
    (hB : (Region.noSelect l.toArray && decide (last.length ≤ l.toArray.size) && lastH l.toArray last && treeBU l.toArray last t (Array.replicate l.toArray.size false) (l.toArray.size - last.length)) = true)
    (hsp : Split mask H Hc F) {l2 : List Oper} (hl2 : pickOps l last = l2) (h : VU P n B w0 l.toArray l (TailQ P l.toArray (Only Q) l2) t env Hc F) : VC P n B w0 (.region id l.toArray true) Q env H := by
  simp only [Bool.and_eq_true, decide_eq_true_eq] at hB
  obtain ⟨⟨⟨h1, h2⟩, h3⟩, h5⟩ := hB
  refine ⟨fun a w ha hw => wp_mono (Q := Only Q) ?_ fun e a w h => by cases e <;> first | exact h | cases h⟩
  have hst : St B w0 (Hc ++ F) w.drew := (hw.perm (split_perm hsp)).drew
  have hr := h.run a ha w.drew hst
  rw [← hl2] at hr
  have := tree_soundU (S := St B w0 Hc) h1 (fun c a w h => h) (by rintro ⟨_, _, h⟩; exact h) l rfl h3 t _ _ a w.drew (closed_none _ _) h5 hst.prefix_ hr
  rw [Nat.sub_add_cancel h2] at this
  exact wp_region_any hm (wpAny_of_N _ _ _ _ this)
end

/-! ### Maps of truths -/
/-- Just the keys of f are in the map, and are true. -/
def MB (es : Ents) (f : Int → Bool) : Prop := ∀ k, mget es k = if f k = true then some (.bool true) else none
structure MOk (es : Ents) (clock : Nat) : Prop where
  nd : (es.map fun e => e.2.2).Nodup
  kn : (es.map fun e => e.1).Nodup
  lt : ∀ e ∈ es, e.2.2 < clock
theorem MB.nil : MB [] (fun _ => false) := fun _ => rfl
theorem MOk.nil {c : Nat} : MOk [] c := ⟨List.nodup_nil, List.nodup_nil, fun _ h => by cases h⟩
theorem mget_append (es l : Ents) (k : Int) : mget (es ++ l) k = (mget es k).or (mget l k) := by
  unfold mget
  rw [List.find?_append]
  cases es.find? (fun e => e.1 == k) <;> rfl
theorem MB.ext {es : Ents} {f g : Int → Bool} (h : MB es f) (e : ∀ v, f v = g v) : MB es g := fun k => by rw [← e k]; exact h k
theorem MB.put {es : Ents} {f : Int → Bool} {k : Int} {c : Nat} (h : MB es f) (hk : f k = false) : MB (es ++ [(k, .bool true, c)]) (fun v => decide (v = k) || f v) := fun v => by
  rw [mget_append, h v]
  by_cases hv : v = k
  · subst hv
    rw [hk]
    simp [mget]
  · have : (k == v) = false := by simpa using Ne.symm hv
    cases hf : f v <;> simp [mget, hv, this, hf]
theorem MB.mem {es : Ents} {f : Int → Bool} (h : MB es f) {e : Int × Value × Nat} (he : e ∈ es) : f e.1 = true := by
  have hk := h e.1
  cases hf : f e.1 with
  | true => rfl
  | false =>
    rw [hf, if_neg (by decide)] at hk
    unfold mget at hk
    cases hx : es.find? (fun x => x.1 == e.1) with
    | none => have := List.find?_eq_none.1 hx e he; simp at this
    | some x => rw [hx] at hk; cases hk
theorem MOk.put {es : Ents} {f : Int → Bool} {k : Int} {v : Value} {c : Nat} (h : MOk es c) (hf : MB es f) (hk : f k = false) : MOk (es ++ [(k, v, c)]) (c + 1) := by
  refine ⟨?_, ?_, fun e he => ?_⟩
  · rw [List.map_append]
    refine List.nodup_append.2 ⟨h.nd, by simp, fun a ha b hb => ?_⟩
    obtain ⟨e, he, rfl⟩ := List.mem_map.1 ha
    obtain rfl : b = c := by simpa using hb
    have := h.lt e he
    omega
  · rw [List.map_append]
    refine List.nodup_append.2 ⟨h.kn, by simp, fun a ha b hb => ?_⟩
    obtain ⟨e, he, rfl⟩ := List.mem_map.1 ha
    obtain rfl : b = k := by simpa using hb
    intro e2
    have := hf.mem he
    rw [e2, hk] at this
    cases this
  · rcases List.mem_append.1 he with he | he
    · have := h.lt e he; omega
    · obtain rfl := List.mem_singleton.1 he
      exact Nat.lt_succ_self _
theorem MB.at_ {es : Ents} {f : Int → Bool} (h : MB es f) {k : Int} (hk : f k = true) : ∃ e ∈ es, e.1 = k := by
  have h1 := h k
  rw [hk, if_pos rfl] at h1
  unfold mget at h1
  cases hx : es.find? (fun x => x.1 == k) with
  | none => rw [hx] at h1; cases h1
  | some x => exact ⟨x, List.mem_of_find?_eq_some hx, by simpa using List.find?_some hx⟩
theorem Upd.same {A : HP} : ∀ {L : List HP}, A ∈ L → Upd A A L L
  | _ :: _, .head _ => Upd.here _
  | X :: _, .tail _ h => (Upd.same h).there X

section
variable {P : Program} {m : Mode} {n B : Nat} {w0 : World} {ops : Array Oper} {Q : Exit → Act → World → Prop} {rest : List Oper} {env : Env} {H : List HP} {d : Nat} {ty : TypeId} {pos : String} {after : Array Edge} {x y u : Operand}
theorem VL_neg {xt : TypeId} {a : Int} (hx : evo env x = some (.int .i64 a)) (hn : Nat.ble (d + 1) n = true) (hb : -9223372036854775808 ≤ -a ∧ -a ≤ 9223372036854775807) (h : VL P m n B w0 ops Q rest ((d, .int .i64 (-a)) :: env) H) :
    VL P m n B w0 ops Q (⟨some d, .unOp .neg xt x, ty, pos, after, none⟩ :: rest) env H :=
  VL_pure rfl rfl hn rfl (fun a' w ha _ => by
    have h0 : (Op.intArith .sub .i64 0 a).run P w = .ok (.int .i64 (-a)) w := by
      show Result.ok (Value.int .i64 (IntKind.i64.wrap (0 - a))) w = _
      rw [Int.zero_sub, IntWalk.i64_in _ hb]
    simp [execOp, ha.eval hx, Op.unary, h0]) h
theorem VL_lookB {t kt et g clock : Nat} {es : Ents} {f : Int → Bool} {k : Int} {b : Bool} (hx : evo env x = some (.map (some g))) (hy : evo env y = some (.int .i64 k)) (hm : blk g (mobj es clock) ∈ H) (ht : mapT P t kt et = true) (hn : Nat.ble (d + 1) n = true) (hz : zeroT P et = some (.bool false)) (hf : MB es f) (hk : f k = b)
    (h : VL P m n B w0 ops Q rest ((d, .bool b) :: env) H) : VL P m n B w0 ops Q (⟨some d, .lookup t x y false, ty, pos, after, none⟩ :: rest) env H := by
  have h1 := hf k
  cases b with
  | true => rw [hk, if_pos rfl] at h1; exact VL_lookup1 hx hy hm ht hn h1 h
  | false => rw [hk, if_neg (by decide)] at h1; exact VL_lookup0 hx hy hm ht hn h1 (zero_run hz) h
theorem VL_setB {t kt et g clock : Nat} {es : Ents} {f : Int → Bool} {k : Int} {K : Ents → Nat → List HP} (hx : evo env x = some (.map (some g))) (hy : evo env y = some (.int .i64 k)) (hv : evo env u = some (.bool true)) (ht : mapT P t kt et = true) (hu : ∀ es' c', Upd (blk g (mobj es clock)) (blk g (mobj es' c')) H (K es' c')) (hf : MB es f) (ho : MOk es clock)
    (h : ∀ es' c', MB es' (fun v => decide (v = k) || f v) → MOk es' c' → clock ≤ c' → (∀ e ∈ es, e ∈ es') → VL P none n B w0 ops Q rest env (K es' c')) : VL P none n B w0 ops Q (⟨none, .mapUpdate t x y u, ty, pos, after, none⟩ :: rest) env H := by
  have h1 := hf k
  cases hk : f k with
  | true =>
    rw [hk, if_pos rfl] at h1
    obtain ⟨l1, b, l2, rfl, hl, _⟩ := findNow_some 0 h1
    exact VL_mapOld hx hy hv ht (hu _ _) hl (h _ _ (hf.ext fun v => by by_cases e : v = k <;> simp [e, hk]) ho (Nat.le_refl _) fun _ he => he)
  | false =>
    rw [hk, if_neg (by decide)] at h1
    exact VL_mapNew hx hy hv ht (hu _ _) h1 (h _ _ (hf.put hk) (ho.put hf hk) (Nat.le_succ _) fun _ he => List.mem_append_left _ he)
theorem VL_insOld {t kt et g clock b : Nat} {l1 l2 : Ents} {k : Int} {v v0 : Value} {K : List HP} (hx : evo env x = some (.map (some g))) (hy : evo env y = some (.int .i64 k)) (hv : evo env u = some v) (ht : mapT P t kt et = true)
    (hu : Upd (blk g (mobj (l1 ++ (k, v0, b) :: l2) clock)) (blk g (mobj (l1 ++ (k, v, b) :: l2) clock)) H K) (hk : ∀ e ∈ l1, e.1 ≠ k)
    (h : VL P none n B w0 ops Q rest env K) : VL P none n B w0 ops Q (⟨none, .insert t x y u, ty, pos, after, none⟩ :: rest) env H := by
  obtain ⟨h1, h2⟩ := mapT_spec ht
  refine VL_skip rfl rfl (fun a w ha hw => ⟨setBlock w g (mobj (l1 ++ (k, v, b) :: l2) clock), ?_, hw.setBlock hu⟩) h
  have hb : w.heap[g]? = some (mobj (l1 ++ (k, v0, b) :: l2) clock) := by
    obtain ⟨L1, L2, rfl, _⟩ := hu
    exact (hw.blk (by simp)).1
  unfold mobj at hb
  have hf := findNow_at (l2 := l2) (v0 := v0) (b := b) hk
  have hsz : (l1 ++ (k, v0, b) :: l2).map toE = l1.map toE ++ toE (k, v0, b) :: l2.map toE := by simp
  have hget : ((List.map toE (l1 ++ (k, v0, b) :: l2)).toArray)[l1.length]? = some (toE (k, v0, b)) := by rw [hsz]; simp
  have hmod : ((List.map toE (l1 ++ (k, v0, b) :: l2)).toArray).modify l1.length (fun e => { e with key := .int .i64 k, val := v }) = (List.map toE (l1 ++ (k, v, b) :: l2)).toArray := by
    rw [hsz, List.modify_toArray, show l1.length = (l1.map toE).length by simp, modify_mid]; simp [toE]
  have hks : (Instr.keyThatStays (.int .i64 k) (.int .i64 k)).run P w = .ok (.int .i64 k) w := by
    unfold Instr.keyThatStays; simp [Instr.sameBits]
  have hkey : (Option.map (fun x : MapEntry => x.key) (some (toE (k, v0, b)))).getD (.int .i64 k) = .int .i64 k := rfl
  have hrun : (Instr.mapUpdate t (.map (some g)) (.int .i64 k) v).run P w = .ok () (setBlock w g (mobj (l1 ++ (k, v, b) :: l2) clock)) := by
    simp only [Instr.mapUpdate, Sem.run_bind, run_underlying h1, getObj, Sem.run, hb, run_checkInt _ h2, MapKept.run_findKey h2 hf, hget, hkey, hks, hmod, Result.andThen, MapKept.run_setObj_map _ hb, setBlock, mobj]
  simp [execOp, ha.eval hx, ha.eval hy, ha.eval hv, hrun]
theorem VL_rangeNil {t kt et : Nat} (hx : evo env x = some (.map none)) (ht : mapT P t kt et = true) (hn : Nat.ble (d + 1) n = true)
    (h : ∀ r, VL P none n B w0 ops Q rest ((d, .pointer (some ⟨r, 0, none⟩)) :: env) (blk r (.mapIter none 0 #[] 0) :: H)) : VL P none n B w0 ops Q (⟨some d, .range t x, ty, pos, after, none⟩ :: rest) env H := by
  obtain ⟨h1, h2⟩ := mapT_spec ht
  refine VL_opE (fun v K => ∃ r, v = .pointer (some ⟨r, 0, none⟩) ∧ K = blk r (.mapIter none 0 #[] 0) :: H) rfl rfl hn (fun a w ha hw => ?_) (by rintro _ _ ⟨g, rfl, rfl⟩; exact h g)
  refine ⟨_, _, w.alloc (.mapIter none 0 #[] 0), ?_, hw.alloc _, w.heap.size, rfl, rfl⟩
  simp [execOp, ha.eval hx, Instr.range, run_underlying h1, Sem.run, newObj]
theorem VL_nextNil {r : Nat} (hx : evo env x = some (.pointer (some ⟨r, 0, none⟩))) (hm : blk r (.mapIter none 0 #[] 0) ∈ H) (hn : Nat.ble (d + 1) n = true)
    (h : VL P none n B w0 ops Q rest ((d, .tuple #[.bool false]) :: env) H) : VL P none n B w0 ops Q (⟨some d, .next x false, ty, pos, after, none⟩ :: rest) env H := by
  refine VL_op rfl rfl hn (fun a w ha hw => ⟨w, ?_, hw⟩) h
  have hb := (hw.blk hm).1
  simp [execOp, ha.eval hx, Instr.next, getObj, Sem.run, hb]
theorem VL_insB {t kt et g clock : Nat} {es : Ents} {f : Int → Bool} {k : Int} {K : Ents → Nat → List HP} (hx : evo env x = some (.map (some g))) (hy : evo env y = some (.int .i64 k)) (hv : evo env u = some (.bool true)) (ht : mapT P t kt et = true) (hu : ∀ es' c', Upd (blk g (mobj es clock)) (blk g (mobj es' c')) H (K es' c')) (hf : MB es f) (ho : MOk es clock)
    (h : ∀ es' c', MB es' (fun v => decide (v = k) || f v) → MOk es' c' → VL P none n B w0 ops Q rest env (K es' c')) : VL P none n B w0 ops Q (⟨none, .insert t x y u, ty, pos, after, none⟩ :: rest) env H := by
  have h1 := hf k
  cases hk : f k with
  | true =>
    rw [hk, if_pos rfl] at h1
    obtain ⟨l1, b, l2, rfl, hl, _⟩ := findNow_some 0 h1
    refine VL_insOld hx hy hv ht (hu _ _) hl (h _ _ (hf.ext fun v => by by_cases e : v = k <;> simp [e, hk]) ho)
  | false =>
    rw [hk, if_neg (by decide)] at h1
    exact VL_insNew hx hy hv ht (hu _ _) h1 (h _ _ (hf.put hk) (ho.put hf hk))
theorem VL_delB {t kt et g clock : Nat} {es : Ents} {f : Int → Bool} {k : Int} {K : Ents → List HP} (hx : evo env x = some (.map (some g))) (hy : evo env y = some (.int .i64 k)) (ht : mapT P t kt et = true) (hu : ∀ es', Upd (blk g (mobj es clock)) (blk g (mobj es' clock)) H (K es')) (hf : MB es f) (ho : MOk es clock) (hk : f k = true)
    (h : ∀ es', MB es' (fun v => !decide (v = k) && f v) → MOk es' clock → VL P none n B w0 ops Q rest env (K es')) : VL P none n B w0 ops Q (⟨none, .call ⟨.builtin .delete, #[x, y], #[t, kt]⟩, ty, pos, after, none⟩ :: rest) env H := by
  have h1 := hf k
  have hkn := ho.kn
  rw [hk, if_pos rfl] at h1
  obtain ⟨l1, b, l2, rfl, hl, _⟩ := findNow_some 0 h1
  have hsub : (l1 ++ l2).Sublist (l1 ++ (k, .bool true, b) :: l2) := List.Sublist.append (List.Sublist.refl _) (List.sublist_cons_self _ _)
  refine VL_delete hx hy ht (hu _) hl (h _ (fun v => ?_) ⟨ho.nd.sublist (hsub.map _), ho.kn.sublist (hsub.map _), fun e he => ho.lt e (hsub.subset he)⟩)
  have hv := hf v
  rw [mget_append] at hv ⊢
  by_cases e : v = k
  · subst e
    rw [List.map_append, List.map_cons, List.nodup_append, List.nodup_cons] at hkn
    have n1 : mget l1 v = none := by
      unfold mget
      rw [List.find?_eq_none.2 fun x hx => by simpa using hl x hx]; rfl
    have n2 : mget l2 v = none := by
      unfold mget
      rw [List.find?_eq_none.2 fun x hx => by
        have : x.1 ≠ v := fun e => hkn.2.1.1 (List.mem_map.2 ⟨x, hx, e⟩)
        simpa using this]; rfl
    rw [n1, n2]
    simp
  · have hc : mget ((k, Value.bool true, b) :: l2) v = mget l2 v := by
      have : (k == v) = false := by simpa using Ne.symm e
      simp [mget, this]
    rw [hc] at hv
    rw [hv]
    simp [e]
end
end Go.Eng

/- Walks: add, split. -/
namespace Go.Proofs.YtleldppdflgmgaaGreat
open Go.RowKit Go.Eng Go.Nw Go.Rt

theorem eds_pair (A : Option Addr) (cap : Nat) (es : List Ed) (f t c : Int) : sl 102 4 A (es.length + 2) cap (es.flatMap edF ++ [Value.int .i64 f, .int .i64 t, .int .i64 c, .int .i64 1, .int .i64 t, .int .i64 f, .int .i64 (-c), .int .i64 0]) = sl 102 4 A (es ++ pairE f t c).length cap ((es ++ pairE f t c).flatMap edF) := by
  simp [pairE, List.flatMap_append, edF]
theorem add_spec (g sides : Nat) (es : List Ed) (f t c : Int) (hel : es.length ≤ 100000) (hc : -1000000 ≤ c ∧ c ≤ 1000000) {A : Option Addr} {cap : Nat} {B : Nat} {w0 : World} {H : List HP} {w : World} (hw : St B w0 (gpcs g sides A cap es H) w) :
    Calls Tryz.prog 87 [.pointer (some ⟨g, 0, none⟩), .int .i64 f, .int .i64 t, .int .i64 c].toArray w (Post B w0 fun v K => ∃ A' cap', v = .tuple #[] ∧ K = gpcs g sides A' cap' (es ++ pairE f t c) H) := by
  refine Calls_of_VC Tryz.func87 Tryz.ntmps87 rfl rfl hw ?_
  unfold gpcs
  repeat' (first | (apply VL_neg; exact rfl; exact rfl; omega) | apply (zs1 ?_) | apply (zs5 ?_) | (apply zg2; refine zs6 ?_) | (apply zg3; refine zs7 ?_) | (apply zg21; (refine zs49 ?_; intro _ _)) | (apply zg22; refine zs50 ?_) | (apply zg25; refine zs55 ?_) | (apply zg26; (refine zs56 ?_; intro _)) | apply (zs65 ?_) | apply (zs70 ?_) | fail)
  rename_i A' cap'
  apply VQ_st (gpcs g sides A' cap' (es ++ pairE f t c) H)
  · unfold gpcs
    have e1 : (es ++ pairE f t c).length = es.length + 2 := by simp [pairE]
    rw [← eds_pair, e1]
    (intro w hw; refine hw.perm ?_; focus repeat (first | with_reducible exact Perm.refl _ | (with_reducible apply perm_take; focus ((repeat (first | with_reducible exact rem_here | with_reducible apply rem_there)); done)) | with_reducible apply Perm.dropK))
  apply VQ_end0; exact rfl
  exact ⟨A', cap', rfl, rfl⟩

theorem nodeEs_yes {closed : Int → Bool} {k : Nat} (h : closed (k : Int) = false) : nodeEs closed (k + 1) = nodeEs closed k ++ pairE (2 * (k : Int)) (2 * (k : Int) + 1) 0 := by
  unfold nodeEs
  rw [List.range_succ, List.flatMap_append]
  simp [h]
theorem nodeEs_no {closed : Int → Bool} {k : Nat} (h : closed (k : Int) = true) : nodeEs closed (k + 1) = nodeEs closed k := by
  unfold nodeEs
  rw [List.range_succ, List.flatMap_append]
  simp [h]
theorem nodeEs_len (closed : Int → Bool) : ∀ k, (nodeEs closed k).length ≤ 2 * k
  | 0 => by simp [nodeEs]
  | k + 1 => by
    have := nodeEs_len closed k
    cases h : closed (k : Int)
    · rw [nodeEs_yes h, List.length_append]; simp [pairE]; omega
    · rw [nodeEs_no h]; omega
theorem arcEs_snoc (l : List Lk) (a : Lk) : arcEs (l ++ [a]) = arcEs l ++ pairE (2 * a.1 + 1) (2 * a.2.1) a.2.2 := by simp [arcEs, List.flatMap_append]
theorem arcEs_len (l : List Lk) : (arcEs l).length = 2 * l.length := by
  induction l with
  | nil => rfl
  | cons a l ih =>
    unfold arcEs at ih ⊢
    rw [List.flatMap_cons, List.length_append, ih]
    simp [pairE]; omega

structure Sz where
  k : Nat
  A : Option Addr
  cap : Nat
set_option maxRecDepth 10000 in
theorem split_spec (nodes : Nat) (l : List Lk) (closed : Int → Bool) (gm clock : Nat) (ents : Ents) (hn : nodes ≤ 1000) (hl : l.length ≤ 1000) (hok : ArcsOk nodes l) (hmb : MB ents closed) {AL : Option Addr} {capL B : Nat} {w0 : World} {H : List HP} {w : World} (hm : blk gm (mobj ents clock) ∈ H) (hr : Rd B w0 H AL (l.flatMap lkF)) (hw : St B w0 H w) :
    Calls Tryz.prog 59 [.int .i64 nodes, .slice AL l.length capL, .map (some gm)].toArray w (Post B w0 fun v K => ∃ g A cap, v = .pointer (some ⟨g, 0, none⟩) ∧ K = gpcs g (2 * nodes) A cap (splitE nodes l closed) H) := by
  refine Calls_of_VC Tryz.func59 Tryz.ntmps59 rfl rfl hw ?_
  repeat' (first | apply (zs1 ?_) | apply (zs2 ?_) | (apply zg15; refine zs32 ?_) | (apply zg23; (refine zs52 ?_; intro _)) | (apply zg25; refine zs55 ?_) | apply (zs65 ?_) | apply (zs68 ?_) | apply (zs69 ?_) | apply (zs70 ?_) | apply (zs73 ?_) | fail)
  rename_i g
  refine VC_loop1 (fun (z : Sz) => [(16, .int .i64 z.k), (15, .int .i64 nodes), (7, .pointer (some ⟨g, 0, none⟩)), (1, .slice AL l.length capL), (2, .map (some gm))])
    (fun z => gpcs g (2 * nodes) z.A z.cap (nodeEs closed z.k) H) (fun z => z.k ≤ nodes) (fun z => nodes - z.k) ⟨0, none, 0⟩ (Nat.zero_le _) ?_ ?_ ?_
  · (repeat (first | exact sub_nil _ | (apply sub_cons; first | exact rfl | exact congrArg (fun z : Int => some (Value.int .i64 z)) (by omega))))
  · intro w hw
    have h5 := hw.nilSlice 102 4
    revert h5
    unfold gpcs
    exact fun h5 => h5.perm (.swap _ _ _)
  rintro ⟨k, A, cap⟩ hk K hK
  simp only at hk ⊢
  have hnl := nodeEs_len closed k
  by_cases hlt : k < nodes
  · obtain ⟨b, hb⟩ : ∃ b, closed (k : Int) = b := ⟨_, rfl⟩
    have hmk : blk gm (mobj ents clock) ∈ gpcs g (2 * nodes) A cap (nodeEs closed k) H := List.mem_cons_of_mem _ (List.mem_cons_of_mem _ hm)
    cases b with
    | true =>
      have e2 := nodeEs_no hb
      unfold gpcs at hmk ⊢
      repeat' (first | (apply VL_lookB (kt := 3) (et := 4); exact rfl; exact rfl; exact hmk; kernel_rfl; exact rfl; kernel_rfl; exact hmb; exact hb) | apply (zs1 ?_) | apply (zs2 ?_) | (apply (zs17 ?_ ?_) <;> intro _ <;> try (exfalso; omega)) | (apply zg13; refine zs30 ?_) | (apply zg20; refine zs47 ?_) | apply (zs65 ?_) | apply (zs68 ?_) | apply (zs69 ?_) | apply (zs70 ?_) | (apply zg27; first | refine zs71 ?_ | refine zs72 ?_) | apply (zs73 ?_) | apply (zs76 ?_) | apply (zs79 ?_) | fail)
      apply hK ⟨k + 1, A, cap⟩
      · simp only; omega
      · simp only; omega
      · (repeat (first | exact sub_nil _ | (apply sub_cons; first | exact rfl | exact congrArg (fun z : Int => some (Value.int .i64 z)) (by omega))))
      · dsimp only
        rw [e2]
        exact fun w hw => hw
    | false =>
      have e2 := nodeEs_yes hb
      unfold gpcs at hmk
      repeat' (first | (apply VL_lookB (kt := 3) (et := 4); exact rfl; exact rfl; exact hmk; kernel_rfl; exact rfl; kernel_rfl; exact hmb; exact hb) | apply (zs1 ?_) | apply (zs2 ?_) | (apply (zs17 ?_ ?_) <;> intro _ <;> try (exfalso; omega)) | (apply zg13; refine zs30 ?_) | (apply zg15; refine zs32 ?_) | (apply zg20; refine zs48 ?_) | apply (zs65 ?_) | apply (zs68 ?_) | apply (zs69 ?_) | apply (zs70 ?_) | (apply zg27; refine zs71 ?_) | apply (zs73 ?_) | apply (zs76 ?_) | fail)
      apply VL_call _ en87
      (repeat (first | exact args_nil | (apply args_cons; exact rfl)))
      exact rfl
      exact fun _ hw => (add_spec g (2 * nodes) (nodeEs closed k) (2 * (k : Int)) (2 * (k : Int) + 1) 0 (by omega) (by omega) (hw))
      rintro _ _ ⟨A3, cap3, rfl, rfl⟩
      repeat' (first | apply (zs1 ?_) | (apply zg13; refine zs30 ?_) | apply (zs65 ?_) | apply (zs68 ?_) | apply (zs70 ?_) | apply (zs79 ?_) | fail)
      apply hK ⟨k + 1, A3, cap3⟩
      · simp only; omega
      · simp only; omega
      · (repeat (first | exact sub_nil _ | (apply sub_cons; first | exact rfl | exact congrArg (fun z : Int => some (Value.int .i64 z)) (by omega))))
      · dsimp only
        rw [e2]
        exact fun w hw => hw
  · obtain rfl : k = nodes := by omega
    clear hK
    repeat' (first | apply (zs1 ?_) | (apply zg4; refine zs9 ?_) | (apply (zs17 ?_ ?_) <;> intro _ <;> try (exfalso; omega)) | apply (zs65 ?_) | apply (zs68 ?_) | apply (zs69 ?_) | apply (zs70 ?_) | (apply zg27; refine zs72 ?_) | apply (zs73 ?_) | apply (zs75 ?_) | apply (zs80 ?_) | apply (zs81 ?_) | fail)
    refine VC_loop1 (fun (z : Sz) => [(33, .int .i64 z.k), (32, .int .i64 l.length), (31, .slice AL l.length capL), (7, .pointer (some ⟨g, 0, none⟩))])
      (fun z => gpcs g (2 * k) z.A z.cap (nodeEs closed k ++ arcEs (l.take z.k)) H) (fun z => z.k ≤ l.length) (fun z => l.length - z.k) ⟨0, A, cap⟩ (Nat.zero_le _) ?_ ?_ ?_
    · (repeat (first | exact sub_nil _ | (apply sub_cons; first | exact rfl | exact congrArg (fun z : Int => some (Value.int .i64 z)) (by omega))))
    · dsimp only
      rw [List.take_zero, show arcEs [] = [] from rfl, List.append_nil]
      exact fun w hw => hw
    rintro ⟨j, A2, cap2⟩ hj K hK
    simp only at hj ⊢
    have hal := arcEs_len (l.take j)
    rw [List.length_take] at hal
    by_cases hlt : j < l.length
    · obtain ⟨a, ha⟩ : ∃ a, l[j]? = some a := ⟨_, List.getElem?_eq_getElem hlt⟩
      obtain ⟨⟨a1, a2⟩, ⟨a3, a4⟩, ⟨a5, a6⟩⟩ := hok a (List.mem_of_getElem? ha)
      have e2 : arcEs (l.take (j + 1)) = arcEs (l.take j) ++ pairE (2 * a.1 + 1) (2 * a.2.1) a.2.2 := by rw [List.take_add_one, ha]; exact arcEs_snoc _ _
      have hrk : Rd B w0 (gpcs g (2 * k) A2 cap2 (nodeEs closed k ++ arcEs (l.take j)) H) AL (l.flatMap lkF) := (hr.cons).cons
      repeat' (first | apply (zs1 ?_) | (apply zg2; refine zs6 ?_) | (apply zg3; first | refine zs7 ?_ | refine zs61 ?_) | (apply zg5; refine zs57 ?_) | (apply (zs17 ?_ ?_) <;> intro _ <;> try (exfalso; omega)) | (apply zg13; refine zs30 ?_) | (apply zg15; refine zs32 ?_) | (apply zg22; refine zs51 ?_) | (apply zg24; (refine zs54 ?_; intro _)) | apply (zs65 ?_) | apply (zs68 ?_) | apply (zs69 ?_) | apply (zs70 ?_) | (apply zg27; refine zs71 ?_) | apply (zs73 ?_) | apply (zs76 ?_) | fail)
      rename_i ga
      apply VL_st (gpcs g (2 * k) A2 cap2 (nodeEs closed k ++ arcEs (l.take j)) (blk ga (.cells #[.int .i64 a.1, .int .i64 a.2.1, .int .i64 a.2.2] 55 (0, 0)) :: H))
      · unfold gpcs
        (intro w hw; refine hw.perm ?_; focus repeat (first | with_reducible exact Perm.refl _ | (with_reducible apply perm_take; focus ((repeat (first | with_reducible exact rem_here | with_reducible apply rem_there)); done)) | with_reducible apply Perm.dropK))
      apply VL_call _ en87
      (repeat (first | exact args_nil | (apply args_cons; exact rfl)))
      exact rfl
      exact fun _ hw => (add_spec g (2 * k) (nodeEs closed k ++ arcEs (l.take j)) (2 * a.1 + 1) (2 * a.2.1) a.2.2 (by rw [List.length_append]; omega) (by omega) (hw))
      rintro _ _ ⟨A3, cap3, rfl, rfl⟩
      repeat' (first | apply (zs1 ?_) | (apply zg13; refine zs30 ?_) | apply (zs65 ?_) | apply (zs68 ?_) | apply (zs70 ?_) | apply (zs79 ?_) | fail)
      apply hK ⟨j + 1, A3, cap3⟩
      · simp only; omega
      · simp only; omega
      · (repeat (first | exact sub_nil _ | (apply sub_cons; first | exact rfl | exact congrArg (fun z : Int => some (Value.int .i64 z)) (by omega))))
      · dsimp only
        rw [e2, ← List.append_assoc]
        unfold gpcs
        (intro w hw; refine hw.perm ?_; focus repeat (first | with_reducible exact Perm.refl _ | (with_reducible apply perm_take; focus ((repeat (first | with_reducible exact rem_here | with_reducible apply rem_there)); done)) | with_reducible apply Perm.dropK))
    · obtain rfl : j = l.length := by omega
      clear hK
      rw [List.take_length]
      repeat' (first | apply (zs1 ?_) | apply (zs2 ?_) | (apply (zs17 ?_ ?_) <;> intro _ <;> try (exfalso; omega)) | apply (zs65 ?_) | apply (zs68 ?_) | apply (zs69 ?_) | apply (zs70 ?_) | (apply zg27; refine zs72 ?_) | apply (zs74 ?_) | apply (zs75 ?_) | apply (zs80 ?_) | apply (zs81 ?_) | fail)
      apply VQ_ret1; exact rfl; exact rfl
      exact ⟨g, A2, cap2, rfl, rfl⟩
end Go.Proofs.YtleldppdflgmgaaGreat

/- Walk: both. -/
namespace Go.Proofs.YtleldppdflgmgaaGreat
open Go.RowKit Go.Eng Go.Nw Go.Rt

theorem splitE_in {nodes : Nat} {l : List Lk} {closed : Int → Bool} (h : ArcsOk nodes l) : EdsIn (2 * nodes) 1 (splitE nodes l closed) := by
  intro e he
  rcases List.mem_append.1 he with he | he
  · obtain ⟨v, hv, he⟩ := List.mem_flatMap.1 he
    have hv := List.mem_range.1 hv
    split at he
    · cases he
    · simp only [pairE, List.mem_cons, List.not_mem_nil, or_false] at he
      rcases he with rfl | rfl <;> simp only <;> omega
  · obtain ⟨a, ha, he⟩ := List.mem_flatMap.1 he
    obtain ⟨h1, h2, h3⟩ := h a ha
    simp only [pairE, List.mem_cons, List.not_mem_nil, or_false] at he
    rcases he with rfl | rfl <;> simp only <;> omega
theorem splitE_len (nodes : Nat) (l : List Lk) (closed : Int → Bool) : (splitE nodes l closed).length ≤ 2 * nodes + 2 * l.length := by
  unfold splitE
  rw [List.length_append, arcEs_len]
  have := nodeEs_len closed nodes
  omega
theorem seen_less {es : Ents} {seen : Array Nat} {e : Int × Value × Nat} (he : e ∈ es) (hs : seen.contains e.2.2 = false) : (es.filter fun x => !(seen.push e.2.2).contains x.2.2).length < (es.filter fun x => !seen.contains x.2.2).length := by
  have h1 : (es.filter fun x => !(seen.push e.2.2).contains x.2.2) = (es.filter fun x => !seen.contains x.2.2).filter fun x => !(x.2.2 == e.2.2) := by
    rw [List.filter_filter]
    congr 1
    funext x
    rw [Array.contains_push]
    cases seen.contains x.2.2 <;> cases x.2.2 == e.2.2 <;> rfl
  rw [h1]
  refine List.length_filter_lt_length_iff_exists.2 ⟨e, List.mem_filter.2 ⟨he, by rw [hs]; rfl⟩, by simp⟩

theorem ents_inj {es : Ents} (hn : (es.map fun e => e.2.2).Nodup) {x y : Int × Value × Nat} (hx : x ∈ es) (hy : y ∈ es) (e : x.2.2 = y.2.2) : x = y := by
  induction es with
  | nil => cases hx
  | cons a l ih =>
    rw [List.map_cons, List.nodup_cons] at hn
    rcases List.mem_cons.1 hx with h1 | h1 <;> rcases List.mem_cons.1 hy with h2 | h2
    · rw [h1, h2]
    · exact absurd (List.mem_map.2 ⟨y, h2, by rw [← e, h1]⟩) hn.1
    · exact absurd (List.mem_map.2 ⟨x, h1, by rw [e, h2]⟩) hn.1
    · exact ih hn.2 h1 h2
/-- A map of truths as an argument; it may be nil. -/
def MapArg (mo : Option Nat) (closed : Int → Bool) (H : List HP) : Prop := match mo with
  | none => ∀ v, closed v = false
  | some gm => ∃ ents clock, blk gm (mobj ents clock) ∈ H ∧ MB ents closed ∧ MOk ents clock
structure Mz (f : Int → Bool) where
  g : Nat
  es : Ents
  c : Nat
  mb : MB es f
  ok : MOk es c
structure Lz where
  es : Ents
  c : Nat
  seen : Array Nat
  f : Int → Bool

set_option maxRecDepth 10000 in
set_option maxHeartbeats 1000000 in
theorem both_spec (nodes : Nat) (l : List Lk) (a b to : Int) (mo : Option Nat) (closed : Int → Bool) (fuel : Nat) (r : Int × Bool × List Ed) (hn : 1 ≤ nodes ∧ nodes ≤ 50) (hl : l.length ≤ 900) (hok : ArcsOk nodes l) (ha : 0 ≤ a ∧ a < nodes) (hb : 0 ≤ b ∧ b < nodes) (ht : 0 ≤ to ∧ to < nodes) (hfu : fuel ≤ 100000) (hrun : bothF fuel nodes l a b to closed = some r)
    {AL : Option Addr} {capL B : Nat} {w0 : World} {H : List HP} {w : World} (hmo : MapArg mo closed H) (hr : Rd B w0 H AL (l.flatMap lkF)) (hw : St B w0 H w) :
    Calls Tryz.prog 32 [.int .i64 nodes, .slice AL l.length capL, .int .i64 a, .int .i64 b, .int .i64 to, .map mo].toArray w (Post B w0 fun v K => ∃ g A cap, v = .tuple #[.int .i64 r.1, .pointer (some ⟨g, 0, none⟩), .bool r.2.1] ∧ (r.2.2.length ≤ 2000 ∧ EdsIn (2 * nodes) 900000 r.2.2 ∧ -600000000000000 ≤ r.1 ∧ r.1 ≤ 3000000000) ∧ K = gpcs g (2 * nodes) A cap r.2.2 H) := by
  refine Calls_of_VC Tryz.func32 Tryz.ntmps32 rfl rfl hw ?_
  iterate 8 (first | apply (zs2 ?_) | apply (zs65 ?_) | apply (zs68 ?_) | apply (zs69 ?_) | apply (zs70 ?_) | fail)
  refine VC_cutQ (fun (z : Mz fun v => decide (v = a ∨ v = b ∨ v = to)) => [(15, .map (some z.g)), (0, .int .i64 nodes), (1, .slice AL l.length capL), (2, .int .i64 a), (3, .int .i64 b), (4, .int .i64 to), (5, .map mo)]) (fun z => blk z.g (mobj z.es z.c) :: H) ?_ ?_
  · intro K hK
    apply VC_treeU (.n1 1 (.n1 3 (.n1 5 (.n1 0 (.n3 2 (.n2 4 (.n1 6 (.n1 7 (.n1 8 .done))) 6 (.n1 4 (.n1 7 (.n1 8 .done)))) 4 (.n2 2 (.n1 6 (.n1 7 (.n1 8 .done))) 6 (.n1 2 (.n1 7 (.n1 8 .done)))) 6 (.n2 2 (.n1 4 (.n1 7 (.n1 8 .done))) 4 (.n1 2 (.n1 7 (.n1 8 .done))))))))) [] []
    kernel_rfl
    kernel_rfl
    (repeat (first | with_reducible exact split_nil | with_reducible apply split_t | with_reducible apply split_f))
    exact rfl
    repeat' (first | (apply VL_makeMap; exact rfl; intro gs) | (apply VL_insB (kt := 3) (et := 4); exact rfl; exact rfl; exact rfl; kernel_rfl; (intro _ _; (repeat (first | with_reducible exact Upd.here _ | with_reducible apply Upd.there))); (first | assumption | exact MB.nil); (first | assumption | exact MOk.nil); intro _ _ _ _) | (apply VU_n3; (simp only [nthO]; rfl); (simp only [nthO]; rfl); (simp only [nthO]; rfl)) | (apply VU_n2; (simp only [nthO]; rfl); (simp only [nthO]; rfl)) | (apply VU_n1; (simp only [nthO]; rfl)) | (apply VQ_treeu; (repeat (first | with_reducible exact pull_nil | (with_reducible apply pull_cons; (repeat (first | with_reducible exact rem_here | with_reducible apply rem_there)))))) | (apply VU_done; (repeat (first | with_reducible exact app_nil | with_reducible apply app_cons))) | apply (zs1 ?_) | apply (zs2 ?_) | apply (zs65 ?_) | (apply VL_nilh; (repeat (first | with_reducible exact app_nil | with_reducible apply app_cons))) | apply (zs87 ?_) | (apply VQ_heldq; (repeat (first | with_reducible exact pull_nil | (with_reducible apply pull_cons; (repeat (first | with_reducible exact rem_here | with_reducible apply rem_there)))))) | apply (zs93 ?_) | apply (zs94 ?_) | fail)
    all_goals (
      rename_i es3 c3 m3 o3
      refine hK ⟨gs, es3, c3, m3.ext fun v => ?_, o3⟩ _ _ ?_ ?_
      · by_cases h1 : v = a <;> by_cases h2 : v = b <;> by_cases h3 : v = to <;> simp [h1, h2, h3]
      · (repeat (first | exact sub_nil _ | (apply sub_cons; first | exact rfl | exact congrArg (fun z : Int => some (Value.int .i64 z)) (by omega))))
      · exact fun w hw => hw)
  rintro ⟨gs, es0, c0, mb0, ok0⟩
  dsimp only
  apply VC_seq
  refine VC_cutQ (fun (z : Mz (shutB a b to closed)) => [(15, .map (some z.g)), (0, .int .i64 nodes), (1, .slice AL l.length capL), (2, .int .i64 a), (3, .int .i64 b), (4, .int .i64 to)]) (fun z => blk z.g (mobj z.es z.c) :: H) ?_ ?_
  · intro KK hKK
    cases mo with
    | none =>
      repeat' (first | (apply VL_rangeNil (kt := 3) (et := 4); exact rfl; kernel_rfl; exact rfl; intro it) | apply (zs1 ?_) | apply (zs65 ?_) | apply (zs68 ?_) | apply (zs69 ?_) | apply (zs70 ?_) | apply (zs73 ?_) | fail)
      refine VC_loop1 (fun (_ : Unit) => [(28, .pointer (some ⟨it, 0, none⟩)), (15, .map (some gs)), (0, .int .i64 nodes), (1, .slice AL l.length capL), (2, .int .i64 a), (3, .int .i64 b), (4, .int .i64 to)]) (fun _ => blk it (.mapIter none 0 #[] 0) :: blk gs (mobj es0 c0) :: H) (fun _ => True) (fun _ => 0) () trivial ?_ (fun w hw => hw) ?_
      · (repeat (first | exact sub_nil _ | (apply sub_cons; first | exact rfl | exact congrArg (fun z : Int => some (Value.int .i64 z)) (by omega))))
      intro _ _ K hK
      clear hK
      repeat' (first | (apply VL_nextNil; exact rfl; (focus repeat (first | with_reducible exact List.mem_cons_self | with_reducible apply List.mem_cons_of_mem | assumption)); exact rfl) | apply (zs13 ?_) | apply (zs65 ?_) | apply (zs68 ?_) | apply (zs69 ?_) | apply (zs70 ?_) | (apply zg27; refine zs72 ?_) | apply (zs75 ?_) | apply (zs80 ?_) | apply (zs81 ?_) | fail)
      refine hKK ⟨gs, es0, c0, mb0.ext fun v => ?_, ok0⟩ _ _ ?_ ?_
      · unfold shutB; rw [hmo v, Bool.or_false]
      · (repeat (first | exact sub_nil _ | (apply sub_cons; first | exact rfl | exact congrArg (fun z : Int => some (Value.int .i64 z)) (by omega))))
      · exact fun w hw => hw.tail
    | some gm =>
      obtain ⟨ents, clock, hm, hmb, hmk⟩ := hmo
      repeat' (first | (apply VL_range (kt := 3) (et := 4) (g := gm); exact rfl; exact List.mem_cons_of_mem _ hm; kernel_rfl; exact rfl; intro it) | apply (zs1 ?_) | apply (zs65 ?_) | apply (zs68 ?_) | apply (zs69 ?_) | apply (zs70 ?_) | apply (zs73 ?_) | fail)
      refine VC_loop1 (fun (_ : Lz) => [(28, .pointer (some ⟨it, 0, none⟩)), (15, .map (some gs)), (0, .int .i64 nodes), (1, .slice AL l.length capL), (2, .int .i64 a), (3, .int .i64 b), (4, .int .i64 to)]) (fun z => blk it (.mapIter (some gm) clock z.seen clock) :: blk gs (mobj z.es z.c) :: H)
        (fun z => MB z.es z.f ∧ MOk z.es z.c ∧ (∀ v, z.f v = true → shutB a b to closed v = true) ∧ (∀ v, (v = a ∨ v = b ∨ v = to) → z.f v = true) ∧ ∀ e ∈ ents, z.seen.contains e.2.2 = true → z.f e.1 = true) (fun z => (ents.filter fun x => !z.seen.contains x.2.2).length) ⟨es0, c0, #[], fun v => decide (v = a ∨ v = b ∨ v = to)⟩ ⟨mb0, ok0, fun v h => by unfold shutB; simp only at h; rw [h]; rfl, fun v h => decide_eq_true h, fun e _ h => by simp at h⟩ ?_ (fun w hw => hw) ?_
      · (repeat (first | exact sub_nil _ | (apply sub_cons; first | exact rfl | exact congrArg (fun z : Int => some (Value.int .i64 z)) (by omega))))
      rintro ⟨es1, c1, seen, f⟩ ⟨i1, i2, i3, i4, i5⟩ K hK
      simp only at i1 i2 i3 i4 i5 ⊢
      repeat' (first | apply VC_seq | apply VC_block | apply VC_region | fail)
      apply VL_next (g := gm)
      · exact rfl
      · exact List.mem_cons_of_mem _ (List.mem_cons_of_mem _ hm)
      · exact rfl
      · intro _; (repeat (first | with_reducible exact Upd.here _ | with_reducible apply Upd.there))
      · exact hmk.lt
      · exact Nat.le_refl _
      · intro hall
        clear hK
        repeat' (first | apply (zs13 ?_) | apply (zs65 ?_) | apply (zs68 ?_) | apply (zs69 ?_) | (apply zg27; refine zs72 ?_) | apply (zs75 ?_) | apply (zs80 ?_) | apply (zs81 ?_) | fail)
        refine hKK ⟨gs, es1, c1, i1.ext fun v => ?_, i2⟩ _ _ ?_ ?_
        · cases hs : shutB a b to closed v with
          | true =>
            unfold shutB at hs
            rcases Bool.or_eq_true _ _ ▸ hs with h | h
            · exact i4 v (of_decide_eq_true h)
            · obtain ⟨e, he, rfl⟩ := hmb.at_ h
              exact i5 e he (hall e he)
          | false =>
            cases hf : f v with
            | false => rfl
            | true => rw [i3 v hf] at hs; cases hs
        · (repeat (first | exact sub_nil _ | (apply sub_cons; first | exact rfl | exact congrArg (fun z : Int => some (Value.int .i64 z)) (by omega))))
        · exact fun w hw => hw.tail
      · rintro ⟨ek, ev, eb⟩ he hseen
        simp only at hseen ⊢
        have hec := hmb.mem he
        repeat' (first | (apply VL_entry (g := gm) (e := (ek, ev, eb)); exact rfl; exact List.mem_cons_of_mem _ (List.mem_cons_of_mem _ hm); (focus repeat (first | with_reducible exact List.mem_cons_self | with_reducible apply List.mem_cons_of_mem | assumption)); exact rfl; exact he; exact hmk.nd) | (apply VL_setB (kt := 3) (et := 4); exact rfl; exact rfl; exact rfl; kernel_rfl; (intro _ _; (repeat (first | with_reducible exact Upd.here _ | with_reducible apply Upd.there))); exact i1; exact i2; intro es2 c2 m2 o2 _ _) | apply (zs1 ?_) | apply (zs2 ?_) | apply (zs13 ?_) | apply (zs65 ?_) | apply (zs68 ?_) | apply (zs69 ?_) | apply (zs70 ?_) | (apply zg27; refine zs71 ?_) | apply (zs73 ?_) | apply (zs76 ?_) | apply (zs79 ?_) | fail)
        apply hK ⟨es2, c2, seen.push eb, fun v => decide (v = ek) || f v⟩
        · refine ⟨m2, o2, fun v h => ?_, fun v h => ?_, fun e he2 h => ?_⟩
          · simp only at h
            rcases Bool.or_eq_true _ _ ▸ h with h | h
            · obtain rfl := of_decide_eq_true h
              unfold shutB
              rw [hec, Bool.or_true]
            · exact i3 v h
          · simp only; rw [i4 v h, Bool.or_true]
          · simp only at h ⊢
            rw [Array.contains_push] at h
            rcases Bool.or_eq_true _ _ ▸ h with h | h
            · rw [i5 e he2 h, Bool.or_true]
            · have : e = (ek, ev, eb) := ents_inj hmk.nd he2 he (by simpa using h)
              rw [this]; simp
        · exact seen_less (e := (ek, ev, eb)) he hseen
        · (repeat (first | exact sub_nil _ | (apply sub_cons; first | exact rfl | exact congrArg (fun z : Int => some (Value.int .i64 z)) (by omega))))
        · exact fun w hw => hw
  rintro ⟨gs2, es2, c2, mb2, ok2⟩
  dsimp only
  have hsl := splitE_len nodes l (shutB a b to closed)
  have hsi := splitE_in (closed := shutB a b to closed) hok
  unfold bothF at hrun
  cases h1 : pushF fuel (2 * nodes) (splitE nodes l (shutB a b to closed)) (2 * a + 1) (2 * to) with
  | none => rw [h1] at hrun; cases hrun
  | some r1 =>
    rw [h1] at hrun
    obtain ⟨x, ok, es1⟩ := r1
    dsimp only at hrun
    cases h2 : pushF fuel (2 * nodes) es1 (2 * b + 1) (2 * to) with
    | none => rw [h2] at hrun; cases hrun
    | some r2 =>
      rw [h2] at hrun
      obtain ⟨y, is, es3⟩ := r2
      obtain rfl := Option.some.inj hrun
      repeat' (first | apply (zs1 ?_) | apply (zs69 ?_) | apply (zs70 ?_) | fail)
      apply VL_call _ en59
      (repeat (first | exact args_nil | (apply args_cons; exact rfl)))
      exact rfl
      exact fun _ hw => (split_spec nodes l (shutB a b to closed) gs2 c2 es2 (by omega) (by omega) hok mb2 List.mem_cons_self hr.cons (hw))
      rintro _ _ ⟨g, A, cap, rfl, rfl⟩
      repeat' (first | apply (zs1 ?_) | apply (zs2 ?_) | (apply zg13; refine zs30 ?_) | (apply zg15; refine zs32 ?_) | apply (zs65 ?_) | apply (zs68 ?_) | apply (zs69 ?_) | apply (zs70 ?_) | fail)
      apply VL_call _ en60
      (repeat (first | exact args_nil | (apply args_cons; exact rfl)))
      exact rfl
      exact fun _ hw => (push_spec g (2 * nodes) (splitE nodes l (shutB a b to closed)) (2 * a + 1) (2 * to) fuel 1 (x, ok, es1) (by omega) hsi (by omega) (by omega) hfu (by omega) (by omega) h1 (hw))
      rintro _ _ ⟨rfl, ⟨q1, q2, q3, q4⟩, rfl⟩
      dsimp only at q1 q2 q3 q4 ⊢
      repeat' (first | apply (zs1 ?_) | apply (zs2 ?_) | apply (zs13 ?_) | (apply zg13; refine zs30 ?_) | (apply zg15; refine zs32 ?_) | apply (zs65 ?_) | apply (zs68 ?_) | apply (zs69 ?_) | apply (zs70 ?_) | fail)
      apply VL_call _ en60
      (repeat (first | exact args_nil | (apply args_cons; exact rfl)))
      exact rfl
      exact fun _ hw => (push_spec g (2 * nodes) es1 (2 * b + 1) (2 * to) fuel (1 + 2 * (fuel : Int)) (y, is, es3) (by omega) q2 (by omega) (by omega) hfu (by omega) (by omega) h2 (hw))
      rintro _ _ ⟨rfl, ⟨p1, p2, p3, p4⟩, rfl⟩
      dsimp only at p1 p2 p3 p4 ⊢
      cases ok
      all_goals (
        repeat' (first | apply (zs1 ?_) | apply (zs2 ?_) | (apply zg1; first | refine zs3 ?_ | refine zs4 ?_) | (apply zg6; first | refine zs11 ?_ | refine zs12 ?_) | apply (zs13 ?_) | (apply zg13; refine zs30 ?_) | apply (zs65 ?_) | apply (zs68 ?_) | apply (zs69 ?_) | apply (zs70 ?_) | apply (zs74 ?_) | fail)
        apply VQ_st (gpcs g (2 * nodes) A cap es3 H)
        · unfold gpcs
          (intro w hw; refine hw.perm ?_; focus repeat (first | with_reducible exact Perm.refl _ | (with_reducible apply perm_take; focus ((repeat (first | with_reducible exact rem_here | with_reducible apply rem_there)); done)) | with_reducible apply Perm.dropK))
        apply VQ_ret3; exact rfl; exact rfl; exact rfl; exact rfl
        exact ⟨g, A, cap, rfl, ⟨by omega, p2.mono (by omega), by omega, by omega⟩, rfl⟩)
end Go.Proofs.YtleldppdflgmgaaGreat

/- Walks: copies of arcs and of routes; slices.DeleteFunc of arcs; without. -/
namespace Go.Eng
open Go.RowKit
theorem VC_capA {P : Program} {n B : Nat} {w0 : World} {Q : Exit → Act → World → Prop} {env : Env} {H : List HP} {c : Code} {e size k cap : Nat} {A : Option Addr} {xs : List Value} (hm : sl e size A k cap xs ∈ H) (h : k ≤ cap → VC P n B w0 c Q env H) : VC P n B w0 c Q env H := by
  refine ⟨fun a w ha hw => ?_⟩
  have hown := hw.sl hm
  have hkc : k ≤ cap := by
    rcases hown.2 with ⟨e1, e2⟩ | ⟨g, c, cur, e1, _, _, e4, _⟩
    · omega
    · injection e1 with _ _ e3; omega
  exact (h hkc).run a w ha hw
end Go.Eng
namespace Go.Proofs.YtleldppdflgmgaaGreat
open Go.RowKit Go.Eng Go.Nw Go.Rt

theorem subA_nil (A : Option Addr) (cap size : Nat) : subA A 0 cap size = A := by
  unfold subA
  split
  · rfl
  · cases A with
    | none => rfl
    | some a => simp [Addr.add]
set_option maxRecDepth 10000 in
theorem cloneRoute_spec (l : List Int) (hlen : l.length ≤ 1000) {A : Option Addr} {cap B : Nat} {w0 : World} {H : List HP} {w : World} (hr : Rd B w0 H A (l.flatMap numF)) (hw : St B w0 H w) :
    Calls Tryz.prog 52 [.slice A l.length cap].toArray w (Post B w0 fun v K => ∃ A' cap', v = .slice A' l.length cap' ∧ K = sl 3 1 A' l.length cap' (l.flatMap numF) :: H) := by
  cases A with
  | none =>
    have hl : l = [] := by
      cases l with
      | nil => rfl
      | cons x l =>
        obtain ⟨g, o, e, _⟩ := hr w hw 0 _ rfl
        cases e
    subst hl
    refine Calls_of_VC Tryz.func52 Tryz.ntmps52 rfl rfl hw ?_
    repeat' (first | (apply VL_sleql0; exact rfl; exact rfl; exact rfl) | apply (zs1 ?_) | apply (zs2 ?_) | apply (zs65 ?_) | apply (zs68 ?_) | apply (zs69 ?_) | apply (zs70 ?_) | (apply zg27; refine zs71 ?_) | apply (zs74 ?_) | apply (zs77 ?_) | fail)
    apply VQ_nilSlice 3 1; apply VQ_ret1; exact rfl; exact rfl; exact ⟨none, 0, rfl, rfl⟩
  | some a =>
    refine Calls_of_VC Tryz.func52 Tryz.ntmps52 rfl rfl hw ?_
    repeat' (first | (apply VL_sleql0; exact rfl; exact rfl; exact rfl) | (apply VL_buildSlice0 T; exact rfl; exact rfl; intro g2) | apply (zs1 ?_) | apply (zs2 ?_) | apply (zs65 ?_) | apply (zs68 ?_) | apply (zs69 ?_) | apply (zs70 ?_) | (apply zg27; refine zs72 ?_) | apply (zs76 ?_) | fail)
    apply VL_append_rd T (f := numF) (l2 := l) (e := 3) (size := 1) (xs := []); exact rfl; exact rfl; exact rfl; exact hr.cons; exact (fun _ => rfl); exact (fun _ => rfl); exact rfl; (intro _ _; (repeat (first | with_reducible exact Upd.here _ | with_reducible apply Upd.there))); omega; intro A' cap'
    repeat' (first | apply (zs2 ?_) | apply (zs65 ?_) | apply (zs68 ?_) | apply (zs74 ?_) | fail)
    rw [Nat.zero_add, List.nil_append]
    apply VQ_ret1; exact rfl; exact rfl; exact ⟨A', cap', rfl, rfl⟩
set_option maxRecDepth 10000 in
theorem cloneArcs_spec (l : List Lk) (hlen : l.length ≤ 1000) {A : Option Addr} {cap B : Nat} {w0 : World} {H : List HP} {w : World} (hr : Rd B w0 H A (l.flatMap lkF)) (hw : St B w0 H w) :
    Calls Tryz.prog 55 [.slice A l.length cap].toArray w (Post B w0 fun v K => ∃ A' cap', v = .slice A' l.length cap' ∧ K = sl 55 3 A' l.length cap' (l.flatMap lkF) :: H) := by
  cases A with
  | none =>
    have hl : l = [] := by
      cases l with
      | nil => rfl
      | cons x l =>
        obtain ⟨g, o, e, _⟩ := hr w hw 0 _ rfl
        cases e
    subst hl
    refine Calls_of_VC Tryz.func55 Tryz.ntmps55 rfl rfl hw ?_
    repeat' (first | (apply VL_sleql0; exact rfl; exact rfl; exact rfl) | apply (zs1 ?_) | apply (zs2 ?_) | apply (zs65 ?_) | apply (zs68 ?_) | apply (zs69 ?_) | apply (zs70 ?_) | (apply zg27; refine zs71 ?_) | apply (zs74 ?_) | apply (zs77 ?_) | fail)
    apply VQ_nilSlice 55 3; apply VQ_ret1; exact rfl; exact rfl; exact ⟨none, 0, rfl, rfl⟩
  | some a =>
    refine Calls_of_VC Tryz.func55 Tryz.ntmps55 rfl rfl hw ?_
    repeat' (first | (apply VL_sleql0; exact rfl; exact rfl; exact rfl) | (apply VL_buildSlice0 T; exact rfl; exact rfl; intro g2) | apply (zs1 ?_) | apply (zs2 ?_) | apply (zs65 ?_) | apply (zs68 ?_) | apply (zs69 ?_) | apply (zs70 ?_) | (apply zg27; refine zs72 ?_) | apply (zs76 ?_) | fail)
    apply VL_append_rd T (f := lkF) (l2 := l) (e := 55) (size := 3) (xs := []); exact rfl; exact rfl; exact rfl; exact hr.cons; exact (fun _ => rfl); exact (fun _ => rfl); exact rfl; (intro _ _; (repeat (first | with_reducible exact Upd.here _ | with_reducible apply Upd.there))); omega; intro A' cap'
    repeat' (first | apply (zs2 ?_) | apply (zs65 ?_) | apply (zs68 ?_) | apply (zs74 ?_) | fail)
    rw [Nat.zero_add, List.nil_append]
    apply VQ_ret1; exact rfl; exact rfl; exact ⟨A', cap', rfl, rfl⟩

def arcV (a : Lk) : Value := .agg #[.int .i64 a.1, .int .i64 a.2.1, .int .i64 a.2.2]
theorem idx_first {α : Type} (p : α → Bool) : ∀ (l : List α) (k : Int), (l.filter (fun a => !p a) = l ∧ idxFrom p l k = -1) ∨ ∃ j, j < l.length ∧ idxFrom p l k = k + j ∧ (l.take j).filter (fun a => !p a) = l.take j ∧ ∃ a, l[j]? = some a ∧ p a = true
  | [], _ => .inl ⟨rfl, rfl⟩
  | a :: l, k => by
    unfold idxFrom
    cases h : p a with
    | true => exact .inr ⟨0, by simp, by simp, rfl, a, rfl, h⟩
    | false =>
      rw [if_neg (by decide)]
      have hn : (!p a) = true := by rw [h]; rfl
      rcases idx_first p l (k + 1) with ⟨h1, h2⟩ | ⟨j, h1, h2, h3, b, h4, h5⟩
      · exact .inl ⟨by rw [List.filter_cons, if_pos hn, h1], h2⟩
      · refine .inr ⟨j + 1, by simp only [List.length_cons]; omega, by rw [h2]; omega, ?_, b, h4, h5⟩
        rw [List.take_succ_cons, List.filter_cons, if_pos hn, h3]
theorem indexFuncArcs (p : Lk → Bool) (l : List Lk) (f : Nat) (cs : List Value) (hen : ∀ xs w, (callFunc f xs).run Tryz.prog w = .ok (.enter f xs) w) (hlen : l.length ≤ 1000) {A : Option Addr} {cap B : Nat} {w0 : World} {H : List HP} {w : World} (hr : Rd B w0 H A (l.flatMap lkF))
    (hp : ∀ a ∈ l, ∀ w, St B w0 H w → Calls Tryz.prog f ([arcV a] ++ cs).toArray w (Post B w0 fun v K => v = .bool (p a) ∧ K = H)) (hw : St B w0 H w) :
    Calls Tryz.prog 86 [.slice A l.length cap, .func (.func f) #[] cs.toArray].toArray w (Post B w0 fun v K => v = .int .i64 (idxFrom p l 0) ∧ K = H) := by
  refine Calls_of_VC Tryz.func86 Tryz.ntmps86 rfl rfl hw ?_
  repeat' (first | apply (zs1 ?_) | apply (zs2 ?_) | (apply zg4; refine zs9 ?_) | apply (zs65 ?_) | apply (zs68 ?_) | apply (zs69 ?_) | apply (zs70 ?_) | apply (zs73 ?_) | fail)
  refine VC_loop1 (fun (k : Nat) => [(8, .int .i64 k), (7, .int .i64 l.length), (0, .slice A l.length cap), (1, .func (.func f) #[] cs.toArray)]) (fun _ => H) (fun k => k ≤ l.length ∧ idxFrom p l 0 = idxFrom p (l.drop k) k) (fun k => l.length - k) 0 ⟨Nat.zero_le _, by simp⟩ ?_ (fun w hw => hw) ?_
  · (repeat (first | exact sub_nil _ | (apply sub_cons; first | exact rfl | exact congrArg (fun z : Int => some (Value.int .i64 z)) (by omega))))
  rintro k ⟨hk, hi⟩ K hK
  by_cases hlt : k < l.length
  · obtain ⟨a, ha⟩ : ∃ a, l[k]? = some a := ⟨_, List.getElem?_eq_getElem hlt⟩
    have hpa := hp a (List.mem_of_getElem? ha)
    rw [idx_drop p l ha] at hi
    repeat' (first | ((first | apply VL_callvt (cs := cs)); exact rfl; exact hen; (repeat (first | exact args_nil | (apply args_cons; exact rfl))); exact rfl; exact fun _ hw => hpa _ hw) | apply (zs1 ?_) | apply (zs2 ?_) | (apply zg3; refine zs61 ?_) | (apply zg5; refine zs57 ?_) | (apply (zs17 ?_ ?_) <;> intro _ <;> try (exfalso; omega)) | apply (zs65 ?_) | apply (zs68 ?_) | apply (zs69 ?_) | apply (zs70 ?_) | (apply zg27; refine zs71 ?_) | apply (zs73 ?_) | apply (zs76 ?_) | fail)
    cases hpv : p a
    · rw [hpv] at hi
      repeat' (first | apply (zs1 ?_) | (apply zg13; refine zs30 ?_) | apply (zs65 ?_) | apply (zs68 ?_) | apply (zs70 ?_) | (apply zg27; refine zs72 ?_) | apply (zs76 ?_) | apply (zs79 ?_) | fail)
      apply hK (k + 1)
      · exact ⟨by omega, hi⟩
      · omega
      · (repeat (first | exact sub_nil _ | (apply sub_cons; first | exact rfl | exact congrArg (fun z : Int => some (Value.int .i64 z)) (by omega))))
      · exact fun w hw => hw
    · rw [hpv] at hi
      repeat' (first | apply (zs1 ?_) | apply (zs2 ?_) | apply (zs65 ?_) | apply (zs68 ?_) | apply (zs69 ?_) | apply (zs70 ?_) | (apply zg27; refine zs71 ?_) | apply (zs74 ?_) | apply (zs77 ?_) | apply (zs78 ?_) | fail)
      apply VQ_ret1; exact rfl; exact rfl
      exact ⟨by rw [hi]; rfl, rfl⟩
  · repeat' (first | apply (zs2 ?_) | (apply (zs17 ?_ ?_) <;> intro _ <;> try (exfalso; omega)) | apply (zs65 ?_) | apply (zs68 ?_) | apply (zs69 ?_) | apply (zs70 ?_) | (apply zg27; refine zs72 ?_) | apply (zs74 ?_) | apply (zs75 ?_) | apply (zs80 ?_) | apply (zs81 ?_) | fail)
    apply VQ_ret1; exact rfl; exact rfl
    rw [hi, List.drop_eq_nil_of_le (by omega)]
    exact ⟨rfl, rfl⟩

structure Kz where
  i : Nat
  j : Nat
  M : List Lk
set_option maxRecDepth 10000 in
set_option maxHeartbeats 1000000 in
theorem deleteFuncArcs (p : Lk → Bool) (l : List Lk) (f : Nat) (cs : List Value) (hen : ∀ xs w, (callFunc f xs).run Tryz.prog w = .ok (.enter f xs) w) (hlen : l.length ≤ 1000) {A : Option Addr} {cap B : Nat} {w0 : World} {H : List HP} {w : World}
    (hp : ∀ a ∈ l, ∀ (X : List HP) w, St B w0 (X ++ H) w → Calls Tryz.prog f ([arcV a] ++ cs).toArray w (Post B w0 fun v K => v = .bool (p a) ∧ K = X ++ H)) (hw : St B w0 (arcsP A cap l :: H) w) :
    Calls Tryz.prog 54 [.slice A l.length cap, .func (.func f) #[] cs.toArray].toArray w (Post B w0 fun v K => v = .slice A (l.filter fun a => !p a).length cap ∧ K = arcsP A cap (l.filter fun a => !p a) :: H) := by
  refine Calls_of_VC Tryz.func54 Tryz.ntmps54 rfl rfl hw ?_
  refine VC_capA (k := l.length) (cap := cap) (by (focus repeat (first | with_reducible exact List.mem_cons_self | with_reducible apply List.mem_cons_of_mem | assumption))) fun hcap => ?_
  have hif := fun {w : World} (hw : St B w0 (arcsP A cap l :: H) w) => indexFuncArcs p l f cs hen hlen (cap := cap) (.sl List.mem_cons_self) (fun a ha w hw => hp a ha [arcsP A cap l] w hw) hw
  rcases idx_first p l 0 with ⟨h1, h2⟩ | ⟨i0, h1, h2, h3, a0, h4, h5⟩
  · rw [h2] at hif
    rw [h1]
    repeat' (first | ((first | apply VL_callt en86 | apply VL_callq en86); (repeat (first | exact args_nil | (apply args_cons; exact rfl))); exact rfl; exact fun _ hw => (hif hw)) | apply (zs1 ?_) | apply (zs2 ?_) | (apply zg7; (refine zs15 ?_ ?_ <;> intro _ <;> try (exfalso; omega))) | apply (zs65 ?_) | apply (zs68 ?_) | apply (zs69 ?_) | apply (zs70 ?_) | (apply zg27; refine zs71 ?_) | apply (zs74 ?_) | apply (zs77 ?_) | fail)
    apply VQ_ret1; exact rfl; exact rfl; exact ⟨rfl, rfl⟩
  rw [h2, Int.zero_add] at hif
  repeat' (first | ((first | apply VL_callt en86 | apply VL_callq en86); (repeat (first | exact args_nil | (apply args_cons; exact rfl))); exact rfl; exact fun _ hw => (hif hw)) | apply (zs1 ?_) | apply (zs2 ?_) | (apply zg7; (refine zs15 ?_ ?_ <;> intro _ <;> try (exfalso; omega))) | (apply zg13; refine zs30 ?_) | apply (zs65 ?_) | apply (zs68 ?_) | apply (zs69 ?_) | apply (zs70 ?_) | (apply zg27; refine zs72 ?_) | apply (zs73 ?_) | apply (zs76 ?_) | fail)
  refine VC_loop1 (fun (z : Kz) => [(6, .int .i64 z.j), (5, .int .i64 z.i), (0, .slice A z.M.length cap), (1, .func (.func f) #[] cs.toArray)]) (fun z => arcsP A cap z.M :: H) (fun z => z.M.length = l.length ∧ z.i < z.j ∧ z.j ≤ l.length ∧ z.M.take z.i = (l.take z.j).filter (fun a => !p a) ∧ z.M.drop z.j = l.drop z.j) (fun z => l.length - z.j) ⟨i0, i0 + 1, l⟩ ⟨rfl, by simp only; omega, by simp only; omega, ?_, rfl⟩ ?_ (fun w hw => hw) ?_
  · simp only
    rw [List.take_add_one, h4, List.filter_append, h3]
    simp [h5]
  · (repeat (first | exact sub_nil _ | (apply sub_cons; first | exact rfl | exact congrArg (fun z : Int => some (Value.int .i64 z)) (by omega))))
  rintro ⟨i, j, M⟩ ⟨hM, hij, hj, ht, hd⟩ K hK
  simp only at hM hij hj ht hd ⊢
  by_cases hlt : j < l.length
  · obtain ⟨a, ha⟩ : ∃ a, l[j]? = some a := ⟨_, List.getElem?_eq_getElem hlt⟩
    have hMa : M[j]? = some a := by
      have e1 : (M.drop j)[0]? = (l.drop j)[0]? := by rw [hd]
      rw [List.getElem?_drop, List.getElem?_drop, Nat.add_zero, ha] at e1
      exact e1
    have hpa := fun {X1 X2 : HP} {w : World} (hw : St B w0 (X1 :: X2 :: H) w) => hp a (List.mem_of_getElem? ha) [X1, X2] w hw
    have hft : (l.take (j + 1)).filter (fun a => !p a) = M.take i ++ (if p a = true then [] else [a]) := by
      rw [List.take_add_one, ha, List.filter_append, ht]
      cases hpv : p a <;> simp [hpv]
    obtain ⟨b, hb⟩ : ∃ b, p a = b := ⟨_, rfl⟩
    rw [hb] at hft hpa
    have hd1 : ∀ x : Lk, (M.set i x).drop (j + 1) = l.drop (j + 1) := fun x => by
      rw [List.drop_set_of_lt (by omega), ← List.drop_drop, ← List.drop_drop, hd]
    cases b with
    | true =>
      rw [if_pos rfl, List.append_nil] at hft
      repeat' (first | ((first | apply VL_callvt (cs := cs)); exact rfl; exact hen; (repeat (first | exact args_nil | (apply args_cons; exact rfl))); exact rfl; exact fun _ hw => hpa hw) | apply (zs1 ?_) | apply (zs2 ?_) | (apply zg3; first | refine zs8 ?_ | refine zs61 ?_) | (apply zg4; refine zs9 ?_) | (apply zg5; refine zs10 ?_) | (apply (zs17 ?_ ?_) <;> intro _ <;> try (exfalso; omega)) | (apply zg13; refine zs30 ?_) | (apply zg20; refine zs47 ?_) | (apply zg22; refine zs51 ?_) | (apply zg24; (refine zs54 ?_; intro _)) | apply (zs65 ?_) | apply (zs68 ?_) | apply (zs69 ?_) | apply (zs70 ?_) | (apply zg27; first | refine zs71 ?_ | refine zs72 ?_) | apply (zs73 ?_) | apply (zs76 ?_) | apply (zs79 ?_) | fail)
      apply hK ⟨i, j + 1, M⟩
      · exact ⟨hM, by simp only; omega, by simp only; omega, hft.symm, by simp only; rw [← List.drop_drop, ← List.drop_drop, hd]⟩
      · simp only; omega
      · (repeat (first | exact sub_nil _ | (apply sub_cons; first | exact rfl | exact congrArg (fun z : Int => some (Value.int .i64 z)) (by omega))))
      · exact fun w hw => hw.tail
    | false =>
      rw [if_neg (by decide)] at hft
      have hMl : (M.set i a).length = M.length := List.length_set
      repeat' (first | ((first | apply VL_callvt (cs := cs)); exact rfl; exact hen; (repeat (first | exact args_nil | (apply args_cons; exact rfl))); exact rfl; exact fun _ hw => hpa hw) | (apply VL_store_elem T (f := lkF) (l := M) (i := i) (a := a); exact rfl; exact rfl; exact rfl; (repeat (first | with_reducible exact Upd.here _ | with_reducible apply Upd.there)); exact fun _ => rfl; exact rfl; exact rfl; exact rfl; omega) | apply (zs1 ?_) | apply (zs2 ?_) | (apply zg3; first | refine zs8 ?_ | refine zs61 ?_) | (apply zg4; refine zs9 ?_) | (apply zg5; refine zs10 ?_) | (apply (zs17 ?_ ?_) <;> intro _ <;> try (exfalso; omega)) | (apply zg13; refine zs30 ?_) | (apply zg20; refine zs48 ?_) | (apply zg22; refine zs51 ?_) | (apply zg24; (refine zs54 ?_; intro _)) | apply (zs65 ?_) | apply (zs68 ?_) | apply (zs69 ?_) | apply (zs70 ?_) | (apply zg27; refine zs71 ?_) | apply (zs73 ?_) | apply (zs76 ?_) | apply (zs79 ?_) | fail)
      apply hK ⟨i + 1, j + 1, M.set i a⟩
      · refine ⟨by simp only; omega, by simp only; omega, by simp only; omega, ?_, hd1 a⟩
        simp only
        rw [hft, List.take_add_one, List.getElem?_set_self (by omega), List.take_set_of_le (Nat.le_refl _)]
        rfl
      · simp only; omega
      · dsimp only
        rw [hMl]
        (repeat (first | exact sub_nil _ | (apply sub_cons; first | exact rfl | exact congrArg (fun z : Int => some (Value.int .i64 z)) (by omega))))
      · unfold arcsP
        dsimp only
        rw [hMl]
        exact fun w hw => hw.tail
  · obtain rfl : j = l.length := by omega
    clear hK
    rw [List.take_length] at ht
    have hil : (l.filter fun a => !p a).length = i := by rw [← ht, List.length_take]; omega
    have hfl : (M.flatMap lkF).take (i * 3) = (l.filter fun a => !p a).flatMap lkF := by rw [← flat_take (q := 3) (fun _ => rfl), ht]
    repeat' (first | (apply VL_slice_lo T (n' := M.length - i); exact rfl; exact rfl; exact rfl; exact rfl; omega; omega) | apply (zs1 ?_) | (apply zg4; refine zs9 ?_) | (apply (zs17 ?_ ?_) <;> intro _ <;> try (exfalso; omega)) | apply (zs65 ?_) | apply (zs68 ?_) | apply (zs69 ?_) | apply (zs70 ?_) | (apply zg27; refine zs72 ?_) | apply (zs75 ?_) | apply (zs80 ?_) | apply (zs81 ?_) | fail)
    rw [Int.toNat_natCast]
    apply VL_st (sl 55 3 A i cap ((l.filter fun a => !p a).flatMap lkF) :: H)
    · intro w hw
      refine hw.shrink (e := 55) (size := 3) (cap := cap) (A := A) (xs := M.flatMap lkF) (k := M.length) (k' := i) (by omega) ?_
      rw [hfl]
      exact Upd.here _
    apply VL_clear T T2 (e := 55) (size := 3) (k := i) (xs := (l.filter fun a => !p a).flatMap lkF); exact rfl; exact List.mem_cons_self; exact rfl; exact rfl; exact rfl; omega
    repeat' (first | (apply VL_slice_hi_rd T (l := M) (n' := i); exact rfl; exact rfl; exact rfl; exact rfl; omega; omega; omega) | apply (zs1 ?_) | apply (zs2 ?_) | apply (zs65 ?_) | apply (zs68 ?_) | apply (zs69 ?_) | apply (zs70 ?_) | apply (zs74 ?_) | fail)
    rw [subA_nil]
    repeat' (first | fail)
    apply VQ_ret1; exact rfl; exact rfl
    exact ⟨by rw [hil], by unfold arcsP; rw [hil]⟩

theorem without1_spec (s t : Int) (gs gt : Nat) (a : Lk) {B : Nat} {w0 : World} {H : List HP} {w : World} (hs : blk gs (.cells #[.int .i64 s] 3 (0, 0)) ∈ H) (ht : blk gt (.cells #[.int .i64 t] 3 (0, 0)) ∈ H) (hw : St B w0 H w) :
    Calls Tryz.prog 85 [arcV a, .pointer (some ⟨gs, 0, none⟩), .pointer (some ⟨gt, 0, none⟩)].toArray w (Post B w0 fun v K => v = .bool (decide (a.1 = s ∧ a.2.1 = t)) ∧ K = H) := by
  refine Calls_of_VC Tryz.func85 Tryz.ntmps85 rfl rfl hw ?_
  unfold arcV
  by_cases h : a.1 = s ∧ a.2.1 = t
  · rw [decide_eq_true h]
    repeat' (first | apply (zs1 ?_) | apply (zs2 ?_) | (apply zg1; refine zs4 ?_) | (apply zg2; refine zs6 ?_) | (apply zg3; refine zs7 ?_) | (apply zg6; refine zs11 ?_) | (apply zg7; (refine zs15 ?_ ?_ <;> intro _ <;> try (exfalso; omega))) | (apply zg23; (refine zs52 ?_; intro _)) | apply (zs65 ?_) | apply (zs68 ?_) | apply (zs69 ?_) | apply (zs70 ?_) | apply (zs74 ?_) | fail)
    all_goals (apply VQ_tail; apply VQ_ret1; exact rfl; exact rfl; exact ⟨rfl, rfl⟩)
  · rw [decide_eq_false h]
    repeat' (first | apply (zs1 ?_) | apply (zs2 ?_) | (apply zg1; first | refine zs3 ?_ | refine zs4 ?_) | (apply zg2; refine zs6 ?_) | (apply zg3; refine zs7 ?_) | (apply zg6; first | refine zs11 ?_ | refine zs12 ?_) | (apply zg7; (refine zs15 ?_ ?_ <;> intro _ <;> try (exfalso; omega))) | (apply zg23; (refine zs52 ?_; intro _)) | apply (zs65 ?_) | apply (zs68 ?_) | apply (zs69 ?_) | apply (zs70 ?_) | apply (zs74 ?_) | fail)
    all_goals (apply VQ_tail; apply VQ_ret1; exact rfl; exact rfl; exact ⟨rfl, rfl⟩)
def notArc (s t : Int) (l : List Lk) : List Lk := l.filter fun a => !decide (a.1 = s ∧ a.2.1 = t)
theorem without_spec (l : List Lk) (s t : Int) (hlen : l.length ≤ 1000) {A : Option Addr} {cap B : Nat} {w0 : World} {H : List HP} {w : World} (hr : Rd B w0 H A (l.flatMap lkF)) (hw : St B w0 H w) :
    Calls Tryz.prog 53 [.slice A l.length cap, .int .i64 s, .int .i64 t].toArray w (Post B w0 fun v K => ∃ A' cap', v = .slice A' (notArc s t l).length cap' ∧ K = arcsP A' cap' (notArc s t l) :: H) := by
  refine Calls_of_VC Tryz.func53 Tryz.ntmps53 rfl rfl hw ?_
  repeat' (first | apply (zs1 ?_) | apply (zs2 ?_) | (apply zg23; (refine zs53 ?_; intro _)) | apply (zs65 ?_) | apply (zs68 ?_) | apply (zs69 ?_) | apply (zs70 ?_) | fail)
  rename_i g1 g2
  apply VL_call _ en55
  (repeat (first | exact args_nil | (apply args_cons; exact rfl)))
  exact rfl
  exact fun _ hw => (cloneArcs_spec l hlen (hr.cons.cons) (hw))
  rintro _ _ ⟨A', cap', rfl, rfl⟩
  repeat' (first | (apply zg29; (apply VL_makeFunc; (repeat (first | exact args_nil | (apply args_cons; exact rfl))) ; exact rfl)) | fail)
  apply VL_call _ en54
  (repeat (first | exact args_nil | (apply args_cons; exact rfl)))
  exact rfl
  exact fun _ hw => (deleteFuncArcs (fun a => decide (a.1 = s ∧ a.2.1 = t)) l 85 [.pointer (some ⟨g1, 0, none⟩), .pointer (some ⟨g2, 0, none⟩)] en85 hlen (fun a _ X w hw => without1_spec s t g1 g2 a (List.mem_append_right _ (by (focus repeat (first | with_reducible exact List.mem_cons_self | with_reducible apply List.mem_cons_of_mem | assumption)))) (List.mem_append_right _ (by (focus repeat (first | with_reducible exact List.mem_cons_self | with_reducible apply List.mem_cons_of_mem | assumption)))) hw) (hw))
  rintro _ _ ⟨rfl, rfl⟩
  repeat' (first | apply (zs2 ?_) | apply (zs65 ?_) | apply (zs68 ?_) | apply (zs74 ?_) | fail)
  apply VQ_st (arcsP A' cap' (notArc s t l) :: H)
  · exact fun w hw => hw.perm (.cons _ (.dropK (.drop _ _)))
  apply VQ_ret1; exact rfl; exact rfl
  exact ⟨A', cap', rfl, rfl⟩
end Go.Proofs.YtleldppdflgmgaaGreat

/- Walk: rest. -/
namespace Go.Eng
open Go.RowKit
theorem Perm.openT (H : List HP) : Perm [many H] H := by
  have := Perm.open_ H []
  rwa [List.append_nil] at this
theorem Perm.closeT (H : List HP) : Perm H [many H] := by
  have := Perm.close H []
  rwa [List.append_nil] at this
theorem sepL_tailT {X : HP} {L : List HP} {S : Nat → Prop} {w : World} (hX : X ∈ L) (h : sepL L S w) : ∃ S1 : Nat → Prop, (∀ b, S1 b → S b) ∧ X.holds S1 w := sepL_at hX h
theorem Rd.manyT {B : Nat} {w0 : World} {H K : List HP} {A : Option Addr} {xs : List Value} (h : Rd B w0 H A xs) (hm : Eng.many H ∈ K) : Rd B w0 K A xs := h.mono fun w hw => by
  obtain ⟨S1, h1, h2⟩ := sepL_at hm hw.sep
  exact ⟨hw.below, hw.le, sepL_mono h2 h1⟩
end Go.Eng
namespace Go.Proofs.YtleldppdflgmgaaGreat
open Go.RowKit Go.Eng Go.Nw Go.Rt

/-! ### What rest computes -/
def shutP (pre : List Int) (v : Int) : Bool := decide (v ∈ pre.drop 1)
def shutQ (pre : List Int) (to v : Int) : Bool := !decide (v = to) && shutP pre v
def headP (pre : List Int) : Int := pre.getD 0 0
def lastP (pre : List Int) : Int := pre.getD (pre.length - 1) 0
def leftA (l : List Lk) (pre : List Int) (to : Int) : List Lk := (if pre.length = 2 then notArc (headP pre) to l else l).filter fun a => !(shutQ pre to a.1 || shutQ pre to a.2.1)
def badB (pre : List Int) (a : Lk) : Bool := shutP pre a.2.1 || (shutP pre a.1 && decide (a.1 ≠ lastP pre)) || decide (a.2.1 = headP pre)
def leftB (l : List Lk) (pre : List Int) : List Lk := l.filter fun a => !badB pre a
noncomputable def restF (fuel nodes : Nat) (l : List Lk) (pre : List Int) (to : Int) : Option (Int × Bool) :=
  if lastP pre = to then some (farAt (distC nodes (leftA l pre to) to) (headP pre), decide (farAt (distC nodes (leftA l pre to) to) (headP pre) < noneC))
  else match bothF fuel nodes (leftB l pre) (lastP pre) (headP pre) to (shutP pre) with
    | none => none
    | some r => some (r.1, r.2.1)
theorem ArcsOk.sub {nodes : Nat} {l m : List Lk} (h : ArcsOk nodes l) (hm : ∀ a ∈ m, a ∈ l) : ArcsOk nodes m := fun a ha => h a (hm a ha)
theorem leftA_mem {l : List Lk} {pre : List Int} {to : Int} {a : Lk} (h : a ∈ leftA l pre to) : a ∈ l := by
  have := (List.mem_filter.1 h).1
  split at this
  · exact (List.mem_filter.1 this).1
  · exact this
theorem leftA_len (l : List Lk) (pre : List Int) (to : Int) : (leftA l pre to).length ≤ l.length := by
  unfold leftA
  split
  · exact Nat.le_trans (List.length_filter_le _ _) (List.length_filter_le _ _)
  · exact List.length_filter_le _ _
theorem leftB_len (l : List Lk) (pre : List Int) : (leftB l pre).length ≤ l.length := List.length_filter_le _ _

/-! ### The two tests -/
theorem rest1_spec (gm gc clock : Nat) (es : Ents) (f : Int → Bool) (a : Lk) (hf : MB es f) {B : Nat} {w0 : World} {H : List HP} {w : World} (hm : blk gm (mobj es clock) ∈ H) (hc : blk gc (.cells #[.map (some gm)] 98 (0, 0)) ∈ H) (hw : St B w0 H w) :
    Calls Tryz.prog 83 [arcV a, .pointer (some ⟨gc, 0, none⟩)].toArray w (Post B w0 fun v K => v = .bool (f a.1 || f a.2.1) ∧ K = H) := by
  refine Calls_of_VC Tryz.func83 Tryz.ntmps83 rfl rfl hw ?_
  unfold arcV
  obtain ⟨b1, h1⟩ : ∃ b, f a.1 = b := ⟨_, rfl⟩
  obtain ⟨b2, h2⟩ : ∃ b, f a.2.1 = b := ⟨_, rfl⟩
  rw [h1, h2]
  cases b1
  · skip
    repeat' (first | (apply VL_lookB (kt := 3) (et := 4); exact rfl; exact rfl; exact List.mem_cons_of_mem _ hm; kernel_rfl; exact rfl; kernel_rfl; exact hf; first | exact h1 | exact h2) | apply (zs1 ?_) | apply (zs2 ?_) | (apply zg1; refine zs4 ?_) | (apply zg2; refine zs6 ?_) | (apply zg3; refine zs7 ?_) | (apply zg6; refine zs12 ?_) | (apply zg23; (refine zs52 ?_; intro _)) | apply (zs65 ?_) | apply (zs68 ?_) | apply (zs69 ?_) | apply (zs70 ?_) | apply (zs74 ?_) | fail)
    apply VQ_tail; apply VQ_ret1; exact rfl; exact rfl; exact ⟨rfl, rfl⟩
  · skip
    repeat' (first | (apply VL_lookB (kt := 3) (et := 4); exact rfl; exact rfl; exact List.mem_cons_of_mem _ hm; kernel_rfl; exact rfl; kernel_rfl; exact hf; first | exact h1 | exact h2) | apply (zs1 ?_) | apply (zs2 ?_) | (apply zg1; refine zs3 ?_) | (apply zg2; refine zs6 ?_) | (apply zg3; refine zs7 ?_) | (apply zg6; refine zs11 ?_) | (apply zg23; (refine zs52 ?_; intro _)) | apply (zs65 ?_) | apply (zs68 ?_) | apply (zs69 ?_) | apply (zs70 ?_) | apply (zs74 ?_) | fail)
    apply VQ_tail; apply VQ_ret1; exact rfl; exact rfl; exact ⟨rfl, rfl⟩
set_option maxHeartbeats 1000000 in
theorem rest2_spec (gm gc ga gf clock : Nat) (es : Ents) (f : Int → Bool) (s t : Int) (a : Lk) (hf : MB es f) {B : Nat} {w0 : World} {H : List HP} {w : World} (hm : blk gm (mobj es clock) ∈ H) (hc : blk gc (.cells #[.map (some gm)] 98 (0, 0)) ∈ H) (ha : blk ga (.cells #[.int .i64 t] 3 (0, 0)) ∈ H) (hs : blk gf (.cells #[.int .i64 s] 3 (0, 0)) ∈ H) (hw : St B w0 H w) :
    Calls Tryz.prog 84 [arcV a, .pointer (some ⟨gc, 0, none⟩), .pointer (some ⟨ga, 0, none⟩), .pointer (some ⟨gf, 0, none⟩)].toArray w (Post B w0 fun v K => v = .bool (f a.2.1 || (f a.1 && decide (a.1 ≠ t)) || decide (a.2.1 = s)) ∧ K = H) := by
  refine Calls_of_VC Tryz.func84 Tryz.ntmps84 rfl rfl hw ?_
  unfold arcV
  obtain ⟨b1, h1⟩ : ∃ b, f a.1 = b := ⟨_, rfl⟩
  obtain ⟨b2, h2⟩ : ∃ b, f a.2.1 = b := ⟨_, rfl⟩
  rw [h1, h2]
  by_cases e1 : a.1 = t <;> by_cases e2 : a.2.1 = s
  · rw [decide_eq_true e2, decide_eq_false (fun h => h e1)]
    cases b1 <;> cases b2
    all_goals (
      repeat' (first | (apply VL_lookB (kt := 3) (et := 4); exact rfl; exact rfl; exact List.mem_cons_of_mem _ hm; kernel_rfl; exact rfl; kernel_rfl; exact hf; first | exact h1 | exact h2) | apply (zs1 ?_) | apply (zs2 ?_) | (apply zg1; first | refine zs3 ?_ | refine zs4 ?_) | (apply zg2; refine zs6 ?_) | (apply zg3; refine zs7 ?_) | (apply zg6; first | refine zs11 ?_ | refine zs12 ?_) | (apply zg7; (refine zs15 ?_ ?_ <;> intro _ <;> try (exfalso; omega))) | (apply zg8; (refine zs16 ?_ ?_ <;> intro _ <;> try (exfalso; omega))) | (apply zg23; (refine zs52 ?_; intro _)) | apply (zs65 ?_) | apply (zs68 ?_) | apply (zs69 ?_) | apply (zs70 ?_) | apply (zs74 ?_) | fail)
      all_goals (apply VQ_tail; apply VQ_ret1; exact rfl; exact rfl; exact ⟨rfl, rfl⟩))
  · rw [decide_eq_false e2, decide_eq_false (fun h => h e1)]
    cases b1 <;> cases b2
    all_goals (
      repeat' (first | (apply VL_lookB (kt := 3) (et := 4); exact rfl; exact rfl; exact List.mem_cons_of_mem _ hm; kernel_rfl; exact rfl; kernel_rfl; exact hf; first | exact h1 | exact h2) | apply (zs1 ?_) | apply (zs2 ?_) | (apply zg1; first | refine zs3 ?_ | refine zs4 ?_) | (apply zg2; refine zs6 ?_) | (apply zg3; refine zs7 ?_) | (apply zg6; first | refine zs11 ?_ | refine zs12 ?_) | (apply zg7; (refine zs15 ?_ ?_ <;> intro _ <;> try (exfalso; omega))) | (apply zg8; (refine zs16 ?_ ?_ <;> intro _ <;> try (exfalso; omega))) | (apply zg23; (refine zs52 ?_; intro _)) | apply (zs65 ?_) | apply (zs68 ?_) | apply (zs69 ?_) | apply (zs70 ?_) | apply (zs74 ?_) | fail)
      all_goals (apply VQ_tail; apply VQ_ret1; exact rfl; exact rfl; exact ⟨rfl, rfl⟩))
  · rw [decide_eq_true e2, decide_eq_true (p := a.1 ≠ t) e1]
    cases b1 <;> cases b2
    all_goals (
      repeat' (first | (apply VL_lookB (kt := 3) (et := 4); exact rfl; exact rfl; exact List.mem_cons_of_mem _ hm; kernel_rfl; exact rfl; kernel_rfl; exact hf; first | exact h1 | exact h2) | apply (zs1 ?_) | apply (zs2 ?_) | (apply zg1; first | refine zs3 ?_ | refine zs4 ?_) | (apply zg2; refine zs6 ?_) | (apply zg3; refine zs7 ?_) | (apply zg6; first | refine zs11 ?_ | refine zs12 ?_) | (apply zg7; (refine zs15 ?_ ?_ <;> intro _ <;> try (exfalso; omega))) | (apply zg8; (refine zs16 ?_ ?_ <;> intro _ <;> try (exfalso; omega))) | (apply zg23; (refine zs52 ?_; intro _)) | apply (zs65 ?_) | apply (zs68 ?_) | apply (zs69 ?_) | apply (zs70 ?_) | apply (zs74 ?_) | fail)
      all_goals (apply VQ_tail; apply VQ_ret1; exact rfl; exact rfl; exact ⟨rfl, rfl⟩))
  · rw [decide_eq_false e2, decide_eq_true (p := a.1 ≠ t) e1]
    cases b1 <;> cases b2
    all_goals (
      repeat' (first | (apply VL_lookB (kt := 3) (et := 4); exact rfl; exact rfl; exact List.mem_cons_of_mem _ hm; kernel_rfl; exact rfl; kernel_rfl; exact hf; first | exact h1 | exact h2) | apply (zs1 ?_) | apply (zs2 ?_) | (apply zg1; first | refine zs3 ?_ | refine zs4 ?_) | (apply zg2; refine zs6 ?_) | (apply zg3; refine zs7 ?_) | (apply zg6; first | refine zs11 ?_ | refine zs12 ?_) | (apply zg7; (refine zs15 ?_ ?_ <;> intro _ <;> try (exfalso; omega))) | (apply zg8; (refine zs16 ?_ ?_ <;> intro _ <;> try (exfalso; omega))) | (apply zg23; (refine zs52 ?_; intro _)) | apply (zs65 ?_) | apply (zs68 ?_) | apply (zs69 ?_) | apply (zs70 ?_) | apply (zs74 ?_) | fail)
      all_goals (apply VQ_tail; apply VQ_ret1; exact rfl; exact rfl; exact ⟨rfl, rfl⟩))
end Go.Proofs.YtleldppdflgmgaaGreat

/- Walk: rest. -/
namespace Go.Proofs.YtleldppdflgmgaaGreat
open Go.RowKit Go.Eng Go.Nw Go.Rt

structure Pz where
  ga : Nat
  gf : Nat
structure Qz where
  k : Nat
  es : Ents
  c : Nat
  f : Int → Bool
structure Uz where
  A : Option Addr
  cap : Nat
  l : List Lk
def lstOf (l : List Lk) (pre : List Int) (to : Int) : List Lk := if pre.length = 2 then notArc (headP pre) to l else l

set_option maxRecDepth 10000 in
set_option maxHeartbeats 2000000 in
theorem rest_spec (nodes : Nat) (l : List Lk) (pre : List Int) (to : Int) (fuel : Nat) (s : Int × Bool) (hn : 1 ≤ nodes ∧ nodes ≤ 40) (hl : l.length ≤ 900) (hok : ArcsOk nodes l) (hpl : 2 ≤ pre.length ∧ pre.length ≤ 1000) (hpi : ∀ v ∈ pre, 0 ≤ v ∧ v < nodes) (hto : 0 ≤ to ∧ to < nodes) (hfu : fuel ≤ 100000) (hrun : restF fuel nodes l pre to = some s)
    {AL AP : Option Addr} {capL capP B : Nat} {w0 : World} {H : List HP} {w : World} (hr : Rd B w0 H AL (l.flatMap lkF)) (hp : Rd B w0 H AP (pre.flatMap numF)) (hcap : pre.length ≤ capP) (hw : St B w0 H w) :
    Calls Tryz.prog 51 [.int .i64 nodes, .slice AL l.length capL, .slice AP pre.length capP, .int .i64 to].toArray w (Post B w0 fun v K => v = .tuple #[.int .i64 s.1, .bool s.2] ∧ (-600000000000000 ≤ s.1 ∧ s.1 ≤ 3000000000) ∧ K = H) := by
  refine Calls_of_VC Tryz.func51 Tryz.ntmps51 rfl rfl hw ?_
  have hg0 : pre[0]? = some (headP pre) := getD_get (by omega)
  have hg1 : pre[((pre.length : Int) - 1).toNat]? = some (lastP pre) := by
    rw [show ((pre.length : Int) - 1).toNat = pre.length - 1 by omega]; exact getD_get (by omega)
  have hfr := hpi _ (List.mem_of_getElem? hg0)
  have har := hpi _ (List.mem_of_getElem? hg1)
  obtain ⟨fr, hfe⟩ : ∃ x, headP pre = x := ⟨_, rfl⟩
  obtain ⟨at_, hae⟩ : ∃ x, lastP pre = x := ⟨_, rfl⟩
  rw [hfe] at hg0 hfr
  rw [hae] at hg1 har
  iterate 7 (first | apply (zs2 ?_) | apply (zs65 ?_) | apply (zs68 ?_) | apply (zs69 ?_) | apply (zs70 ?_) | fail)
  refine VC_st (many H :: []) (fun w hw => hw.perm (.closeT _)) ?_
  have hpT : Rd B w0 [many H] AP (pre.flatMap numF) := hp.manyT List.mem_cons_self
  refine VC_cutQ (fun (z : Pz) => [(11, .pointer (some ⟨z.ga, 0, none⟩)), (10, .pointer (some ⟨z.gf, 0, none⟩)), (0, .int .i64 nodes), (1, .slice AL l.length capL), (2, .slice AP pre.length capP), (3, .int .i64 to)]) (fun z => blk z.gf (.cells #[.int .i64 fr] 3 (0, 0)) :: blk z.ga (.cells #[.int .i64 at_] 3 (0, 0)) :: H) ?_ ?_
  · intro K hK
    apply VC_tree (.n1 0 (.n1 1 (.n1 2 (.n1 3 (.n1 4 (.n1 5 (.n1 6 (.n1 7 (.n1 8 (.n2 9 (.n1 10 (.n1 11 .done)) 10 (.n1 9 (.n1 11 .done)))))))))))) [12] [true]
    kernel_rfl
    kernel_rfl
    (repeat (first | with_reducible exact split_nil | with_reducible apply split_t | with_reducible apply split_f))
    (simp only [pickOps, nthO]; rfl)
    repeat' (first | apply (zs1 ?_) | (apply zg3; refine zs60 ?_) | (apply zg4; refine zs9 ?_) | (apply zg5; refine zs57 ?_) | (apply zg14; refine zs31 ?_) | (apply zg22; refine zs50 ?_) | (apply zg24; (refine zs54 ?_; intro _)) | apply (zs65 ?_) | (apply VL_nilh; (repeat (first | with_reducible exact app_nil | with_reducible apply app_cons))) | apply (zs87 ?_) | (apply VQ_heldq; (repeat (first | with_reducible exact pull_nil | (with_reducible apply pull_cons; (repeat (first | with_reducible exact rem_here | with_reducible apply rem_there)))))) | (apply VT_done; (repeat (first | with_reducible exact app_nil | with_reducible apply app_cons))) | apply (zs90 ?_) | apply (zs91 ?_ ?_) | (apply VQ_treeq; (repeat (first | with_reducible exact pull_nil | (with_reducible apply pull_cons; (repeat (first | with_reducible exact rem_here | with_reducible apply rem_there)))))) | apply (zs93 ?_) | apply (zs94 ?_) | fail)
    · rename_i gf ga
      refine hK ⟨ga, gf⟩ _ _ ?_ ?_
      · (repeat (first | exact sub_nil _ | (apply sub_cons; first | exact rfl | exact congrArg (fun z : Int => some (Value.int .i64 z)) (by omega))))
      · dsimp only
        intro w hw
        have h5 : St B w0 (blk gf (.cells #[.int .i64 fr] 3 (0, 0)) :: blk ga (.cells #[.int .i64 at_] 3 (0, 0)) :: [many H]) w := by
          revert w
          (intro w hw; refine hw.perm ?_; focus repeat (first | with_reducible exact Perm.refl _ | (with_reducible apply perm_take; focus ((repeat (first | with_reducible exact rem_here | with_reducible apply rem_there)); done)) | with_reducible apply Perm.dropK))
        exact h5.perm (.cons _ (.cons _ (.openT _)))
    · rename_i ga gf
      refine hK ⟨ga, gf⟩ _ _ ?_ ?_
      · (repeat (first | exact sub_nil _ | (apply sub_cons; first | exact rfl | exact congrArg (fun z : Int => some (Value.int .i64 z)) (by omega))))
      · dsimp only
        intro w hw
        have h5 : St B w0 (blk gf (.cells #[.int .i64 fr] 3 (0, 0)) :: blk ga (.cells #[.int .i64 at_] 3 (0, 0)) :: [many H]) w := by
          revert w
          (intro w hw; refine hw.perm ?_; focus repeat (first | with_reducible exact Perm.refl _ | (with_reducible apply perm_take; focus ((repeat (first | with_reducible exact rem_here | with_reducible apply rem_there)); done)) | with_reducible apply Perm.dropK))
        exact h5.perm (.cons _ (.cons _ (.openT _)))
  rintro ⟨ga, gf⟩
  dsimp only
  have hdl : (pre.drop 1).length = pre.length - 1 := List.length_drop
  repeat' (first | (apply VL_makeMap; exact rfl; intro gm) | (apply VL_slice_lo T (n' := (pre.drop 1).length); exact rfl; exact rfl; exact rfl; exact rfl; omega; (rw [hdl]; rfl)) | apply (zs1 ?_) | (apply zg4; refine zs9 ?_) | (apply zg22; refine zs50 ?_) | (apply zg24; (refine zs54 ?_; intro _)) | apply (zs65 ?_) | apply (zs68 ?_) | apply (zs69 ?_) | apply (zs70 ?_) | apply (zs73 ?_) | fail)
  rename_i gc
  refine VC_loop1 (fun (z : Qz) => [(34, .int .i64 z.k), (33, .int .i64 (pre.drop 1).length), (32, .slice (subA AP 1 capP 1) (pre.drop 1).length (capP - 1)), (12, .pointer (some ⟨gc, 0, none⟩)), (11, .pointer (some ⟨ga, 0, none⟩)), (10, .pointer (some ⟨gf, 0, none⟩)), (0, .int .i64 nodes), (1, .slice AL l.length capL), (2, .slice AP pre.length capP), (3, .int .i64 to)]) (fun z => blk gc (.cells #[.map (some gm)] 98 (0, 0)) :: blk gm (mobj z.es z.c) :: blk gf (.cells #[.int .i64 fr] 3 (0, 0)) :: blk ga (.cells #[.int .i64 at_] 3 (0, 0)) :: H)
    (fun z => z.k ≤ (pre.drop 1).length ∧ MB z.es z.f ∧ MOk z.es z.c ∧ ∀ v, z.f v = decide (v ∈ (pre.drop 1).take z.k)) (fun z => (pre.drop 1).length - z.k) ⟨0, [], 0, fun _ => false⟩ ⟨Nat.zero_le _, MB.nil, MOk.nil, fun v => by simp⟩ ?_ (by (intro w hw; refine hw.perm ?_; focus repeat (first | with_reducible exact Perm.refl _ | (with_reducible apply perm_take; focus ((repeat (first | with_reducible exact rem_here | with_reducible apply rem_there)); done)) | with_reducible apply Perm.dropK))) ?_
  · (repeat (first | exact sub_nil _ | (apply sub_cons; first | exact rfl | exact congrArg (fun z : Int => some (Value.int .i64 z)) (by omega))))
  rintro ⟨k, es, c, f⟩ ⟨hk, hmb, hmk, hf⟩ K hK
  simp only at hk hmb hmk hf ⊢
  have hp1 : ∀ {X1 X2 X3 X4 : HP}, Rd B w0 (X1 :: X2 :: X3 :: X4 :: H) (subA AP 1 capP 1) ((pre.drop 1).flatMap numF) := rd_lo 1 (hp.cons.cons.cons.cons) hcap
  by_cases hlt : k < (pre.drop 1).length
  · obtain ⟨v, hv⟩ : ∃ v, (pre.drop 1)[k]? = some v := ⟨_, List.getElem?_eq_getElem hlt⟩
    have hp1' := @hp1
    repeat' (first | (apply VL_index_rd T (f := numF) (l := pre.drop 1); exact rfl; exact rfl; exact hp1; exact rfl; exact fun _ => rfl; exact rfl; exact rfl; omega) | (apply VL_load_rd0 T (f := numF) (l := pre.drop 1); exact rfl; exact hp1; exact hv; exact fun _ => rfl; exact rfl; exact rfl; exact rfl; exact rfl) | (apply VL_setB (kt := 3) (et := 4); exact rfl; exact rfl; exact rfl; kernel_rfl; (intro _ _; (repeat (first | with_reducible exact Upd.here _ | with_reducible apply Upd.there))); exact hmb; exact hmk; intro es2 c2 m2 o2 _ _) | apply (zs1 ?_) | apply (zs2 ?_) | (apply zg3; refine zs7 ?_) | (apply (zs17 ?_ ?_) <;> intro _ <;> try (exfalso; omega)) | (apply zg13; refine zs30 ?_) | apply (zs65 ?_) | apply (zs68 ?_) | apply (zs69 ?_) | apply (zs70 ?_) | (apply zg27; refine zs71 ?_) | apply (zs73 ?_) | apply (zs76 ?_) | apply (zs79 ?_) | fail)
    apply hK ⟨k + 1, es2, c2, fun u => decide (u = v) || f u⟩
    · refine ⟨by simp only; omega, m2, o2, fun u => ?_⟩
      simp only
      rw [hf u, List.take_add_one, hv]
      by_cases h1 : u = v <;> by_cases h2 : u ∈ (pre.drop 1).take k <;> simp [h1]
    · simp only; omega
    · (repeat (first | exact sub_nil _ | (apply sub_cons; first | exact rfl | exact congrArg (fun z : Int => some (Value.int .i64 z)) (by omega))))
    · exact fun w hw => hw
  obtain rfl : k = (pre.drop 1).length := by omega
  clear hK
  rw [List.take_length] at hf
  have hmb2 : MB es (shutP pre) := hmb.ext hf
  clear hmb hf hp1
  unfold restF at hrun
  rw [hfe, hae] at hrun
  by_cases hat : at_ = to
  · rw [if_pos hat] at hrun
    have hin : to ∈ pre.drop 1 := by
      have h1 : (pre.drop 1)[pre.length - 2]? = some to := by
        rw [List.getElem?_drop, show 1 + (pre.length - 2) = ((pre.length : Int) - 1).toNat by omega, ← hat]; exact hg1
      exact List.mem_of_getElem? h1
    have hsto : shutP pre to = true := decide_eq_true hin
    have hll : (lstOf l pre to).length ≤ l.length := by
      unfold lstOf
      split
      · exact List.length_filter_le _ _
      · exact Nat.le_refl _
    have hla : leftA l pre to = (lstOf l pre to).filter fun a => !(shutQ pre to a.1 || shutQ pre to a.2.1) := rfl
    have hAl := leftA_len l pre to
    have hAok : ArcsOk nodes (leftA l pre to) := ArcsOk.sub hok fun a h => leftA_mem h
    have hnn : noneC = 1073741824 := rfl
    by_cases h2 : pre.length = 2
    · skip
      repeat' (first | (apply VL_delB (kt := 3) (et := 4); exact rfl; exact rfl; kernel_rfl; (intro _; (repeat (first | with_reducible exact Upd.here _ | with_reducible apply Upd.there))); exact hmb2; exact hmk; exact hsto; intro es3 mb3 mk3) | apply (zs1 ?_) | apply (zs2 ?_) | (apply zg3; refine zs7 ?_) | (apply zg4; refine zs9 ?_) | (apply zg7; (refine zs15 ?_ ?_ <;> intro _ <;> try (exfalso; omega))) | (apply (zs17 ?_ ?_) <;> intro _ <;> try (exfalso; omega)) | apply (zs65 ?_) | apply (zs68 ?_) | apply (zs69 ?_) | apply (zs70 ?_) | (apply zg27; first | refine zs71 ?_ | refine zs72 ?_) | apply (zs75 ?_) | apply (zs80 ?_) | apply (zs81 ?_) | fail)
      have hrl : Rd B w0 (blk gc (.cells #[.map (some gm)] 98 (0, 0)) :: blk gm (mobj es3 c) :: blk gf (.cells #[.int .i64 fr] 3 (0, 0)) :: blk ga (.cells #[.int .i64 at_] 3 (0, 0)) :: H) AL (l.flatMap lkF) := hr.cons.cons.cons.cons
      have hlst : lstOf l pre to = notArc fr to l := by unfold lstOf; rw [if_pos h2, hfe]
      apply VL_call _ en53
      (repeat (first | exact args_nil | (apply args_cons; exact rfl)))
      exact rfl
      exact fun _ hw => (without_spec l fr to (by omega) hrl (hw))
      rintro _ _ ⟨A1, cap1, rfl, rfl⟩
      rw [← hlst]
      repeat' (first | apply (zs1 ?_) | apply (zs2 ?_) | apply (zs65 ?_) | apply (zs68 ?_) | apply (zs69 ?_) | apply (zs70 ?_) | fail)
      apply VL_call _ en55
      (repeat (first | exact args_nil | (apply args_cons; exact rfl)))
      exact rfl
      exact fun _ hw => (cloneArcs_spec (lstOf l pre to) (by omega) (.sl (by (focus repeat (first | with_reducible exact List.mem_cons_self | with_reducible apply List.mem_cons_of_mem | assumption)))) (hw))
      rintro _ _ ⟨A2, cap2, rfl, rfl⟩
      repeat' (first | (apply zg29; (apply VL_makeFunc; (repeat (first | exact args_nil | (apply args_cons; exact rfl))) ; exact rfl)) | fail)
      apply VL_call _ en54
      (repeat (first | exact args_nil | (apply args_cons; exact rfl)))
      exact rfl
      exact fun _ hw => (deleteFuncArcs (fun a => shutQ pre to a.1 || shutQ pre to a.2.1) (lstOf l pre to) 83 [.pointer (some ⟨gc, 0, none⟩)] en83 (by omega) (fun a _ X w hw => rest1_spec gm gc c es3 (shutQ pre to) a mb3 (List.mem_append_right _ (by (focus repeat (first | with_reducible exact List.mem_cons_self | with_reducible apply List.mem_cons_of_mem | assumption)))) (List.mem_append_right _ (by (focus repeat (first | with_reducible exact List.mem_cons_self | with_reducible apply List.mem_cons_of_mem | assumption)))) hw) (hw))
      rintro _ _ ⟨rfl, rfl⟩
      rw [← hla]
      repeat' (first | apply (zs1 ?_) | apply (zs2 ?_) | apply (zs65 ?_) | apply (zs68 ?_) | apply (zs69 ?_) | apply (zs70 ?_) | fail)
      apply VL_call _ en43
      (repeat (first | exact args_nil | (apply args_cons; exact rfl)))
      exact rfl
      exact fun _ hw => (distances_spec nodes (leftA l pre to) to hn.2 (by omega) hAok hto (.sl (by (focus repeat (first | with_reducible exact List.mem_cons_self | with_reducible apply List.mem_cons_of_mem | assumption)))) (hw))
      rintro _ _ ⟨gF, far, rfl, hd, rfl⟩
      rw [distC_eq hAok hd] at hrun
      obtain rfl := Option.some.inj hrun
      have hflen := hd.len
      have hgf := farAt_get (far := far) (i := fr) (by omega)
      have hrf := hd.range fr hfr.1 hfr.2
      rw [hnn] at hrf
      rw [hnn]
      apply VL_st (ints (some ⟨gF, 0, none⟩) nodes far :: blk gf (.cells #[.int .i64 fr] 3 (0, 0)) :: H)
      · (intro w hw; refine hw.perm ?_; focus repeat (first | with_reducible exact Perm.refl _ | (with_reducible apply perm_take; focus ((repeat (first | with_reducible exact rem_here | with_reducible apply rem_there)); done)) | with_reducible apply Perm.dropK))
      iterate 4 (first | apply (zs2 ?_) | apply (zs65 ?_) | apply (zs68 ?_) | apply (zs69 ?_) | fail)
      by_cases hlt : farAt far fr < 1073741824
      · rw [decide_eq_true hlt]
        apply VC_held [0, 1, 2, 3, 4, 5, 6, 7, 8, 9, 10] [] [true, true]
        kernel_rfl
        kernel_rfl
        (repeat (first | with_reducible exact split_nil | with_reducible apply split_t | with_reducible apply split_f))
        (simp only [pickOps, nthO]; rfl)
        exact rfl
        repeat' (first | apply (zs1 ?_) | apply (zs2 ?_) | (apply zg3; first | refine zs7 ?_ | refine zs60 ?_) | (apply zg5; refine zs10 ?_) | (apply (zs17 ?_ ?_) <;> intro _ <;> try (exfalso; omega)) | apply (zs65 ?_) | (apply VL_nilh; (repeat (first | with_reducible exact app_nil | with_reducible apply app_cons))) | apply (zs68 ?_) | apply (zs74 ?_) | apply (zs77 ?_) | apply (zs93 ?_) | apply (zs94 ?_) | fail)
        apply VQ_st H
        · exact fun w hw => hw.tail.tail
        apply VQ_ret2; exact rfl; exact rfl; exact rfl
        exact ⟨rfl, ⟨by simp only; omega, by simp only; omega⟩, rfl⟩
      · rw [decide_eq_false hlt]
        apply VC_held [0, 1, 2, 3, 4, 5, 6, 7, 8, 9, 10] [] [true, true]
        kernel_rfl
        kernel_rfl
        (repeat (first | with_reducible exact split_nil | with_reducible apply split_t | with_reducible apply split_f))
        (simp only [pickOps, nthO]; rfl)
        exact rfl
        repeat' (first | apply (zs1 ?_) | apply (zs2 ?_) | (apply zg3; first | refine zs7 ?_ | refine zs60 ?_) | (apply zg5; refine zs10 ?_) | (apply (zs17 ?_ ?_) <;> intro _ <;> try (exfalso; omega)) | apply (zs65 ?_) | (apply VL_nilh; (repeat (first | with_reducible exact app_nil | with_reducible apply app_cons))) | apply (zs68 ?_) | apply (zs74 ?_) | apply (zs77 ?_) | apply (zs93 ?_) | apply (zs94 ?_) | fail)
        apply VQ_st H
        · exact fun w hw => hw.tail.tail
        apply VQ_ret2; exact rfl; exact rfl; exact rfl
        exact ⟨rfl, ⟨by simp only; omega, by simp only; omega⟩, rfl⟩
    · skip
      repeat' (first | (apply VL_delB (kt := 3) (et := 4); exact rfl; exact rfl; kernel_rfl; (intro _; (repeat (first | with_reducible exact Upd.here _ | with_reducible apply Upd.there))); exact hmb2; exact hmk; exact hsto; intro es3 mb3 mk3) | apply (zs1 ?_) | apply (zs2 ?_) | (apply zg3; refine zs7 ?_) | (apply zg4; refine zs9 ?_) | (apply zg7; (refine zs15 ?_ ?_ <;> intro _ <;> try (exfalso; omega))) | (apply (zs17 ?_ ?_) <;> intro _ <;> try (exfalso; omega)) | apply (zs65 ?_) | apply (zs68 ?_) | apply (zs69 ?_) | apply (zs70 ?_) | (apply zg27; first | refine zs71 ?_ | refine zs72 ?_) | apply (zs75 ?_) | apply (zs76 ?_) | apply (zs80 ?_) | apply (zs81 ?_) | fail)
      have hrl : Rd B w0 (blk gc (.cells #[.map (some gm)] 98 (0, 0)) :: blk gm (mobj es3 c) :: blk gf (.cells #[.int .i64 fr] 3 (0, 0)) :: blk ga (.cells #[.int .i64 at_] 3 (0, 0)) :: H) AL (l.flatMap lkF) := hr.cons.cons.cons.cons
      have hlst : lstOf l pre to = l := by unfold lstOf; rw [if_neg h2]
      rw [← hlst] at hrl ⊢
      apply VL_call _ en55
      (repeat (first | exact args_nil | (apply args_cons; exact rfl)))
      exact rfl
      exact fun _ hw => (cloneArcs_spec (lstOf l pre to) (by omega) hrl (hw))
      rintro _ _ ⟨A2, cap2, rfl, rfl⟩
      repeat' (first | (apply zg29; (apply VL_makeFunc; (repeat (first | exact args_nil | (apply args_cons; exact rfl))) ; exact rfl)) | fail)
      apply VL_call _ en54
      (repeat (first | exact args_nil | (apply args_cons; exact rfl)))
      exact rfl
      exact fun _ hw => (deleteFuncArcs (fun a => shutQ pre to a.1 || shutQ pre to a.2.1) (lstOf l pre to) 83 [.pointer (some ⟨gc, 0, none⟩)] en83 (by omega) (fun a _ X w hw => rest1_spec gm gc c es3 (shutQ pre to) a mb3 (List.mem_append_right _ (by (focus repeat (first | with_reducible exact List.mem_cons_self | with_reducible apply List.mem_cons_of_mem | assumption)))) (List.mem_append_right _ (by (focus repeat (first | with_reducible exact List.mem_cons_self | with_reducible apply List.mem_cons_of_mem | assumption)))) hw) (hw))
      rintro _ _ ⟨rfl, rfl⟩
      rw [← hla]
      repeat' (first | apply (zs1 ?_) | apply (zs2 ?_) | apply (zs65 ?_) | apply (zs68 ?_) | apply (zs69 ?_) | apply (zs70 ?_) | fail)
      apply VL_call _ en43
      (repeat (first | exact args_nil | (apply args_cons; exact rfl)))
      exact rfl
      exact fun _ hw => (distances_spec nodes (leftA l pre to) to hn.2 (by omega) hAok hto (.sl (by (focus repeat (first | with_reducible exact List.mem_cons_self | with_reducible apply List.mem_cons_of_mem | assumption)))) (hw))
      rintro _ _ ⟨gF, far, rfl, hd, rfl⟩
      rw [distC_eq hAok hd] at hrun
      obtain rfl := Option.some.inj hrun
      have hflen := hd.len
      have hgf := farAt_get (far := far) (i := fr) (by omega)
      have hrf := hd.range fr hfr.1 hfr.2
      rw [hnn] at hrf
      rw [hnn]
      apply VL_st (ints (some ⟨gF, 0, none⟩) nodes far :: blk gf (.cells #[.int .i64 fr] 3 (0, 0)) :: H)
      · (intro w hw; refine hw.perm ?_; focus repeat (first | with_reducible exact Perm.refl _ | (with_reducible apply perm_take; focus ((repeat (first | with_reducible exact rem_here | with_reducible apply rem_there)); done)) | with_reducible apply Perm.dropK))
      iterate 4 (first | apply (zs2 ?_) | apply (zs65 ?_) | apply (zs68 ?_) | apply (zs69 ?_) | fail)
      by_cases hlt : farAt far fr < 1073741824
      · rw [decide_eq_true hlt]
        apply VC_held [0, 1, 2, 3, 4, 5, 6, 7, 8, 9, 10] [] [true, true]
        kernel_rfl
        kernel_rfl
        (repeat (first | with_reducible exact split_nil | with_reducible apply split_t | with_reducible apply split_f))
        (simp only [pickOps, nthO]; rfl)
        exact rfl
        repeat' (first | apply (zs1 ?_) | apply (zs2 ?_) | (apply zg3; first | refine zs7 ?_ | refine zs60 ?_) | (apply zg5; refine zs10 ?_) | (apply (zs17 ?_ ?_) <;> intro _ <;> try (exfalso; omega)) | apply (zs65 ?_) | (apply VL_nilh; (repeat (first | with_reducible exact app_nil | with_reducible apply app_cons))) | apply (zs68 ?_) | apply (zs74 ?_) | apply (zs77 ?_) | apply (zs93 ?_) | apply (zs94 ?_) | fail)
        apply VQ_st H
        · exact fun w hw => hw.tail.tail
        apply VQ_ret2; exact rfl; exact rfl; exact rfl
        exact ⟨rfl, ⟨by simp only; omega, by simp only; omega⟩, rfl⟩
      · rw [decide_eq_false hlt]
        apply VC_held [0, 1, 2, 3, 4, 5, 6, 7, 8, 9, 10] [] [true, true]
        kernel_rfl
        kernel_rfl
        (repeat (first | with_reducible exact split_nil | with_reducible apply split_t | with_reducible apply split_f))
        (simp only [pickOps, nthO]; rfl)
        exact rfl
        repeat' (first | apply (zs1 ?_) | apply (zs2 ?_) | (apply zg3; first | refine zs7 ?_ | refine zs60 ?_) | (apply zg5; refine zs10 ?_) | (apply (zs17 ?_ ?_) <;> intro _ <;> try (exfalso; omega)) | apply (zs65 ?_) | (apply VL_nilh; (repeat (first | with_reducible exact app_nil | with_reducible apply app_cons))) | apply (zs68 ?_) | apply (zs74 ?_) | apply (zs77 ?_) | apply (zs93 ?_) | apply (zs94 ?_) | fail)
        apply VQ_st H
        · exact fun w hw => hw.tail.tail
        apply VQ_ret2; exact rfl; exact rfl; exact rfl
        exact ⟨rfl, ⟨by simp only; omega, by simp only; omega⟩, rfl⟩
  · rw [if_neg hat] at hrun
    have hbad : ∀ a, badB pre a = (shutP pre a.2.1 || (shutP pre a.1 && decide (a.1 ≠ at_)) || decide (a.2.1 = fr)) := fun a => by unfold badB; rw [hae, hfe]
    have hBl := leftB_len l pre
    have hBok : ArcsOk nodes (leftB l pre) := ArcsOk.sub hok fun a h => (List.mem_filter.1 h).1
    have hlb : leftB l pre = l.filter fun a => !badB pre a := rfl
    cases hbo : bothF fuel nodes (leftB l pre) at_ fr to (shutP pre) with
    | none => rw [hbo] at hrun; cases hrun
    | some r =>
      rw [hbo] at hrun
      obtain rfl := Option.some.inj hrun
      have hrl : Rd B w0 (blk gc (.cells #[.map (some gm)] 98 (0, 0)) :: blk gm (mobj es c) :: blk gf (.cells #[.int .i64 fr] 3 (0, 0)) :: blk ga (.cells #[.int .i64 at_] 3 (0, 0)) :: H) AL (l.flatMap lkF) := hr.cons.cons.cons.cons
      repeat' (first | apply (zs1 ?_) | (apply zg3; refine zs7 ?_) | (apply zg7; (refine zs15 ?_ ?_ <;> intro _ <;> try (exfalso; omega))) | (apply (zs17 ?_ ?_) <;> intro _ <;> try (exfalso; omega)) | apply (zs65 ?_) | apply (zs68 ?_) | apply (zs69 ?_) | apply (zs70 ?_) | (apply zg27; refine zs72 ?_) | apply (zs75 ?_) | apply (zs76 ?_) | apply (zs80 ?_) | apply (zs81 ?_) | fail)
      apply VL_call _ en55
      (repeat (first | exact args_nil | (apply args_cons; exact rfl)))
      exact rfl
      exact fun _ hw => (cloneArcs_spec l (by omega) hrl (hw))
      rintro _ _ ⟨A2, cap2, rfl, rfl⟩
      repeat' (first | (apply zg29; (apply VL_makeFunc; (repeat (first | exact args_nil | (apply args_cons; exact rfl))) ; exact rfl)) | fail)
      apply VL_call _ en54
      (repeat (first | exact args_nil | (apply args_cons; exact rfl)))
      exact rfl
      exact fun _ hw => (deleteFuncArcs (badB pre) l 84 [.pointer (some ⟨gc, 0, none⟩), .pointer (some ⟨ga, 0, none⟩), .pointer (some ⟨gf, 0, none⟩)] en84 (by omega) (fun a _ X w hw => by rw [hbad a]; exact rest2_spec gm gc ga gf c es (shutP pre) fr at_ a hmb2 (List.mem_append_right _ (by (focus repeat (first | with_reducible exact List.mem_cons_self | with_reducible apply List.mem_cons_of_mem | assumption)))) (List.mem_append_right _ (by (focus repeat (first | with_reducible exact List.mem_cons_self | with_reducible apply List.mem_cons_of_mem | assumption)))) (List.mem_append_right _ (by (focus repeat (first | with_reducible exact List.mem_cons_self | with_reducible apply List.mem_cons_of_mem | assumption)))) (List.mem_append_right _ (by (focus repeat (first | with_reducible exact List.mem_cons_self | with_reducible apply List.mem_cons_of_mem | assumption)))) hw) (hw))
      rintro _ _ ⟨rfl, rfl⟩
      rw [← hlb]
      repeat' (first | apply (zs1 ?_) | apply (zs2 ?_) | (apply zg3; refine zs7 ?_) | apply (zs65 ?_) | apply (zs68 ?_) | apply (zs69 ?_) | apply (zs70 ?_) | fail)
      apply VL_call _ en32
      (repeat (first | exact args_nil | (apply args_cons; exact rfl)))
      exact rfl
      exact fun _ hw => (both_spec nodes (leftB l pre) at_ fr to (some gm) (shutP pre) fuel r (by omega) (by omega) hBok har hfr hto hfu hbo ⟨es, c, by (focus repeat (first | with_reducible exact List.mem_cons_self | with_reducible apply List.mem_cons_of_mem | assumption)), hmb2, hmk⟩ (.sl (by (focus repeat (first | with_reducible exact List.mem_cons_self | with_reducible apply List.mem_cons_of_mem | assumption)))) (hw))
      rintro _ _ ⟨g, A, cap, rfl, ⟨_, _, b3, b4⟩, rfl⟩
      repeat' (first | apply (zs1 ?_) | apply (zs2 ?_) | apply (zs13 ?_) | apply (zs65 ?_) | apply (zs68 ?_) | apply (zs69 ?_) | apply (zs70 ?_) | apply (zs74 ?_) | fail)
      apply VQ_st H
      · unfold gpcs
        exact fun w hw => hw.tail.tail.tail.tail.tail.tail.tail
      apply VQ_ret2; exact rfl; exact rfl; exact rfl
      exact ⟨rfl, ⟨b3, b4⟩, rfl⟩
end Go.Proofs.YtleldppdflgmgaaGreat

/- Walk: pair. -/
namespace Go.Eng
open Go.RowKit
theorem VL_capA {P : Program} {n B : Nat} {w0 : World} {ops : Array Oper} {Q : Exit → Act → World → Prop} {env : Env} {H : List HP} {l : List Oper} {e size k cap : Nat} {A : Option Addr} {xs : List Value} (hm : sl e size A k cap xs ∈ H) (h : k ≤ cap → VL P none n B w0 ops Q l env H) : VL P none n B w0 ops Q l env H := by
  refine ⟨fun a ha w hw => ?_⟩
  have hown := hw.sl hm
  have hkc : k ≤ cap := by
    rcases hown.2 with ⟨e1, e2⟩ | ⟨g, c, cur, e1, _, _, e4, _⟩
    · omega
    · injection e1 with _ _ e3; omega
  exact (h hkc).run a ha w hw
end Go.Eng
namespace Go.Proofs.YtleldppdflgmgaaGreat
open Go.RowKit Go.Eng Go.Nw Go.Rt

/-! ### What pair computes -/
section
variable (fuel nodes : Nat) (L : List Lk) (to total : Int)
noncomputable def pairStep (r : List Int) (spent at_ : Int) (st : Int × Int) (a : Lk) : Option (Int × Int) :=
  if a.1 ≠ at_ ∨ a.2.1 ∈ r ∨ (0 ≤ st.1 ∧ st.1 < a.2.1) then some st else
    match restF fuel nodes L (r ++ [a.2.1]) to with
    | none => none
    | some s => if s.2 = true ∧ spent + a.2.2 + s.1 = total then some (a.2.1, a.2.2) else some st
noncomputable def pairScan (r : List Int) (spent at_ : Int) : List Lk → Int × Int → Option (Int × Int)
  | [], st => some st
  | a :: m, st => match pairStep fuel nodes L to total r spent at_ st a with
    | none => none
    | some st2 => pairScan r spent at_ m st2
noncomputable def pairLoop : Nat → List Int → Int → Int → Option (List Int)
  | 0, _, _, _ => none
  | k + 1, r, spent, at_ => if at_ = to then some r else
    match pairScan fuel nodes L to total r spent at_ L (-1, 0) with
    | none => none
    | some st => if st.1 < 0 then none else pairLoop k (r ++ [st.1]) (spent + st.2) st.1
end
def midP (r : List Int) : List Int := (r.drop 1).take (r.length - 2)
def leftP (l : List Lk) (s to : Int) (r : List Int) : List Lk := (if r.length = 2 then notArc s to l else l).filter fun a => !(decide (a.1 ∈ midP r) || decide (a.2.1 ∈ midP r))
noncomputable def otherP (nodes : Nat) (l : List Lk) (s to : Int) (r : List Int) : List Int := wayF (leftP l s to r) (distC nodes (leftP l s to r) to) s to
noncomputable def pairF (fuel nodes : Nat) (L : List Lk) (s to : Int) : Option (Option (List Int × List Int)) :=
  match bothF fuel nodes L s s to (fun _ => false) with
  | none => none
  | some r => if r.2.1 = false then some none else
    match pairLoop fuel nodes L to r.1 400 [s] 0 s with
    | none => none
    | some p => some (some (p, otherP nodes L s to p))
theorem leftP_mem {l : List Lk} {s to : Int} {r : List Int} {a : Lk} (h : a ∈ leftP l s to r) : a ∈ l := by
  have := (List.mem_filter.1 h).1
  split at this
  · exact (List.mem_filter.1 this).1
  · exact this
theorem leftP_len (l : List Lk) (s to : Int) (r : List Int) : (leftP l s to r).length ≤ l.length := by
  unfold leftP
  split
  · exact Nat.le_trans (List.length_filter_le _ _) (List.length_filter_le _ _)
  · exact List.length_filter_le _ _

set_option maxRecDepth 10000 in
theorem pair1_spec (gi : Nat) (m : List Int) (a : Lk) (hlen : m.length ≤ 1000) {A : Option Addr} {cap B : Nat} {w0 : World} {H : List HP} {w : World} (hi : blk gi (.cells #[.slice A m.length cap] 31 (0, 0)) ∈ H) (hr : Rd B w0 H A (m.flatMap numF)) (hw : St B w0 H w) :
    Calls Tryz.prog 56 [arcV a, .pointer (some ⟨gi, 0, none⟩)].toArray w (Post B w0 fun v K => v = .bool (decide (a.1 ∈ m) || decide (a.2.1 ∈ m)) ∧ K = H) := by
  refine Calls_of_VC Tryz.func56 Tryz.ntmps56 rfl rfl hw ?_
  unfold arcV
  have h1 := fun {X : HP} {w : World} (hw : St B w0 (X :: H) w) => contains_route m a.1 (by omega) (cap := cap) (hr.cons (X := X)) hw
  have h2 := fun {X : HP} {w : World} (hw : St B w0 (X :: H) w) => contains_route m a.2.1 (by omega) (cap := cap) (hr.cons (X := X)) hw
  obtain ⟨b1, hb1⟩ : ∃ b, decide (a.1 ∈ m) = b := ⟨_, rfl⟩
  obtain ⟨b2, hb2⟩ : ∃ b, decide (a.2.1 ∈ m) = b := ⟨_, rfl⟩
  rw [hb1] at h1
  rw [hb2] at h2
  rw [hb1, hb2]
  cases b1
  · skip
    repeat' (first | apply (zs2 ?_) | (apply zg2; refine zs6 ?_) | (apply zg3; refine zs7 ?_) | (apply zg23; (refine zs52 ?_; intro _)) | apply (zs65 ?_) | apply (zs68 ?_) | apply (zs69 ?_) | apply (zs70 ?_) | fail)
    first | apply VL_callt en49 | apply VL_callq en49
    (repeat (first | exact args_nil | (apply args_cons; exact rfl)))
    exact rfl
    exact fun _ hw => (h1 hw)
    repeat' (first | apply (zs1 ?_) | (apply zg1; refine zs4 ?_) | (apply zg2; refine zs6 ?_) | (apply zg3; refine zs7 ?_) | fail)
    first | apply VL_callt en49 | apply VL_callq en49
    (repeat (first | exact args_nil | (apply args_cons; exact rfl)))
    exact rfl
    exact fun _ hw => (h2 hw)
    repeat' (first | apply (zs2 ?_) | (apply zg6; refine zs12 ?_) | apply (zs65 ?_) | apply (zs68 ?_) | apply (zs74 ?_) | fail)
    apply VQ_tail; apply VQ_ret1; exact rfl; exact rfl; exact ⟨rfl, rfl⟩
  · skip
    repeat' (first | apply (zs2 ?_) | (apply zg2; refine zs6 ?_) | (apply zg3; refine zs7 ?_) | (apply zg23; (refine zs52 ?_; intro _)) | apply (zs65 ?_) | apply (zs68 ?_) | apply (zs69 ?_) | apply (zs70 ?_) | fail)
    first | apply VL_callt en49 | apply VL_callq en49
    (repeat (first | exact args_nil | (apply args_cons; exact rfl)))
    exact rfl
    exact fun _ hw => (h1 hw)
    repeat' (first | apply (zs1 ?_) | apply (zs2 ?_) | (apply zg1; refine zs3 ?_) | (apply zg6; refine zs11 ?_) | apply (zs65 ?_) | apply (zs68 ?_) | apply (zs74 ?_) | fail)
    apply VQ_tail; apply VQ_ret1; exact rfl; exact rfl; exact ⟨rfl, rfl⟩
end Go.Proofs.YtleldppdflgmgaaGreat

/- Walk: pair. -/
namespace Go.Proofs.YtleldppdflgmgaaGreat
open Go.RowKit Go.Eng Go.Nw Go.Rt

structure Oz where
  k : Nat
  r : List Int
  A : Option Addr
  cap : Nat
  spent : Int
  at_ : Int
structure OzOk (fuel nodes : Nat) (L : List Lk) (s to total : Int) (p : List Int) (z : Oz) : Prop where
  run : pairLoop fuel nodes L to total z.k z.r z.spent z.at_ = some p
  len : 1 ≤ z.r.length ∧ z.r.length + z.k ≤ 401
  mem : ∀ v ∈ z.r, 0 ≤ v ∧ v < nodes
  sp : 0 ≤ z.spent ∧ z.spent ≤ 1000000 * (z.r.length : Int)
  one : z.r.length = 1 → z.at_ = s
structure Iz where
  j : Nat
  best : Int
  price : Int

theorem ints_one (A : Option Addr) (cap : Nat) (r : List Int) (x : Int) : sl 3 1 A (r.length + 1) cap (r.flatMap numF ++ #[Value.int .i64 x].toList) = ints A cap (r ++ [x]) := by simp [ints, List.flatMap_append, numF]

set_option maxRecDepth 10000 in
set_option maxHeartbeats 4000000 in
theorem pair_spec (n : NetM) (s to : Int) (nodes fuel : Nat) (res : Option (List Int × List Int)) (hck : checkE n.net = 0) (hnn : n.nodes = nodes) (hs : 0 ≤ s ∧ s < nodes) (ht : 0 ≤ to ∧ to < nodes) (hst : s ≠ to) (hfu : fuel ≤ 100000) (hrun : pairF fuel nodes (arcsE n.net) s to = some res)
    {B : Nat} {w0 : World} {H : List HP} {w : World} (hin : n.In B w0 H) (hw : St B w0 H w) :
    Calls Tryz.prog 28 [n.val, .int .i64 s, .int .i64 to].toArray w (Post B w0 fun v K => match res with
      | none => v = .slice none 0 0 ∧ K = H
      | some pq => ∃ g A1 c1 A2 c2, v = .slice (some ⟨g, 0, none⟩) 2 2 ∧ (2 ≤ pq.1.length ∧ pq.1.length ≤ 401 ∧ pq.2.length ≤ 1073741824) ∧ WayV A2 pq.2 ∧ K = sl 31 1 (some ⟨g, 0, none⟩) 2 2 ([⟨A1, c1, pq.1⟩, ⟨A2, c2, pq.2⟩].flatMap rowF) :: ints A1 c1 pq.1 :: ints A2 c2 pq.2 :: H) := by
  have hok := check_ok hck
  have hn0 := hok.n0
  have hn1 := hok.n1
  have hnn2 : n.net.nodes = n.nodes := rfl
  have hal : (arcsE n.net).length ≤ 128 := Nat.le_trans (arcsTo_len _ _) hok.k0
  have hLo := arcs_ok hok (nodes := nodes) hnn
  obtain ⟨L, hL⟩ : ∃ L, arcsE n.net = L := ⟨_, rfl⟩
  have hspecA := fun {H : List HP} {w : World} (hin : n.In B w0 H) (hw : St B w0 H w) => arcs_spec n hin hck hw
  rw [hL] at hal hLo hrun hspecA
  have hno : noneC = 1073741824 := rfl
  refine Calls_of_VC Tryz.func28 Tryz.ntmps28 rfl rfl hw ?_
  (apply VC_seq; apply VC_region; apply VL_box_agg; exact rfl; exact rfl; intro g)
  repeat' (first | apply (zs2 ?_) | (apply zg3; refine zs8 ?_) | apply (zs65 ?_) | apply (zs68 ?_) | apply (zs69 ?_) | apply (zs70 ?_) | fail)
  apply VL_call _ en21
  (repeat (first | exact args_nil | (apply args_cons; exact rfl)))
  exact rfl
  exact fun _ hw => (hspecA hin.cons (hw))
  rintro _ _ ⟨A, cap, rfl, rfl⟩
  unfold pairF at hrun
  cases hbo : bothF fuel nodes L s s to (fun _ => false) with
  | none => rw [hbo] at hrun; cases hrun
  | some r0 =>
    rw [hbo] at hrun
    obtain ⟨total, ok, es0⟩ := r0
    dsimp only at hrun
    have hboth := fun {H : List HP} {w : World} (hr : Rd B w0 H A (L.flatMap lkF)) (hw : St B w0 H w) => both_spec nodes L s s to none (fun _ => false) fuel (total, ok, es0) (capL := cap) (by omega) (by omega) hLo hs hs ht hfu hbo (fun _ => rfl) hr hw
    rw [← hnn] at hboth
    repeat' (first | apply (zs1 ?_) | apply (zs2 ?_) | (apply zg2; refine zs6 ?_) | (apply zg3; refine zs7 ?_) | apply (zs65 ?_) | apply (zs68 ?_) | apply (zs69 ?_) | apply (zs70 ?_) | fail)
    apply VL_call _ en32
    (repeat (first | exact args_nil | (apply args_cons; exact rfl)))
    exact rfl
    exact fun _ hw => (hboth (.sl (by (focus repeat (first | with_reducible exact List.mem_cons_self | with_reducible apply List.mem_cons_of_mem | assumption)))) (hw))
    rintro _ _ ⟨g0, A0, cap0, rfl, ⟨_, _, b3, b4⟩, rfl⟩
    dsimp only at b3 b4 ⊢
    apply VL_st (arcsP A cap L :: netB g n :: H)
    · unfold gpcs
      exact fun w hw => hw.tail.tail
    cases ok with
    | false =>
      rw [if_pos rfl] at hrun
      obtain rfl := Option.some.inj hrun
      repeat' (first | apply (zs1 ?_) | apply (zs2 ?_) | apply (zs13 ?_) | (apply zg20; refine zs48 ?_) | apply (zs65 ?_) | apply (zs68 ?_) | apply (zs69 ?_) | apply (zs70 ?_) | (apply zg27; refine zs71 ?_) | apply (zs74 ?_) | apply (zs77 ?_) | fail)
      apply VQ_st H
      · exact fun w hw => hw.tail.tail
      apply VQ_ret1; exact rfl; exact rfl
      exact ⟨rfl, rfl⟩
    | true =>
      rw [if_neg (by decide)] at hrun
      cases hlo : pairLoop fuel nodes L to total 400 [s] 0 s with
      | none => rw [hlo] at hrun; cases hrun
      | some p =>
        rw [hlo] at hrun
        obtain rfl := Option.some.inj hrun
        dsimp only
        repeat' (first | apply (zs1 ?_) | apply (zs2 ?_) | apply (zs13 ?_) | (apply zg20; refine zs47 ?_) | (apply zg26; (refine zs56 ?_; intro _)) | apply (zs65 ?_) | apply (zs68 ?_) | apply (zs69 ?_) | apply (zs70 ?_) | (apply zg27; refine zs72 ?_) | apply (zs73 ?_) | apply (zs76 ?_) | fail)
        rename_i g1
        refine VC_loop1 (fun (z : Oz) => [(13, .int .i64 z.at_), (12, .int .i64 z.spent), (11, .slice z.A z.r.length z.cap), (8, .int .i64 total), (7, .slice A L.length cap), (3, .pointer (some ⟨g, 0, none⟩)), (1, .int .i64 s), (2, .int .i64 to)]) (fun z => ints z.A z.cap z.r :: arcsP A cap L :: netB g n :: H) (fun z => OzOk fuel nodes L s to total p z) (fun z => z.k) ⟨400, [s], some ⟨g1, 0, none⟩, 1, 0, s⟩ ⟨hlo, by simp, fun v hv => by obtain rfl := List.mem_singleton.1 hv; exact hs, by simp, fun _ => rfl⟩ ?_ (fun w hw => hw.blk_sl (cs := numF s) (len := 1) (size := 1) rfl (by omega)) ?_
        · (repeat (first | exact sub_nil _ | (apply sub_cons; first | exact rfl | exact congrArg (fun z : Int => some (Value.int .i64 z)) (by omega))))
        rintro ⟨k, r, Ar, capr, spent, at_⟩ ⟨hrun2, ⟨hl1, hl2⟩, hmem, ⟨hsp0, hsp1⟩, hone⟩ K hK
        simp only at hrun2 hl1 hl2 hmem hsp0 hsp1 hone ⊢
        cases k with
        | zero => cases hrun2
        | succ k =>
          unfold pairLoop at hrun2
          by_cases hat : at_ = to
          · rw [if_pos hat] at hrun2
            obtain rfl := Option.some.inj hrun2
            have hr2 : 2 ≤ r.length := by
              rcases Nat.lt_or_ge 1 r.length with h | h
              · exact h
              · have := hone (by omega)
                exact absurd (this.symm.trans hat) hst
            clear hK
            have hml : (midP r).length = r.length - 2 := by unfold midP; rw [List.length_take, List.length_drop]; omega
            have hPl := leftP_len L s to r
            have hPok : ArcsOk nodes (leftP L s to r) := ArcsOk.sub hLo fun a h => leftP_mem h
            obtain ⟨LL, hLL⟩ : ∃ LL, (if r.length = 2 then notArc s to L else L) = LL := ⟨_, rfl⟩
            have hLLl : LL.length ≤ L.length := by
              rw [← hLL]
              split
              · exact List.length_filter_le _ _
              · exact Nat.le_refl _
            have hlp : leftP L s to r = LL.filter fun a => !(decide (a.1 ∈ midP r) || decide (a.2.1 ∈ midP r)) := by rw [← hLL]; rfl
            have hfirst := fun {A : Option Addr} {cap : Nat} {H : List HP} {w : World} (hr : Rd B w0 H A ((leftP L s to r).flatMap lkF)) (hw : St B w0 H w) => first_spec nodes (leftP L s to r) s to (capL := cap) (by omega) (by omega) hPok hs ht hr hw
            rw [← hnn] at hfirst
            by_cases h2 : r.length = 2
            · skip
              rw [if_pos h2] at hLL
              repeat' (first | apply (zs1 ?_) | apply (zs2 ?_) | (apply zg4; refine zs9 ?_) | (apply zg7; (refine zs15 ?_ ?_ <;> intro _ <;> try (exfalso; omega))) | (apply zg8; (refine zs16 ?_ ?_ <;> intro _ <;> try (exfalso; omega))) | apply (zs65 ?_) | apply (zs68 ?_) | apply (zs69 ?_) | apply (zs70 ?_) | (apply zg27; first | refine zs71 ?_ | refine zs72 ?_) | apply (zs75 ?_) | apply (zs80 ?_) | apply (zs81 ?_) | fail)
              apply VL_call _ en53
              (repeat (first | exact args_nil | (apply args_cons; exact rfl)))
              exact rfl
              exact fun _ hw => (without_spec L s to (by omega) (.sl (by (focus repeat (first | with_reducible exact List.mem_cons_self | with_reducible apply List.mem_cons_of_mem | assumption)))) (hw))
              rintro _ _ ⟨A1, cap1, rfl, rfl⟩
              rw [hLL]
              repeat' (first | apply (zs1 ?_) | apply (zs2 ?_) | (apply zg4; refine zs9 ?_) | (apply zg14; refine zs31 ?_) | apply (zs65 ?_) | apply (zs68 ?_) | apply (zs69 ?_) | apply (zs70 ?_) | fail)
              refine VL_capA (e := 3) (size := 1) (k := r.length) (cap := capr) (A := Ar) (xs := r.flatMap numF) (by (focus repeat (first | with_reducible exact List.mem_cons_self | with_reducible apply List.mem_cons_of_mem | assumption))) fun hcapr => ?_
              apply VL_slice_lh T (n' := (midP r).length); exact rfl; exact rfl; exact rfl; exact rfl; exact rfl; omega; omega
              rw [Int.toNat_one]
              repeat' (first | apply (zs1 ?_) | (apply zg22; refine zs50 ?_) | (apply zg24; (refine zs54 ?_; intro _)) | apply (zs65 ?_) | apply (zs68 ?_) | apply (zs69 ?_) | apply (zs70 ?_) | fail)
              rename_i gi
              have hmid : ∀ {HH : List HP}, Rd B w0 HH Ar (r.flatMap numF) → Rd B w0 HH (subA Ar 1 capr 1) ((midP r).flatMap numF) := fun h => Rd.sub (f := numF) (q := 1) (o := 1) (k := r.length - 2) (fun _ => rfl) h hcapr
              apply VL_call _ en55
              (repeat (first | exact args_nil | (apply args_cons; exact rfl)))
              exact rfl
              exact fun _ hw => (cloneArcs_spec LL (by omega) (.sl (by (focus repeat (first | with_reducible exact List.mem_cons_self | with_reducible apply List.mem_cons_of_mem | assumption)))) (hw))
              rintro _ _ ⟨A2, cap2, rfl, rfl⟩
              repeat' (first | (apply zg29; (apply VL_makeFunc; (repeat (first | exact args_nil | (apply args_cons; exact rfl))) ; exact rfl)) | fail)
              apply VL_call _ en54
              (repeat (first | exact args_nil | (apply args_cons; exact rfl)))
              exact rfl
              exact fun _ hw => (deleteFuncArcs (fun a => decide (a.1 ∈ midP r) || decide (a.2.1 ∈ midP r)) LL 56 [.pointer (some ⟨gi, 0, none⟩)] en56 (by omega) (fun a _ X w hw => pair1_spec gi (midP r) a (by omega) (List.mem_append_right _ (by (focus repeat (first | with_reducible exact List.mem_cons_self | with_reducible apply List.mem_cons_of_mem | assumption)))) (hmid (.sl (List.mem_append_right _ (by (focus repeat (first | with_reducible exact List.mem_cons_self | with_reducible apply List.mem_cons_of_mem | assumption)))))) hw) (hw))
              rintro _ _ ⟨rfl, rfl⟩
              rw [← hlp]
              repeat' (first | apply (zs1 ?_) | apply (zs2 ?_) | (apply zg2; refine zs6 ?_) | (apply zg3; refine zs7 ?_) | apply (zs65 ?_) | apply (zs68 ?_) | apply (zs69 ?_) | apply (zs70 ?_) | fail)
              apply VL_call _ en22
              (repeat (first | exact args_nil | (apply args_cons; exact rfl)))
              exact rfl
              exact fun _ hw => (hfirst (.sl (by (focus repeat (first | with_reducible exact List.mem_cons_self | with_reducible apply List.mem_cons_of_mem | assumption)))) (hw))
              rintro _ _ ⟨A9, cap9, rfl, hway, hdl, hdd, rfl⟩
              have hop : wayF (leftP L s to r) (distC nodes (leftP L s to r) to) s to = otherP nodes L s to r := rfl
              rw [hop] at hway ⊢
              have hq : (otherP nodes L s to r).length ≤ 1073741824 := way_len _ _ _ _
              repeat' (first | apply (zs2 ?_) | (apply zg26; (refine zs56 ?_; intro _)) | apply (zs65 ?_) | apply (zs68 ?_) | apply (zs74 ?_) | fail)
              rename_i gL
              apply VQ_st (sl 31 1 (some ⟨gL, 0, none⟩) 2 2 ([⟨Ar, capr, r⟩, ⟨A9, cap9, otherP nodes L s to r⟩].flatMap rowF) :: ints Ar capr r :: ints A9 cap9 (otherP nodes L s to r) :: H)
              · intro w hw
                have h5 : St B w0 (blk gL (.cells #[.slice Ar r.length capr, .slice A9 (otherP nodes L s to r).length cap9] 31 (0, 0)) :: ints Ar capr r :: ints A9 cap9 (otherP nodes L s to r) :: H) w := by
                  revert w
                  (intro w hw; refine hw.perm ?_; focus repeat (first | with_reducible exact Perm.refl _ | (with_reducible apply perm_take; focus ((repeat (first | with_reducible exact rem_here | with_reducible apply rem_there)); done)) | with_reducible apply Perm.dropK))
                exact h5.blk_sl (cs := [Value.slice Ar r.length capr, .slice A9 (otherP nodes L s to r).length cap9]) (len := 2) (size := 1) rfl (by omega)
              apply VQ_ret1; exact rfl; exact rfl
              exact ⟨gL, Ar, capr, A9, cap9, rfl, ⟨hr2, by omega, hq⟩, hway, rfl⟩
            · skip
              rw [if_neg h2] at hLL
              rw [hLL]
              repeat' (first | apply (zs1 ?_) | apply (zs2 ?_) | (apply zg4; refine zs9 ?_) | (apply zg7; (refine zs15 ?_ ?_ <;> intro _ <;> try (exfalso; omega))) | (apply zg8; (refine zs16 ?_ ?_ <;> intro _ <;> try (exfalso; omega))) | (apply zg14; refine zs31 ?_) | apply (zs65 ?_) | apply (zs68 ?_) | apply (zs69 ?_) | apply (zs70 ?_) | (apply zg27; refine zs72 ?_) | apply (zs75 ?_) | apply (zs76 ?_) | apply (zs80 ?_) | apply (zs81 ?_) | fail)
              refine VL_capA (e := 3) (size := 1) (k := r.length) (cap := capr) (A := Ar) (xs := r.flatMap numF) (by (focus repeat (first | with_reducible exact List.mem_cons_self | with_reducible apply List.mem_cons_of_mem | assumption))) fun hcapr => ?_
              apply VL_slice_lh T (n' := (midP r).length); exact rfl; exact rfl; exact rfl; exact rfl; exact rfl; omega; omega
              rw [Int.toNat_one]
              repeat' (first | apply (zs1 ?_) | (apply zg22; refine zs50 ?_) | (apply zg24; (refine zs54 ?_; intro _)) | apply (zs65 ?_) | apply (zs68 ?_) | apply (zs69 ?_) | apply (zs70 ?_) | fail)
              rename_i gi
              have hmid : ∀ {HH : List HP}, Rd B w0 HH Ar (r.flatMap numF) → Rd B w0 HH (subA Ar 1 capr 1) ((midP r).flatMap numF) := fun h => Rd.sub (f := numF) (q := 1) (o := 1) (k := r.length - 2) (fun _ => rfl) h hcapr
              apply VL_call _ en55
              (repeat (first | exact args_nil | (apply args_cons; exact rfl)))
              exact rfl
              exact fun _ hw => (cloneArcs_spec LL (by omega) (.sl (by (focus repeat (first | with_reducible exact List.mem_cons_self | with_reducible apply List.mem_cons_of_mem | assumption)))) (hw))
              rintro _ _ ⟨A2, cap2, rfl, rfl⟩
              repeat' (first | (apply zg29; (apply VL_makeFunc; (repeat (first | exact args_nil | (apply args_cons; exact rfl))) ; exact rfl)) | fail)
              apply VL_call _ en54
              (repeat (first | exact args_nil | (apply args_cons; exact rfl)))
              exact rfl
              exact fun _ hw => (deleteFuncArcs (fun a => decide (a.1 ∈ midP r) || decide (a.2.1 ∈ midP r)) LL 56 [.pointer (some ⟨gi, 0, none⟩)] en56 (by omega) (fun a _ X w hw => pair1_spec gi (midP r) a (by omega) (List.mem_append_right _ (by (focus repeat (first | with_reducible exact List.mem_cons_self | with_reducible apply List.mem_cons_of_mem | assumption)))) (hmid (.sl (List.mem_append_right _ (by (focus repeat (first | with_reducible exact List.mem_cons_self | with_reducible apply List.mem_cons_of_mem | assumption)))))) hw) (hw))
              rintro _ _ ⟨rfl, rfl⟩
              rw [← hlp]
              repeat' (first | apply (zs1 ?_) | apply (zs2 ?_) | (apply zg2; refine zs6 ?_) | (apply zg3; refine zs7 ?_) | apply (zs65 ?_) | apply (zs68 ?_) | apply (zs69 ?_) | apply (zs70 ?_) | fail)
              apply VL_call _ en22
              (repeat (first | exact args_nil | (apply args_cons; exact rfl)))
              exact rfl
              exact fun _ hw => (hfirst (.sl (by (focus repeat (first | with_reducible exact List.mem_cons_self | with_reducible apply List.mem_cons_of_mem | assumption)))) (hw))
              rintro _ _ ⟨A9, cap9, rfl, hway, hdl, hdd, rfl⟩
              have hop : wayF (leftP L s to r) (distC nodes (leftP L s to r) to) s to = otherP nodes L s to r := rfl
              rw [hop] at hway ⊢
              have hq : (otherP nodes L s to r).length ≤ 1073741824 := way_len _ _ _ _
              repeat' (first | apply (zs2 ?_) | (apply zg26; (refine zs56 ?_; intro _)) | apply (zs65 ?_) | apply (zs68 ?_) | apply (zs74 ?_) | fail)
              rename_i gL
              apply VQ_st (sl 31 1 (some ⟨gL, 0, none⟩) 2 2 ([⟨Ar, capr, r⟩, ⟨A9, cap9, otherP nodes L s to r⟩].flatMap rowF) :: ints Ar capr r :: ints A9 cap9 (otherP nodes L s to r) :: H)
              · intro w hw
                have h5 : St B w0 (blk gL (.cells #[.slice Ar r.length capr, .slice A9 (otherP nodes L s to r).length cap9] 31 (0, 0)) :: ints Ar capr r :: ints A9 cap9 (otherP nodes L s to r) :: H) w := by
                  revert w
                  (intro w hw; refine hw.perm ?_; focus repeat (first | with_reducible exact Perm.refl _ | (with_reducible apply perm_take; focus ((repeat (first | with_reducible exact rem_here | with_reducible apply rem_there)); done)) | with_reducible apply Perm.dropK))
                exact h5.blk_sl (cs := [Value.slice Ar r.length capr, .slice A9 (otherP nodes L s to r).length cap9]) (len := 2) (size := 1) rfl (by omega)
              apply VQ_ret1; exact rfl; exact rfl
              rw [← hLL]
              exact ⟨gL, Ar, capr, A9, cap9, rfl, ⟨hr2, by omega, hq⟩, hway, rfl⟩
          · rw [if_neg hat] at hrun2
            cases hsc : pairScan fuel nodes L to total r spent at_ L (-1, 0) with
            | none => rw [hsc] at hrun2; cases hrun2
            | some bp =>
              rw [hsc] at hrun2
              obtain ⟨bf, pf⟩ := bp
              dsimp only at hrun2
              repeat' (first | apply (zs1 ?_) | apply (zs2 ?_) | (apply zg4; refine zs9 ?_) | (apply zg8; (refine zs16 ?_ ?_ <;> intro _ <;> try (exfalso; omega))) | apply (zs65 ?_) | apply (zs68 ?_) | apply (zs69 ?_) | apply (zs70 ?_) | (apply zg27; refine zs71 ?_) | apply (zs73 ?_) | apply (zs76 ?_) | fail)
              refine VC_loop1 (fun (z : Iz) => [(45, .int .i64 z.j), (44, .int .i64 L.length), (43, .slice A L.length cap), (15, .int .i64 z.price), (14, .int .i64 z.best), (13, .int .i64 at_), (12, .int .i64 spent), (11, .slice Ar r.length capr), (8, .int .i64 total), (7, .slice A L.length cap), (3, .pointer (some ⟨g, 0, none⟩)), (1, .int .i64 s), (2, .int .i64 to)]) (fun _ => ints Ar capr r :: arcsP A cap L :: netB g n :: H) (fun z => z.j ≤ L.length ∧ pairScan fuel nodes L to total r spent at_ (L.drop z.j) (z.best, z.price) = some (bf, pf) ∧ (z.best = -1 ∨ (0 ≤ z.best ∧ z.best < nodes)) ∧ (0 ≤ z.price ∧ z.price ≤ 1000000)) (fun z => L.length - z.j) ⟨0, -1, 0⟩ ⟨Nat.zero_le _, hsc, .inl rfl, by simp only; omega⟩ ?_ (fun w hw => hw) ?_
              · (repeat (first | exact sub_nil _ | (apply sub_cons; first | exact rfl | exact congrArg (fun z : Int => some (Value.int .i64 z)) (by omega))))
              rintro ⟨j, best, price⟩ ⟨hj, hsc2, hbest, ⟨hpr0, hpr1⟩⟩ K2 hK2
              simp only at hj hsc2 hbest hpr0 hpr1 ⊢
              by_cases hlt : j < L.length
              · obtain ⟨a, ha⟩ : ∃ a, L[j]? = some a := ⟨_, List.getElem?_eq_getElem hlt⟩
                obtain ⟨⟨a1, a2⟩, ⟨a3, a4⟩, ⟨a5, a6⟩⟩ := hLo a (List.mem_of_getElem? ha)
                have hdrop : L.drop j = a :: L.drop (j + 1) := by
                  obtain ⟨hk3, rfl⟩ := List.getElem?_eq_some_iff.1 ha
                  exact List.drop_eq_getElem_cons hk3
                rw [hdrop] at hsc2
                unfold pairScan pairStep at hsc2
                have hcon := fun {X : HP} {w : World} (hw : St B w0 (X :: ints Ar capr r :: arcsP A cap L :: netB g n :: H) w) => contains_route r a.2.1 (by omega) (cap := capr) (.sl (List.mem_cons_of_mem _ List.mem_cons_self)) hw
                by_cases h1 : a.1 = at_
                rotate_left
                · rw [if_pos (.inl h1)] at hsc2
                  repeat' (first | apply (zs1 ?_) | (apply zg1; refine zs3 ?_) | (apply zg2; refine zs6 ?_) | (apply zg3; first | refine zs7 ?_ | refine zs61 ?_) | (apply zg5; refine zs10 ?_) | (apply zg6; refine zs11 ?_) | (apply zg8; (refine zs16 ?_ ?_ <;> intro _ <;> try (exfalso; omega))) | (apply (zs17 ?_ ?_) <;> intro _ <;> try (exfalso; omega)) | (apply zg13; refine zs30 ?_) | (apply zg22; refine zs51 ?_) | (apply zg24; (refine zs54 ?_; intro _)) | apply (zs65 ?_) | apply (zs68 ?_) | apply (zs69 ?_) | apply (zs70 ?_) | (apply zg27; refine zs71 ?_) | apply (zs73 ?_) | apply (zs75 ?_) | apply (zs76 ?_) | apply (zs80 ?_) | apply (zs81 ?_) | fail)
                  apply hK2 ⟨j + 1, best, price⟩
                  · exact ⟨by simp only; omega, hsc2, hbest, hpr0, hpr1⟩
                  · simp only; omega
                  · (repeat (first | exact sub_nil _ | (apply sub_cons; first | exact rfl | exact congrArg (fun z : Int => some (Value.int .i64 z)) (by omega))))
                  · exact fun w hw => hw.tail
                by_cases h2 : a.2.1 ∈ r
                · rw [if_pos (.inr (.inl h2))] at hsc2
                  rw [decide_eq_true h2] at hcon
                  repeat' (first | ((first | apply VL_callt en49 | apply VL_callq en49); (repeat (first | exact args_nil | (apply args_cons; exact rfl))); exact rfl; exact fun _ hw => (hcon hw)) | apply (zs1 ?_) | (apply zg1; first | refine zs3 ?_ | refine zs4 ?_) | (apply zg2; refine zs6 ?_) | (apply zg3; first | refine zs7 ?_ | refine zs61 ?_) | (apply zg5; refine zs10 ?_) | (apply zg6; first | refine zs11 ?_ | refine zs12 ?_) | (apply zg8; (refine zs16 ?_ ?_ <;> intro _ <;> try (exfalso; omega))) | (apply (zs17 ?_ ?_) <;> intro _ <;> try (exfalso; omega)) | (apply zg13; refine zs30 ?_) | (apply zg22; refine zs51 ?_) | (apply zg24; (refine zs54 ?_; intro _)) | apply (zs65 ?_) | apply (zs68 ?_) | apply (zs69 ?_) | apply (zs70 ?_) | (apply zg27; refine zs71 ?_) | apply (zs73 ?_) | apply (zs75 ?_) | apply (zs76 ?_) | apply (zs80 ?_) | apply (zs81 ?_) | fail)
                  apply hK2 ⟨j + 1, best, price⟩
                  · exact ⟨by simp only; omega, hsc2, hbest, hpr0, hpr1⟩
                  · simp only; omega
                  · (repeat (first | exact sub_nil _ | (apply sub_cons; first | exact rfl | exact congrArg (fun z : Int => some (Value.int .i64 z)) (by omega))))
                  · exact fun w hw => hw.tail
                rw [decide_eq_false h2] at hcon
                by_cases h3 : 0 ≤ best ∧ best < a.2.1
                · rw [if_pos (.inr (.inr h3))] at hsc2
                  repeat' (first | ((first | apply VL_callt en49 | apply VL_callq en49); (repeat (first | exact args_nil | (apply args_cons; exact rfl))); exact rfl; exact fun _ hw => (hcon hw)) | apply (zs1 ?_) | (apply zg1; refine zs4 ?_) | (apply zg2; refine zs6 ?_) | (apply zg3; first | refine zs7 ?_ | refine zs61 ?_) | (apply zg5; refine zs10 ?_) | (apply zg6; first | refine zs11 ?_ | refine zs12 ?_) | (apply zg8; (refine zs16 ?_ ?_ <;> intro _ <;> try (exfalso; omega))) | (apply (zs17 ?_ ?_) <;> intro _ <;> try (exfalso; omega)) | (apply (zs19 ?_ ?_) <;> intro _ <;> try (exfalso; omega)) | (apply (zs20 ?_ ?_) <;> intro _ <;> try (exfalso; omega)) | (apply zg13; refine zs30 ?_) | (apply zg22; refine zs51 ?_) | (apply zg24; (refine zs54 ?_; intro _)) | apply (zs65 ?_) | apply (zs68 ?_) | apply (zs69 ?_) | apply (zs70 ?_) | (apply zg27; refine zs71 ?_) | apply (zs73 ?_) | apply (zs75 ?_) | apply (zs76 ?_) | apply (zs80 ?_) | apply (zs81 ?_) | fail)
                  apply hK2 ⟨j + 1, best, price⟩
                  · exact ⟨by simp only; omega, hsc2, hbest, hpr0, hpr1⟩
                  · simp only; omega
                  · (repeat (first | exact sub_nil _ | (apply sub_cons; first | exact rfl | exact congrArg (fun z : Int => some (Value.int .i64 z)) (by omega))))
                  · exact fun w hw => hw.tail
                rw [if_neg (by rintro (h | h | h); exact h h1; exact h2 h; exact h3 h)] at hsc2
                cases hrs : restF fuel nodes L (r ++ [a.2.1]) to with
                | none => rw [hrs] at hsc2; cases hsc2
                | some s2 =>
                  rw [hrs] at hsc2
                  obtain ⟨sum, fine⟩ := s2
                  dsimp only at hsc2
                  have hlen1 : (r ++ [a.2.1]).length = r.length + 1 := by simp
                  have hfl1 : (r ++ [a.2.1]).flatMap numF = r.flatMap numF ++ #[Value.int .i64 a.2.1].toList := by simp [List.flatMap_append, numF]
                  have hrest := fun {AP : Option Addr} {capP : Nat} {H : List HP} {w : World} (hr : Rd B w0 H A (L.flatMap lkF)) (hp : Rd B w0 H AP ((r ++ [a.2.1]).flatMap numF)) (hcap : (r ++ [a.2.1]).length ≤ capP) (hw : St B w0 H w) => rest_spec nodes L (r ++ [a.2.1]) to fuel (sum, fine) (capL := cap) (by omega) (by omega) hLo ⟨by omega, by omega⟩ (fun v hv => by
                    rcases List.mem_append.1 hv with hv | hv
                    · exact hmem v hv
                    · obtain rfl := List.mem_singleton.1 hv
                      exact ⟨a3, a4⟩) ht hfu hrs hr hp hcap hw
                  rw [hlen1, hfl1, ← hnn] at hrest
                  dsimp only at hrest
                  repeat' (first | ((first | apply VL_callt en49 | apply VL_callq en49); (repeat (first | exact args_nil | (apply args_cons; exact rfl))); exact rfl; exact fun _ hw => (hcon hw)) | apply (zs1 ?_) | (apply zg1; first | refine zs3 ?_ | refine zs4 ?_) | (apply zg2; refine zs6 ?_) | (apply zg3; first | refine zs7 ?_ | refine zs61 ?_) | (apply zg5; refine zs10 ?_) | (apply zg6; first | refine zs11 ?_ | refine zs12 ?_) | (apply zg8; (refine zs16 ?_ ?_ <;> intro _ <;> try (exfalso; omega))) | (apply (zs17 ?_ ?_) <;> intro _ <;> try (exfalso; omega)) | (apply (zs19 ?_ ?_) <;> intro _ <;> try (exfalso; omega)) | (apply (zs20 ?_ ?_) <;> intro _ <;> try (exfalso; omega)) | (apply zg22; refine zs51 ?_) | (apply zg24; (refine zs54 ?_; intro _)) | apply (zs65 ?_) | apply (zs68 ?_) | apply (zs69 ?_) | apply (zs70 ?_) | (apply zg27; first | refine zs71 ?_ | refine zs72 ?_) | apply (zs73 ?_) | apply (zs76 ?_) | fail)
                  all_goals (
                    apply VC_tree (.n1 0 (.n1 1 (.n1 2 (.n1 3 (.n1 5 (.n1 6 (.n1 9 (.n2 4 (.n1 7 (.n1 8 (.n1 10 (.n1 11 (.n1 12 (.n1 13 (.n1 14 (.n1 15 .done)))))))) 7 (.n1 4 (.n1 8 (.n1 10 (.n1 11 (.n1 12 (.n1 13 (.n1 14 (.n1 15 .done)))))))))))))))) [] [true, true, true, true]
                    kernel_rfl
                    kernel_rfl
                    (repeat (first | with_reducible exact split_nil | with_reducible apply split_t | with_reducible apply split_f))
                    exact rfl
                    repeat' (first | apply (zs1 ?_) | (apply zg2; refine zs6 ?_) | (apply zg3; refine zs7 ?_) | (apply zg26; (refine zs56 ?_; intro _)) | apply (zs65 ?_) | (apply VL_nilh; (repeat (first | with_reducible exact app_nil | with_reducible apply app_cons))) | apply (zs87 ?_) | (apply VQ_heldq; (repeat (first | with_reducible exact pull_nil | (with_reducible apply pull_cons; (repeat (first | with_reducible exact rem_here | with_reducible apply rem_there)))))) | apply (zs90 ?_) | apply (zs91 ?_ ?_) | (apply VQ_treeq; (repeat (first | with_reducible exact pull_nil | (with_reducible apply pull_cons; (repeat (first | with_reducible exact rem_here | with_reducible apply rem_there)))))) | fail)
                    all_goals (
                      apply VL_call _ en52
                      (repeat (first | exact args_nil | (apply args_cons; exact rfl)))
                      exact rfl
                      exact fun _ hw => (cloneRoute_spec r (by omega) (.sl (by (focus repeat (first | with_reducible exact List.mem_cons_self | with_reducible apply List.mem_cons_of_mem | assumption)))) (hw))
                      rintro _ _ ⟨A5, cap5, rfl, rfl⟩
                      repeat' (first | (apply zg21; (refine zs49 ?_; intro _ _)) | (apply zg26; (refine zs56 ?_; intro _)) | apply (zs65 ?_) | (apply VL_nilh; (repeat (first | with_reducible exact app_nil | with_reducible apply app_cons))) | apply (zs87 ?_) | (apply VQ_heldq; (repeat (first | with_reducible exact pull_nil | (with_reducible apply pull_cons; (repeat (first | with_reducible exact rem_here | with_reducible apply rem_there)))))) | apply (zs90 ?_) | (apply VQ_treeq; (repeat (first | with_reducible exact pull_nil | (with_reducible apply pull_cons; (repeat (first | with_reducible exact rem_here | with_reducible apply rem_there)))))) | fail)
                      rename_i A6 cap6
                      refine VL_capA (e := 3) (size := 1) (k := r.length + 1) (cap := cap6) (A := A6) (xs := r.flatMap numF ++ #[Value.int .i64 a.2.1].toList) (by (focus repeat (first | with_reducible exact List.mem_cons_self | with_reducible apply List.mem_cons_of_mem | assumption))) fun hcap => ?_
                      apply VL_call _ en51
                      (repeat (first | exact args_nil | (apply args_cons; exact rfl)))
                      exact rfl
                      exact fun _ hw => (hrest (.sl (by (focus repeat (first | with_reducible exact List.mem_cons_self | with_reducible apply List.mem_cons_of_mem | assumption)))) (.sl (by (focus repeat (first | with_reducible exact List.mem_cons_self | with_reducible apply List.mem_cons_of_mem | assumption)))) hcap (hw))
                      rintro _ _ ⟨rfl, ⟨q1, q2⟩, rfl⟩
                      by_cases hgo : fine = true ∧ spent + a.2.2 + sum = total
                      · rw [if_pos hgo] at hsc2
                        obtain ⟨rfl, heq⟩ := hgo
                        repeat' (first | apply (zs1 ?_) | apply (zs2 ?_) | (apply zg1; refine zs4 ?_) | (apply zg2; refine zs6 ?_) | (apply zg3; refine zs7 ?_) | (apply zg6; refine zs11 ?_) | apply (zs13 ?_) | (apply zg7; (refine zs15 ?_ ?_ <;> intro _ <;> try (exfalso; omega))) | (apply zg13; refine zs30 ?_) | apply (zs65 ?_) | apply (zs66 ?_) | (apply VL_nilh; (repeat (first | with_reducible exact app_nil | with_reducible apply app_cons))) | apply (zs68 ?_) | apply (zs69 ?_) | apply (zs70 ?_) | (apply zg27; refine zs71 ?_) | apply (zs79 ?_) | (apply zg28; refine zs83 ?_) | (apply VQ_heldq; (repeat (first | with_reducible exact pull_nil | (with_reducible apply pull_cons; (repeat (first | with_reducible exact rem_here | with_reducible apply rem_there)))))) | (apply VT_done; (repeat (first | with_reducible exact app_nil | with_reducible apply app_cons))) | apply (zs90 ?_) | (apply VQ_treeq; (repeat (first | with_reducible exact pull_nil | (with_reducible apply pull_cons; (repeat (first | with_reducible exact rem_here | with_reducible apply rem_there)))))) | apply (zs93 ?_) | apply (zs94 ?_) | fail)
                        apply hK2 ⟨j + 1, a.2.1, a.2.2⟩
                        · exact ⟨by simp only; omega, hsc2, .inr ⟨a3, a4⟩, by simp only; omega⟩
                        · simp only; omega
                        · (repeat (first | exact sub_nil _ | (apply sub_cons; first | exact rfl | exact congrArg (fun z : Int => some (Value.int .i64 z)) (by omega))))
                        · (intro w hw; refine hw.perm ?_; focus repeat (first | with_reducible exact Perm.refl _ | (with_reducible apply perm_take; focus ((repeat (first | with_reducible exact rem_here | with_reducible apply rem_there)); done)) | with_reducible apply Perm.dropK))
                      · rw [if_neg hgo] at hsc2
                        cases fine with
                        | false =>
                          repeat' (first | apply (zs1 ?_) | apply (zs2 ?_) | (apply zg1; refine zs3 ?_) | (apply zg6; refine zs12 ?_) | apply (zs13 ?_) | (apply zg13; refine zs30 ?_) | apply (zs65 ?_) | (apply VL_nilh; (repeat (first | with_reducible exact app_nil | with_reducible apply app_cons))) | apply (zs68 ?_) | apply (zs69 ?_) | apply (zs70 ?_) | (apply zg27; refine zs72 ?_) | apply (zs76 ?_) | apply (zs79 ?_) | (apply VQ_heldq; (repeat (first | with_reducible exact pull_nil | (with_reducible apply pull_cons; (repeat (first | with_reducible exact rem_here | with_reducible apply rem_there)))))) | (apply VT_done; (repeat (first | with_reducible exact app_nil | with_reducible apply app_cons))) | apply (zs90 ?_) | (apply VQ_treeq; (repeat (first | with_reducible exact pull_nil | (with_reducible apply pull_cons; (repeat (first | with_reducible exact rem_here | with_reducible apply rem_there)))))) | apply (zs93 ?_) | apply (zs94 ?_) | fail)
                          apply hK2 ⟨j + 1, best, price⟩
                          · exact ⟨by simp only; omega, hsc2, hbest, hpr0, hpr1⟩
                          · simp only; omega
                          · (repeat (first | exact sub_nil _ | (apply sub_cons; first | exact rfl | exact congrArg (fun z : Int => some (Value.int .i64 z)) (by omega))))
                          · (intro w hw; refine hw.perm ?_; focus repeat (first | with_reducible exact Perm.refl _ | (with_reducible apply perm_take; focus ((repeat (first | with_reducible exact rem_here | with_reducible apply rem_there)); done)) | with_reducible apply Perm.dropK))
                        | true =>
                          have hne : ¬ spent + a.2.2 + sum = total := fun h => hgo ⟨rfl, h⟩
                          repeat' (first | apply (zs1 ?_) | apply (zs2 ?_) | (apply zg1; refine zs4 ?_) | (apply zg2; refine zs6 ?_) | (apply zg3; refine zs7 ?_) | (apply zg6; refine zs11 ?_) | apply (zs13 ?_) | (apply zg7; (refine zs15 ?_ ?_ <;> intro _ <;> try (exfalso; omega))) | (apply zg13; refine zs30 ?_) | apply (zs65 ?_) | (apply VL_nilh; (repeat (first | with_reducible exact app_nil | with_reducible apply app_cons))) | apply (zs68 ?_) | apply (zs69 ?_) | apply (zs70 ?_) | (apply zg27; refine zs72 ?_) | apply (zs76 ?_) | apply (zs79 ?_) | (apply VQ_heldq; (repeat (first | with_reducible exact pull_nil | (with_reducible apply pull_cons; (repeat (first | with_reducible exact rem_here | with_reducible apply rem_there)))))) | (apply VT_done; (repeat (first | with_reducible exact app_nil | with_reducible apply app_cons))) | apply (zs90 ?_) | (apply VQ_treeq; (repeat (first | with_reducible exact pull_nil | (with_reducible apply pull_cons; (repeat (first | with_reducible exact rem_here | with_reducible apply rem_there)))))) | apply (zs93 ?_) | apply (zs94 ?_) | fail)
                          apply hK2 ⟨j + 1, best, price⟩
                          · exact ⟨by simp only; omega, hsc2, hbest, hpr0, hpr1⟩
                          · simp only; omega
                          · (repeat (first | exact sub_nil _ | (apply sub_cons; first | exact rfl | exact congrArg (fun z : Int => some (Value.int .i64 z)) (by omega))))
                          · (intro w hw; refine hw.perm ?_; focus repeat (first | with_reducible exact Perm.refl _ | (with_reducible apply perm_take; focus ((repeat (first | with_reducible exact rem_here | with_reducible apply rem_there)); done)) | with_reducible apply Perm.dropK))))
              · obtain rfl : j = L.length := by omega
                rw [List.drop_length] at hsc2
                obtain ⟨rfl, rfl⟩ := Prod.mk.inj (Option.some.inj hsc2)
                clear hK2
                by_cases hneg : best < 0
                · rw [if_pos hneg] at hrun2; cases hrun2
                rw [if_neg hneg] at hrun2
                repeat' (first | apply (zs1 ?_) | apply (zs2 ?_) | (apply (zs17 ?_ ?_) <;> intro _ <;> try (exfalso; omega)) | (apply zg13; refine zs30 ?_) | (apply zg21; (refine zs49 ?_; intro _ _)) | (apply zg26; (refine zs56 ?_; intro _)) | apply (zs65 ?_) | apply (zs68 ?_) | apply (zs69 ?_) | apply (zs70 ?_) | (apply zg27; refine zs72 ?_) | apply (zs75 ?_) | apply (zs79 ?_) | apply (zs80 ?_) | apply (zs81 ?_) | fail)
                rename_i A3 cap3
                apply hK ⟨k, r ++ [best], A3, cap3, spent + price, best⟩
                · refine ⟨hrun2, ?_, fun v hv => ?_, ?_, fun h => ?_⟩
                  · simp only [List.length_append, List.length_singleton]; omega
                  · rcases List.mem_append.1 hv with hv | hv
                    · exact hmem v hv
                    · obtain rfl := List.mem_singleton.1 hv
                      omega
                  · simp only [List.length_append, List.length_singleton]; omega
                  · simp only [List.length_append, List.length_singleton] at h; omega
                · simp only; omega
                · dsimp only
                  rw [List.length_append, List.length_singleton]; (repeat (first | exact sub_nil _ | (apply sub_cons; first | exact rfl | exact congrArg (fun z : Int => some (Value.int .i64 z)) (by omega))))
                · dsimp only
                  rw [← ints_one]
                  (intro w hw; refine hw.perm ?_; focus repeat (first | with_reducible exact Perm.refl _ | (with_reducible apply perm_take; focus ((repeat (first | with_reducible exact rem_here | with_reducible apply rem_there)); done)) | with_reducible apply Perm.dropK))
end Go.Proofs.YtleldppdflgmgaaGreat
