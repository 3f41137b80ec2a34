/- An engine for walks, part 6: regions that draw their order and in which two writing operations may come up at once: a tree of orders. -/
import Derived.Test.YtfobgjhjigkigaaE5
namespace Go.Eng
open Go.RowKit

inductive OT where
  | done
  | n1 (i : Nat) (t : OT)
  | n2 (i : Nat) (t : OT) (j : Nat) (u : OT)

section
variable {P : Program} {n B : Nat} {w0 : World} {Q : Exit → Act → World → Prop} {env : Env} {H : List HP} {ops : Array Oper}

/-- A tree of orders: at each node the operations that may come up. -/
def wpTree (P : Program) (ops : Array Oper) (l : List Oper) (Q : Exit → Act → World → Prop) (S : World → Prop) : OT → Act → World → Prop
  | .done, a, w => Q .normal a w
  | .n1 i t, a, w => wpHeld P ops (fun e a w => match e with | .normal => wpTree P ops l Q S t a w | _ => False) S [nthO l i] a w
  | .n2 i t j u, a, w => wpHeld P ops (fun e a w => match e with | .normal => wpTree P ops l Q S t a w | _ => False) S [nthO l i] a w ∧ wpHeld P ops (fun e a w => match e with | .normal => wpTree P ops l Q S u a w | _ => False) S [nthO l j] a w

def isEff (ops : Array Oper) (i : Nat) : Bool := match ops[i]? with | some o => eff o | none => false

def treeB (ops : Array Oper) (last : List Nat) : OT → Array Bool → Nat → Bool
  | .done, listed, 0 => orderB ops last listed
  | .done, _, _ + 1 => false
  | .n1 i t, listed, k + 1 => !last.contains i && (match ops[i]? with
      | some o => if eff o then decide (Region.ready .any ops listed = [i]) else (Region.ready .any ops listed).contains i && Region.free .any ops listed i
      | none => false) && treeB ops last t (listed.setIfInBounds i true) k
  | .n2 i t j u, listed, k + 1 => !last.contains i && !last.contains j && isEff ops i && isEff ops j && ((Region.ready .any ops listed).all fun x => x == i || x == j) && !(Region.ready .any ops listed).isEmpty && treeB ops last t (listed.setIfInBounds i true) k && treeB ops last u (listed.setIfInBounds j true) k
  | .n1 _ _, _, 0 => false
  | .n2 _ _ _ _, _, 0 => false

theorem nthO_get {l : List Oper} (hl : ops = l.toArray) {i : Nat} {o : Oper} (ho : ops[i]? = some o) : nthO l i = o := by
  rw [nthO_eq]
  rw [hl] at ho
  simp only [List.getElem?_toArray] at ho
  simp [List.getD, ho]

theorem eff_node {S : World → Prop} {Q1 : Exit → Act → World → Prop} {last : List Nat} {i k : Nat} {o : Oper} {listed : Array Bool} {a : Act} {w : World} (ho : ops[i]? = some o) (he : eff o = true) (_hl : last.contains i = false)
    (hQ1 : ∀ e a w, e ≠ .normal → ¬ Q1 e a w) (hS : S w) (h : wpHeld P ops Q1 S [o] a w)
    (hk : ∀ a w, S w → Q1 .normal a w → wpAnyN P ops Q S last k (listed.setIfInBounds i true) a w) :
    wpOp P ops Q i (fun a' w' => (last.contains i = false → S w') ∧ wpAnyN P ops Q S last k (listed.setIfInBounds i true) a' w') a w := by
  unfold wpHeld at h
  rw [if_pos he] at h
  unfold wpOp
  simp only [ho]
  by_cases hw : Region.wanted o (yielded ops a.tmps) = true
  · rw [if_pos hw] at h ⊢
    refine .inl (Oper.wp_mono_noQ (fun c a w => hQ1 _ a w (by intro h; cases h)) (by rintro ⟨a, w, h⟩; exact hQ1 _ _ _ (by intro h; cases h) h) (Oper.wp_mono (fun a' w' h' => ?_) h))
    exact ⟨fun _ => h'.1, hk a' w' h'.1 h'.2⟩
  · rw [if_neg hw] at h ⊢
    exact ⟨fun _ => hS, hk _ w hS h⟩

theorem tree_sound {S : World → Prop} {last : List Nat} (hs : Region.noSelect ops = true) (hQ : ∀ c (a : Act) (w : World), ¬ Q (.panic c) a w) (hlo : ¬ LetsOut Q) (l : List Oper) (hl : ops = l.toArray) (hlast : lastB ops last = true) :
    ∀ (t : OT) (k : Nat) (listed : Array Bool) (a : Act) (w : World), Closed ops listed → treeB ops last t listed k = true → S w → wpTree P ops l (TailQ P ops Q (pickOps l last)) S t a w →
      wpAnyN P ops Q S last (k + last.length) listed a w
  | .done, 0, listed, a, w, _, hB, _, h => by
    have := tail_sound (S := S) l hl (lastB_spec hlast).1 hlo last listed a w (fun j hj => by simpa using hj) hB h
    rw [Nat.zero_add]
    exact this
  | .done, _ + 1, _, _, _, _, hB, _, _ => by cases hB
  | .n1 _ _, 0, _, _, _, _, hB, _, _ => by cases hB
  | .n2 _ _ _ _, 0, _, _, _, _, hB, _, _ => by cases hB
  | .n1 i t, k + 1, listed, a, w, hcl, hB, hS, h => by
    simp only [treeB, Bool.and_eq_true] at hB
    obtain ⟨⟨h0, h1⟩, h2⟩ := hB
    have hno : last.contains i = false := by simpa using h0
    cases ho : ops[i]? with
    | none => rw [ho] at h1; cases h1
    | some o =>
      rw [ho] at h1
      have hget := nthO_get hl ho
      unfold wpTree at h
      rw [hget] at h
      rw [Nat.add_right_comm]
      by_cases he : eff o = true
      · simp only [he, if_true, decide_eq_true_eq] at h1
        refine ⟨fun h0 => (by rw [h1] at h0; cases h0), fun j hj => ?_⟩
        have hj' := hj
        rw [h1] at hj
        obtain rfl : j = i := by simpa using hj
        exact eff_node ho he hno (fun e a w hne => by cases e <;> simp_all) hS h fun a w hS' h' => tree_sound hs hQ hlo l hl hlast t k _ a w (hcl.set hj') h2 hS' h'
      · simp only [he] at h1
        simp only [Bool.false_eq_true, if_false, Bool.and_eq_true] at h1
        unfold wpHeld at h
        rw [if_neg he] at h
        obtain ⟨v, hy, h3⟩ := h
        have hr : i ∈ Region.ready .any ops listed := by simpa using h1.1
        exact wpAnyN_first ho (Region.noSelect_spec hs) hQ ((lastB_spec hlast).2 i o ho (by simpa using he)) hno _ listed a w hcl (Region.free_spec ho h1.2) hr hy hS (tree_sound hs hQ hlo l hl hlast t k _ _ w (hcl.set hr) h2 hS h3)
  | .n2 i t j u, k + 1, listed, a, w, hcl, hB, hS, h => by
    simp only [treeB, Bool.and_eq_true] at hB
    obtain ⟨⟨⟨⟨⟨⟨⟨b1, b2⟩, b3⟩, b4⟩, b5⟩, b6⟩, b7⟩, b8⟩ := hB
    have hi : last.contains i = false := by simpa using b1
    have hj : last.contains j = false := by simpa using b2
    unfold wpTree at h
    rw [Nat.add_right_comm]
    refine ⟨fun h0 => (by rw [h0] at b6; cases b6), fun x hx => ?_⟩
    have h5 := List.all_eq_true.1 b5 x hx
    simp only [Bool.or_eq_true, beq_iff_eq] at h5
    rcases h5 with rfl | rfl
    · unfold isEff at b3
      cases ho : ops[x]? with
      | none => rw [ho] at b3; cases b3
      | some o =>
        rw [ho] at b3
        have hg := h.1
        rw [nthO_get hl ho] at hg
        exact eff_node ho b3 hi (fun e a w hne => by cases e <;> simp_all) hS hg fun a w hS' h' => tree_sound hs hQ hlo l hl hlast t k _ a w (hcl.set hx) b7 hS' h'
    · unfold isEff at b4
      cases ho : ops[x]? with
      | none => rw [ho] at b4; cases b4
      | some o =>
        rw [ho] at b4
        have hg := h.2
        rw [nthO_get hl ho] at hg
        exact eff_node ho b4 hj (fun e a w hne => by cases e <;> simp_all) hS hg fun a w hS' h' => tree_sound hs hQ hlo l hl hlast u k _ a w (hcl.set hx) b8 hS' h'

structure VT (P : Program) (n B : Nat) (w0 : World) (ops : Array Oper) (l : List Oper) (Q : Exit → Act → World → Prop) (t : OT) (env : Env) (H F : List HP) : Prop where
  run : ∀ a, Fits n a env → ∀ w, St B w0 (H ++ F) w → wpTree P ops l Q (St B w0 H) t a w

/-- What is asked behind a node. -/
def TreeQ (P : Program) (B : Nat) (w0 : World) (ops : Array Oper) (l : List Oper) (Q : Exit → Act → World → Prop) (Hc : List HP) (t : OT) : Exit → Act → World → Prop
  | .normal, a, w => wpTree P ops l Q (St B w0 Hc) t a w
  | _, _, _ => False

theorem treeQ_eq {l : List Oper} {t : OT} : TreeQ P B w0 ops l Q H t = fun e a w => match e with | .normal => wpTree P ops l Q (St B w0 H) t a w | _ => False := by
  funext e a w
  cases e <;> rfl

theorem VT_done {l : List Oper} {F HF : List HP} (happ : App H F HF) (h : VQ n B w0 Q .normal env HF) : VT P n B w0 ops l Q .done env H F :=
  ⟨fun a ha w hw => by rw [← app_eq happ] at hw; exact h.run a w ha hw⟩
theorem VT_n1 {l : List Oper} {F : List HP} {i : Nat} {t : OT} {o : Oper} (ho : nthO l i = o) (h : VL P (some (some F)) n B w0 ops (TreeQ P B w0 ops l Q H t) [o] env H) : VT P n B w0 ops l Q (.n1 i t) env H F := by
  refine ⟨fun a ha w hw => ?_⟩
  have h1 : wpHeld P ops (TreeQ P B w0 ops l Q H t) (St B w0 H) [o] a w := h.run a ha w hw
  unfold wpTree
  rw [ho, ← treeQ_eq]
  exact h1
theorem VT_n2 {l : List Oper} {F : List HP} {i j : Nat} {t u : OT} {o o' : Oper} (ho : nthO l i = o) (ho' : nthO l j = o') (h : VL P (some (some F)) n B w0 ops (TreeQ P B w0 ops l Q H t) [o] env H)
    (h' : VL P (some (some F)) n B w0 ops (TreeQ P B w0 ops l Q H u) [o'] env H) : VT P n B w0 ops l Q (.n2 i t j u) env H F := by
  refine ⟨fun a ha w hw => ?_⟩
  have h1 : wpHeld P ops (TreeQ P B w0 ops l Q H t) (St B w0 H) [o] a w := h.run a ha w hw
  have h2 : wpHeld P ops (TreeQ P B w0 ops l Q H u) (St B w0 H) [o'] a w := h'.run a ha w hw
  unfold wpTree
  rw [ho, ho', ← treeQ_eq, ← treeQ_eq]
  exact ⟨h1, h2⟩
theorem VQ_treeq {l : List Oper} {F H' Hc : List HP} {t : OT} (hp : Pull Hc H' F) (h : VT P n B w0 ops l Q t env Hc F) : VQ n B w0 (TreeQ P B w0 ops l Q Hc t) .normal env H' :=
  ⟨fun a w ha hw => h.run a ha w (hw.perm hp)⟩

/-- A region that draws its order: a tree of orders, and the last operations. -/
theorem VC_tree {id : Nat} {l : List Oper} (t : OT) (last : List Nat) (mask : List Bool) {Hc F : List HP} (hm : P.follows .mixedOrders = true)
    (hB : (Region.noSelect l.toArray && decide (last.length ≤ l.toArray.size) && lastB l.toArray last && treeB l.toArray last t (Array.replicate l.toArray.size false) (l.toArray.size - last.length)) = true)
    (hsp : Split mask H Hc F) {l2 : List Oper} (hl2 : pickOps l last = l2) (h : VT P n B w0 l.toArray l (TailQ P l.toArray (Only Q) l2) t env Hc F) : VC P n B w0 (.region id l.toArray true) Q env H := by
  simp only [Bool.and_eq_true, decide_eq_true_eq] at hB
  obtain ⟨⟨⟨h1, h2⟩, h3⟩, h5⟩ := hB
  refine ⟨fun a w ha hw => wp_mono (Q := Only Q) ?_ fun e a w h => by cases e <;> first | exact h | cases h⟩
  have hst : St B w0 (Hc ++ F) w.drew := (hw.perm (split_perm hsp)).drew
  have hr := h.run a ha w.drew hst
  rw [← hl2] at hr
  have := tree_sound (S := St B w0 Hc) h1 (fun c a w h => h) (by rintro ⟨_, _, h⟩; exact h) l rfl h3 t _ _ a w.drew (closed_none _ _) h5 hst.prefix_ hr
  rw [Nat.sub_add_cancel h2] at this
  exact wp_region_any hm (wpAny_of_N _ _ _ _ this)

/-- A cut: whatever way x goes, y begins with the slots E z and the pieces HH z. -/
theorem VC_cutQ {α : Type} (E : α → Env) (HH : α → List HP) {x y : Code} (h1 : ∀ K : Act → World → Prop, (∀ z env' H', (∀ t v, get (E z) t = some v → get env' t = some v) → (∀ w, St B w0 H' w → St B w0 (HH z) w) → VQ n B w0 (Exit.then K Q) .normal env' H') → VC P n B w0 x (Exit.then K Q) env H)
    (h2 : ∀ z, VC P n B w0 y Q (E z) (HH z)) : VC P n B w0 x (Exit.then (y.wp P Q) Q) env H := by
  have h := h1 (fun a w => ∃ z, Fits n a (E z) ∧ St B w0 (HH z) w) (fun z env' H' he hH => ⟨fun a w ha hw => ⟨z, ha.sub he, hH w hw⟩⟩)
  refine ⟨fun a w ha hw => wp_mono (h.run a w ha hw) ?_⟩
  intro e a w hq
  cases e with
  | normal => obtain ⟨z, h3, h4⟩ := hq; exact (h2 z).run a w h3 h4
  | exit id => exact hq
  | goto l => exact hq
  | ret => exact hq
  | panic ch => exact hq
  | outgrown => exact hq

/-- A call that needs the pieces L, wherever they lie in the list. -/
theorem VL_callP {d f : Nat} {args : List Operand} {tys : Array TypeId} {ty : TypeId} {pos : String} {after : Array Edge} {vs : List Value} {rest : List Oper} (L : List HP) {M LM : List HP} (Φ : Value → List HP → Prop)
    (hc : ∀ xs w, (callFunc f xs).run P w = .ok (.enter f xs) w) (hargs : Args env args vs) (hp : Pull L H M) (happ : App L M LM) (hn : Nat.ble (d + 1) n = true)
    (hcall : ∀ w, St B w0 LM w → Calls P f vs.toArray w (Post B w0 Φ))
    (h : ∀ v H', Φ v H' → VL P none n B w0 ops Q rest ((d, v) :: env) H') :
    VL P none n B w0 ops Q (⟨some d, .call ⟨.value (.func f), args.toArray, tys⟩, ty, pos, after, none⟩ :: rest) env H :=
  VL_call Φ hc hargs hn (fun w hw => hcall w (by rw [app_eq happ]; exact hw.perm hp)) h
end
end Go.Eng
