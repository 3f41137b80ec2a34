/- Lemmas for the claim, part 2. -/
import Derived.RangeFuncFrom
import Derived.RangeFuncNested
import Derived.RangeFuncLeaves
import Derived.Lib.OthersKept
import Derived.Test.YtmalhidldgfeoaaGreatDoorProg
import Derived.KernelRfl
import Derived.Test.YtmalhidldgfeoaaGreatDoorQ1

/- An engine for walks, part 21: trees of orders with three writers; numbers made negative; maps of truths as sets. -/
namespace Go.Eng
open Go.RowKit
open Go.ChangeMaps (setBlock)

inductive OU where
  | done
  | n1 (i : Nat) (t : OU)
  | n2 (i : Nat) (t : OU) (j : Nat) (u : OU)
  | n3 (i : Nat) (t : OU) (j : Nat) (u : OU) (k : Nat) (v : OU)

section
variable {P : Program} {n : Shp} {B : Nat} {w0 : World} {Q : Exit → Act → World → Prop} {env : Env} {H : List HP} {ops : Array Oper}

/-- A tree of orders: at each node the operations that may come up. -/
def wpTreeU (P : Program) (ops : Array Oper) (l : List Oper) (Q : Exit → Act → World → Prop) (S : World → Prop) : OU → Act → World → Prop
  | .done, a, w => Q .normal a w
  | .n1 i t, a, w => wpHeld P ops (fun e a w => match e with | .normal => wpTreeU P ops l Q S t a w | _ => False) S [nthO l i] a w
  | .n2 i t j u, a, w => wpHeld P ops (fun e a w => match e with | .normal => wpTreeU P ops l Q S t a w | _ => False) S [nthO l i] a w ∧ wpHeld P ops (fun e a w => match e with | .normal => wpTreeU P ops l Q S u a w | _ => False) S [nthO l j] a w
  | .n3 i t j u k v, a, w => wpHeld P ops (fun e a w => match e with | .normal => wpTreeU P ops l Q S t a w | _ => False) S [nthO l i] a w ∧ wpHeld P ops (fun e a w => match e with | .normal => wpTreeU P ops l Q S u a w | _ => False) S [nthO l j] a w ∧ wpHeld P ops (fun e a w => match e with | .normal => wpTreeU P ops l Q S v a w | _ => False) S [nthO l k] a w

def treeBU (ops : Array Oper) (last : List Nat) : OU → Array Bool → Nat → Bool
  | .done, listed, 0 => orderT ops last listed
  | .done, _, _ + 1 => false
  | .n1 i t, listed, k + 1 => !last.contains i && (match ops[i]? with
      | some o => if eff o then decide (Region.ready .any ops listed = [i]) else (Region.ready .any ops listed).contains i && Region.free .any ops listed i
      | none => false) && treeBU ops last t (listed.setIfInBounds i true) k
  | .n2 i t j u, listed, k + 1 => !last.contains i && !last.contains j && isEff ops i && isEff ops j && ((Region.ready .any ops listed).all fun x => x == i || x == j) && !(Region.ready .any ops listed).isEmpty && treeBU ops last t (listed.setIfInBounds i true) k && treeBU ops last u (listed.setIfInBounds j true) k
  | .n3 i t j u q v, listed, k + 1 => !last.contains i && !last.contains j && !last.contains q && isEff ops i && isEff ops j && isEff ops q && ((Region.ready .any ops listed).all fun x => x == i || x == j || x == q) && !(Region.ready .any ops listed).isEmpty && treeBU ops last t (listed.setIfInBounds i true) k && treeBU ops last u (listed.setIfInBounds j true) k && treeBU ops last v (listed.setIfInBounds q true) k
  | .n1 _ _, _, 0 => false
  | .n2 _ _ _ _, _, 0 => false
  | .n3 _ _ _ _ _ _, _, 0 => false

theorem tree_soundU {S : World → Prop} {last : List Nat} (hs : Region.noSelect ops = true) (hQ : ∀ c (a : Act) (w : World), ¬ Q (.panic c) a w) (hlo : ¬ LetsOut Q) (l : List Oper) (hl : ops = l.toArray) (hlast : lastH ops last = true) :
    ∀ (t : OU) (k : Nat) (listed : Array Bool) (a : Act) (w : World), Closed ops listed → treeBU ops last t listed k = true → S w → wpTreeU P ops l (TailQ P ops Q (pickOps l last)) S t a w →
      wpAnyN P ops Q S last (k + last.length) listed a w
  | .done, 0, listed, a, w, _, hB, _, h => by
    have := tail_soundH (S := S) l hl (lastH_spec hlast).1 hlo last listed a w (fun j hj => by simpa using hj) hB h
    rw [Nat.zero_add]
    exact this
  | .done, _ + 1, _, _, _, _, hB, _, _ => by cases hB
  | .n1 _ _, 0, _, _, _, _, hB, _, _ => by cases hB
  | .n2 _ _ _ _, 0, _, _, _, _, hB, _, _ => by cases hB
  | .n3 _ _ _ _ _ _, 0, _, _, _, _, hB, _, _ => by cases hB
  | .n1 i t, k + 1, listed, a, w, hcl, hB, hS, h => by
    simp only [treeBU, Bool.and_eq_true] at hB
    obtain ⟨⟨h0, h1⟩, h2⟩ := hB
    have hno : last.contains i = false := by simpa using h0
    cases ho : ops[i]? with
    | none => rw [ho] at h1; cases h1
    | some o =>
      rw [ho] at h1
      have hget := nthO_get hl ho
      unfold wpTreeU at h
      rw [hget] at h
      rw [Nat.add_right_comm]
      by_cases he : eff o = true
      · simp only [he, if_true, decide_eq_true_eq] at h1
        refine ⟨fun h0 => (by rw [h1] at h0; cases h0), fun j hj => ?_⟩
        have hj' := hj
        rw [h1] at hj
        obtain rfl : j = i := by simpa using hj
        exact eff_node ho he hno (fun e a w hne => by cases e <;> simp_all) hS h fun a w hS' h' => tree_soundU hs hQ hlo l hl hlast t k _ a w (hcl.set hj') h2 hS' h'
      · simp only [he] at h1
        simp only [Bool.false_eq_true, if_false, Bool.and_eq_true] at h1
        unfold wpHeld at h
        rw [if_neg he] at h
        obtain ⟨v, hy, h3⟩ := h
        have hr : i ∈ Region.ready .any ops listed := by simpa using h1.1
        exact wpAnyN_first ho (Region.noSelect_spec hs) hQ ((lastH_spec hlast).2 i o ho (by simpa using he) hno) hno _ listed a w hcl (Region.free_spec ho h1.2) hr hy hS (tree_soundU hs hQ hlo l hl hlast t k _ _ w (hcl.set hr) h2 hS h3)
  | .n2 i t j u, k + 1, listed, a, w, hcl, hB, hS, h => by
    simp only [treeBU, Bool.and_eq_true] at hB
    obtain ⟨⟨⟨⟨⟨⟨⟨b1, b2⟩, b3⟩, b4⟩, b5⟩, b6⟩, b7⟩, b8⟩ := hB
    have hi : last.contains i = false := by simpa using b1
    have hj : last.contains j = false := by simpa using b2
    unfold wpTreeU at h
    rw [Nat.add_right_comm]
    refine ⟨fun h0 => (by rw [h0] at b6; cases b6), fun x hx => ?_⟩
    have h5 := List.all_eq_true.1 b5 x hx
    simp only [Bool.or_eq_true, beq_iff_eq] at h5
    rcases h5 with rfl | rfl
    · unfold isEff at b3
      cases ho : ops[x]? with
      | none => rw [ho] at b3; cases b3
      | some o =>
        rw [ho] at b3
        have hg := h.1
        rw [nthO_get hl ho] at hg
        exact eff_node ho b3 hi (fun e a w hne => by cases e <;> simp_all) hS hg fun a w hS' h' => tree_soundU hs hQ hlo l hl hlast t k _ a w (hcl.set hx) b7 hS' h'
    · unfold isEff at b4
      cases ho : ops[x]? with
      | none => rw [ho] at b4; cases b4
      | some o =>
        rw [ho] at b4
        have hg := h.2
        rw [nthO_get hl ho] at hg
        exact eff_node ho b4 hj (fun e a w hne => by cases e <;> simp_all) hS hg fun a w hS' h' => tree_soundU hs hQ hlo l hl hlast u k _ a w (hcl.set hx) b8 hS' h'

  | .n3 i t j u q v, k + 1, listed, a, w, hcl, hB, hS, h => by
    simp only [treeBU, Bool.and_eq_true] at hB
    obtain ⟨⟨⟨⟨⟨⟨⟨⟨⟨⟨b1, b2⟩, b2q⟩, b3⟩, b4⟩, b4q⟩, b5⟩, b6⟩, b7⟩, b8⟩, b9⟩ := hB
    have hi : last.contains i = false := by simpa using b1
    have hj : last.contains j = false := by simpa using b2
    have hq : last.contains q = false := by simpa using b2q
    unfold wpTreeU at h
    rw [Nat.add_right_comm]
    refine ⟨fun h0 => (by rw [h0] at b6; cases b6), fun x hx => ?_⟩
    have h5 := List.all_eq_true.1 b5 x hx
    simp only [Bool.or_eq_true, beq_iff_eq] at h5
    rcases h5 with (rfl | rfl) | rfl
    · unfold isEff at b3
      cases ho : ops[x]? with
      | none => rw [ho] at b3; cases b3
      | some o =>
        rw [ho] at b3
        have hg := h.1
        rw [nthO_get hl ho] at hg
        exact eff_node ho b3 hi (fun e a w hne => by cases e <;> simp_all) hS hg fun a w hS' h' => tree_soundU hs hQ hlo l hl hlast t k _ a w (hcl.set hx) b7 hS' h'
    · unfold isEff at b4
      cases ho : ops[x]? with
      | none => rw [ho] at b4; cases b4
      | some o =>
        rw [ho] at b4
        have hg := h.2.1
        rw [nthO_get hl ho] at hg
        exact eff_node ho b4 hj (fun e a w hne => by cases e <;> simp_all) hS hg fun a w hS' h' => tree_soundU hs hQ hlo l hl hlast u k _ a w (hcl.set hx) b8 hS' h'
    · unfold isEff at b4q
      cases ho : ops[x]? with
      | none => rw [ho] at b4q; cases b4q
      | some o =>
        rw [ho] at b4q
        have hg := h.2.2
        rw [nthO_get hl ho] at hg
        exact eff_node ho b4q hq (fun e a w hne => by cases e <;> simp_all) hS hg fun a w hS' h' => tree_soundU hs hQ hlo l hl hlast v k _ a w (hcl.set hx) b9 hS' h'

structure VU (P : Program) (n : Shp) (B : Nat) (w0 : World) (ops : Array Oper) (l : List Oper) (Q : Exit → Act → World → Prop) (t : OU) (env : Env) (H F : List HP) : Prop where
  run : ∀ a, Fits n a env → ∀ w, St B w0 (H ++ F) w → wpTreeU P ops l Q (St B w0 H) t a w

/-- What is asked behind a node. -/
def TreeUQ (P : Program) (B : Nat) (w0 : World) (ops : Array Oper) (l : List Oper) (Q : Exit → Act → World → Prop) (Hc : List HP) (t : OU) : Exit → Act → World → Prop
  | .normal, a, w => wpTreeU P ops l Q (St B w0 Hc) t a w
  | _, _, _ => False

theorem treeUQ_eq {l : List Oper} {t : OU} : TreeUQ P B w0 ops l Q H t = fun e a w => match e with | .normal => wpTreeU P ops l Q (St B w0 H) t a w | _ => False := by
  funext e a w
  cases e <;> rfl

theorem VU_done {l : List Oper} {F HF : List HP} (happ : App H F HF) (h : VQ n B w0 Q .normal env HF) : VU P n B w0 ops l Q .done env H F :=
  ⟨fun a ha w hw => by rw [← app_eq happ] at hw; exact h.run a w ha hw⟩
theorem VU_n1 {l : List Oper} {F : List HP} {i : Nat} {t : OU} {o : Oper} (ho : nthO l i = o) (h : VL P (some (some F)) n B w0 ops (TreeUQ P B w0 ops l Q H t) [o] env H) : VU P n B w0 ops l Q (.n1 i t) env H F := by
  refine ⟨fun a ha w hw => ?_⟩
  have h1 : wpHeld P ops (TreeUQ P B w0 ops l Q H t) (St B w0 H) [o] a w := h.run a ha w hw
  unfold wpTreeU
  rw [ho, ← treeUQ_eq]
  exact h1
theorem VU_n2 {l : List Oper} {F : List HP} {i j : Nat} {t u : OU} {o o' : Oper} (ho : nthO l i = o) (ho' : nthO l j = o') (h : VL P (some (some F)) n B w0 ops (TreeUQ P B w0 ops l Q H t) [o] env H)
    (h' : VL P (some (some F)) n B w0 ops (TreeUQ P B w0 ops l Q H u) [o'] env H) : VU P n B w0 ops l Q (.n2 i t j u) env H F := by
  refine ⟨fun a ha w hw => ?_⟩
  have h1 : wpHeld P ops (TreeUQ P B w0 ops l Q H t) (St B w0 H) [o] a w := h.run a ha w hw
  have h2 : wpHeld P ops (TreeUQ P B w0 ops l Q H u) (St B w0 H) [o'] a w := h'.run a ha w hw
  unfold wpTreeU
  rw [ho, ho', ← treeUQ_eq, ← treeUQ_eq]
  exact ⟨h1, h2⟩
theorem VU_n3 {l : List Oper} {F : List HP} {i j q : Nat} {t u v : OU} {o o' o2 : Oper} (ho : nthO l i = o) (ho' : nthO l j = o') (ho2 : nthO l q = o2) (h : VL P (some (some F)) n B w0 ops (TreeUQ P B w0 ops l Q H t) [o] env H)
    (h' : VL P (some (some F)) n B w0 ops (TreeUQ P B w0 ops l Q H u) [o'] env H) (h2 : VL P (some (some F)) n B w0 ops (TreeUQ P B w0 ops l Q H v) [o2] env H) : VU P n B w0 ops l Q (.n3 i t j u q v) env H F := by
  refine ⟨fun a ha w hw => ?_⟩
  have h1 : wpHeld P ops (TreeUQ P B w0 ops l Q H t) (St B w0 H) [o] a w := h.run a ha w hw
  have h2' : wpHeld P ops (TreeUQ P B w0 ops l Q H u) (St B w0 H) [o'] a w := h'.run a ha w hw
  have h3 : wpHeld P ops (TreeUQ P B w0 ops l Q H v) (St B w0 H) [o2] a w := h2.run a ha w hw
  unfold wpTreeU
  rw [ho, ho', ho2, ← treeUQ_eq, ← treeUQ_eq, ← treeUQ_eq]
  exact ⟨h1, h2', h3⟩
theorem VQ_treeu {l : List Oper} {F H' Hc : List HP} {t : OU} (hp : Pull Hc H' F) (h : VU P n B w0 ops l Q t env Hc F) : VQ n B w0 (TreeUQ P B w0 ops l Q Hc t) .normal env H' :=
  ⟨fun a w ha hw => h.run a ha w (hw.perm hp)⟩

/-- A region that draws its order: a tree of orders, and the last operations. -/
theorem VC_treeU {id : Nat} {l : List Oper} (t : OU) (last : List Nat) (mask : List Bool) {Hc F : List HP} (hm : P.follows .mixedOrders = true)
    (hB : (Region.noSelect l.toArray && decide (last.length ≤ l.toArray.size) && lastH l.toArray last && treeBU l.toArray last t (Array.replicate l.toArray.size false) (l.toArray.size - last.length)) = true)
    (hsp : Split mask H Hc F) {l2 : List Oper} (hl2 : pickOps l last = l2) (h : VU P n B w0 l.toArray l (TailQ P l.toArray (Only Q) l2) t env Hc F) : VC P n B w0 (.region id l.toArray true) Q env H := by
  simp only [Bool.and_eq_true, decide_eq_true_eq] at hB
  obtain ⟨⟨⟨h1, h2⟩, h3⟩, h5⟩ := hB
  refine ⟨fun a w ha hw => wpR_mono (Q := Only Q) ?_ fun e a w h => by cases e <;> first | exact h | cases h⟩
  have hst : St B w0 (Hc ++ F) w.drew := (hw.perm (split_perm hsp)).drew
  have hr := h.run a ha w.drew hst
  rw [← hl2] at hr
  have := tree_soundU (S := St B w0 Hc) h1 (fun c a w h => h) (by rintro ⟨_, _, h⟩; exact h) l rfl h3 t _ _ a w.drew (closed_none _ _) h5 hst.prefix_ hr
  rw [Nat.sub_add_cancel h2] at this
  exact wpR_any hm (wpAny_of_N _ _ _ _ this)
end

/-! ### Maps of truths -/
/-- Just the keys of f are in the map, and are true. -/
def MB (es : Ents) (f : Int → Bool) : Prop := ∀ k, mget es k = if f k = true then some (.bool true) else none
structure MOk (es : Ents) (clock : Nat) : Prop where
  nd : (es.map fun e => e.2.2).Nodup
  kn : (es.map fun e => e.1).Nodup
  lt : ∀ e ∈ es, e.2.2 < clock
theorem MB.nil : MB [] (fun _ => false) := fun _ => rfl
theorem MOk.nil {c : Nat} : MOk [] c := ⟨List.nodup_nil, List.nodup_nil, fun _ h => by cases h⟩
theorem mget_append (es l : Ents) (k : Int) : mget (es ++ l) k = (mget es k).or (mget l k) := by
  unfold mget
  rw [List.find?_append]
  cases es.find? (fun e => e.1 == k) <;> rfl
theorem MB.ext {es : Ents} {f g : Int → Bool} (h : MB es f) (e : ∀ v, f v = g v) : MB es g := fun k => by rw [← e k]; exact h k
theorem MB.put {es : Ents} {f : Int → Bool} {k : Int} {c : Nat} (h : MB es f) (hk : f k = false) : MB (es ++ [(k, .bool true, c)]) (fun v => decide (v = k) || f v) := fun v => by
  rw [mget_append, h v]
  by_cases hv : v = k
  · subst hv
    rw [hk]
    simp [mget]
  · have : (k == v) = false := by simpa using Ne.symm hv
    cases hf : f v <;> simp [mget, hv, this, hf]
theorem MB.mem {es : Ents} {f : Int → Bool} (h : MB es f) {e : Int × Value × Nat} (he : e ∈ es) : f e.1 = true := by
  have hk := h e.1
  cases hf : f e.1 with
  | true => rfl
  | false =>
    rw [hf, if_neg (by decide)] at hk
    unfold mget at hk
    cases hx : es.find? (fun x => x.1 == e.1) with
    | none => have := List.find?_eq_none.1 hx e he; simp at this
    | some x => rw [hx] at hk; cases hk
theorem MOk.put {es : Ents} {f : Int → Bool} {k : Int} {v : Value} {c : Nat} (h : MOk es c) (hf : MB es f) (hk : f k = false) : MOk (es ++ [(k, v, c)]) (c + 1) := by
  refine ⟨?_, ?_, fun e he => ?_⟩
  · rw [List.map_append]
    refine List.nodup_append.2 ⟨h.nd, by simp, fun a ha b hb => ?_⟩
    obtain ⟨e, he, rfl⟩ := List.mem_map.1 ha
    obtain rfl : b = c := by simpa using hb
    have := h.lt e he
    omega
  · rw [List.map_append]
    refine List.nodup_append.2 ⟨h.kn, by simp, fun a ha b hb => ?_⟩
    obtain ⟨e, he, rfl⟩ := List.mem_map.1 ha
    obtain rfl : b = k := by simpa using hb
    intro e2
    have := hf.mem he
    rw [e2, hk] at this
    cases this
  · rcases List.mem_append.1 he with he | he
    · have := h.lt e he; omega
    · obtain rfl := List.mem_singleton.1 he
      exact Nat.lt_succ_self _
theorem MB.at_ {es : Ents} {f : Int → Bool} (h : MB es f) {k : Int} (hk : f k = true) : ∃ e ∈ es, e.1 = k := by
  have h1 := h k
  rw [hk, if_pos rfl] at h1
  unfold mget at h1
  cases hx : es.find? (fun x => x.1 == k) with
  | none => rw [hx] at h1; cases h1
  | some x => exact ⟨x, List.mem_of_find?_eq_some hx, by simpa using List.find?_some hx⟩
theorem Upd.same {A : HP} : ∀ {L : List HP}, A ∈ L → Upd A A L L
  | _ :: _, .head _ => Upd.here _
  | X :: _, .tail _ h => (Upd.same h).there X

section
variable {P : Program} {m : Mode} {n : Shp} {B : Nat} {w0 : World} {ops : Array Oper} {Q : Exit → Act → World → Prop} {rest : List Oper} {env : Env} {H : List HP} {d : Nat} {ty : TypeId} {pos : String} {after : Array Edge} {x y u : Operand}
end
end Go.Eng

/- An engine for walks, part 23: ranges over functions: rounds, yield, and what is deferred behind them. -/
namespace Go.Eng
open Go.RowKit

theorem St.putObj {B : Nat} {w0 w : World} {H K : List HP} {g : Nat} {o o' : Obj} (h : St B w0 H w) (u : Upd (Eng.blk g o) (Eng.blk g o') H K) : St B w0 K (w.putObj g o') := by
  have hlt : g < w.heap.size := by
    obtain ⟨L1, L2, rfl, _⟩ := u
    exact (h.blk (g := g) (o := o) (by simp)).2.2
  refine h.upd u rfl rfl rfl (by simp [World.putObj]) fun S1 ⟨h1, _⟩ => ⟨⟨h1, World.putObj_heap_same hlt⟩, fun b hb _ => World.putObj_heap_other fun e => hb (e ▸ h1)⟩
theorem perm_app (X : HP) (Y M : List HP) : Perm (Y ++ X :: M) (X :: (Y ++ M)) := by
  induction Y with
  | nil => exact .refl _
  | cons A Y ih => exact (ih.cons A).trans (.swap A X _)
theorem perm_appi (X : HP) (Y M : List HP) : Perm (X :: (Y ++ M)) (Y ++ X :: M) := by
  induction Y with
  | nil => exact .refl _
  | cons A Y ih => exact (Perm.swap X A _).trans (ih.cons A)
theorem perm_pre (Y : List HP) {L M : List HP} (p : Perm L M) : Perm (Y ++ L) (Y ++ M) := by
  induction Y with
  | nil => exact p
  | cons A Y ih => exact ih.cons A

/-- What yield comes to: on, with pieces of which Φt holds, or no more, with pieces of which Φf holds. -/
def YieldS (P : Program) (l : Nat) (args : List Value) (B : Nat) (w0 : World) (H : List HP) (Φt Φf : List HP → Prop) : Prop :=
  ∀ w, St B w0 H w → YieldAt Fence.wide 0 P l args.toArray w fun e w' =>
    (e = .returned (.bool true) ∧ ∃ K, Φt K ∧ St B w0 K w') ∨ (e = .returned (.bool false) ∧ ∃ K, Φf K ∧ St B w0 K w')

/-- An iterator: it hands these lists of values to yield, one after the other; HI are the pieces that it leaves alone. -/
def IterS (P : Program) (gf : Nat) (lb : List Value) (xs : List (List Value)) (B : Nat) (w0 : World) (HI : List HP) : Prop :=
  ∀ (l : Nat) (S : Nat → List HP → Prop) (X : List HP → Prop),
    (∀ (i : Nat) (args : List Value), xs[i]? = some args → ∀ (Y L : List HP), S i L →
      YieldS P l args B w0 (Y ++ many L :: HI) (fun K => ∃ L', S (i + 1) L' ∧ K = Y ++ many L' :: HI) (fun K => ∃ L', X L' ∧ K = Y ++ many L' :: HI)) →
    ∀ L0, S 0 L0 → ∀ w, St B w0 (many L0 :: HI) w →
      CallsIn Fence.wide 0 P gf (.func (.yield l) #[] #[] :: lb).toArray w (Post B w0 fun _ K => (∃ L, S xs.length L ∧ K = many L :: HI) ∨ ∃ L, X L ∧ K = many L :: HI)

def jump : Exit → Option Code
  | .ret => some .ret
  | .exit id => some (.exit id)
  | _ => none
/-- What is asked behind the body of a round. -/
def BodyQ {α : Type} (B : Nat) (w0 : World) (R : HP) (HI : List HP) (I : α → Prop) (HH : α → List HP) (X : Exit → List HP → Prop) : Exit → Act → World → Prop
  | .normal, _, w => ∃ y, I y ∧ St B w0 (R :: (HH y ++ HI)) w
  | .ret, _, w => ∃ K, X .ret K ∧ St B w0 (R :: (K ++ HI)) w
  | .exit id, _, w => ∃ K, X (.exit id) K ∧ St B w0 (R :: (K ++ HI)) w
  | _, _, _ => False
/-- What is asked behind the assignments of a round. -/
def AssignQ {α : Type} (P : Program) (l B : Nat) (w0 : World) (body : Code) (R : HP) (HI : List HP) (I : α → Prop) (HH : α → List HP) (X : Exit → List HP → Prop) : Exit → Act → World → Prop
  | .normal, a, w => ∃ K, St B w0 (R :: K) w ∧ ∀ R' w', St B w0 (R' :: K) w' → wpR P (some l) body (BodyQ B w0 R' HI I HH X) a w'
  | _, _, _ => False
def putEnv : List Nat → List Value → Env → Env
  | p :: ps, v :: vs, e => putEnv ps vs ((p, v) :: e)
  | _, _, e => e

section
variable {P : Program} {B : Nat} {w0 : World} {Q : Exit → Act → World → Prop} {env : Env} {H : List HP} {k : Nat}
theorem VQ_assign {α : Type} {l : Nat} {body : Code} {R : HP} {HI K : List HP} {I : α → Prop} {HH : α → List HP} {X : Exit → List HP → Prop} (hr : Rem R H K)
    (h : ∀ R', VC P ⟨k, [], some l⟩ B w0 body (BodyQ B w0 R' HI I HH X) env (R' :: K)) : VQ ⟨k, [], some l⟩ B w0 (AssignQ P l B w0 body R HI I HH X) .normal env H :=
  ⟨fun a _ ha hw => ⟨K, hw.perm hr, fun R' w' hw' => (h R').run a w' ha hw'⟩⟩
theorem VQ_body {α : Type} {n : Shp} {R : HP} {HI : List HP} {I : α → Prop} {HH : α → List HP} {X : Exit → List HP → Prop} (y : α) (hI : I y) (hH : ∀ w, St B w0 H w → St B w0 (R :: (HH y ++ HI)) w) :
    VQ n B w0 (BodyQ B w0 R HI I HH X) .normal env H := ⟨fun _ w _ hw => ⟨y, hI, hH w hw⟩⟩
theorem VQ_bodyR {α : Type} {n : Shp} {R : HP} {HI : List HP} {I : α → Prop} {HH : α → List HP} {X : Exit → List HP → Prop} (K : List HP) (hX : X .ret K) (hH : ∀ w, St B w0 H w → St B w0 (R :: (K ++ HI)) w) :
    VQ n B w0 (BodyQ B w0 R HI I HH X) .ret env H := ⟨fun _ w _ hw => ⟨K, hX, hH w hw⟩⟩
theorem fits_put : ∀ (ps : List Nat) (vs : List Value) (t : Array Value) (e : Env), t.size = k → (∀ s v, get e s = some v → t[s]? = some v) → ps.all (fun p => Nat.ble (p + 1) k) = true → ps.length = vs.length →
    ((ps.zip vs).foldl (fun t (x : Nat × Value) => t.setIfInBounds x.1 x.2) t).size = k ∧ ∀ s v, get (putEnv ps vs e) s = some v → ((ps.zip vs).foldl (fun t (x : Nat × Value) => t.setIfInBounds x.1 x.2) t)[s]? = some v
  | [], [], t, e, hs, hg, _, _ => ⟨hs, hg⟩
  | p :: ps, v :: vs, t, e, hs, hg, hp, hl => by
    simp only [List.all_cons, Bool.and_eq_true] at hp
    have hlt := Nat.le_of_ble_eq_true hp.1
    refine fits_put ps vs (t.setIfInBounds p v) ((p, v) :: e) (by simpa using hs) (fun s u hu => ?_) hp.2 (by simpa using hl)
    by_cases e2 : p = s
    · subst e2
      rw [get, if_pos rfl] at hu
      rw [← hu, Array.getElem?_setIfInBounds, if_pos rfl, if_pos (by omega)]
    · rw [get, if_neg e2] at hu
      rw [Array.getElem?_setIfInBounds_ne e2]
      exact hg s u hu

/-- The statement 'for .. := range f { .. }' in a frame of its own: x is what changes from round to round. -/
theorem VC_rangeFunc {α : Type} {ds : List Deferred} {g : Operand} {ps : List Nat} {assign body : Code} {gf : Nat} {lb : List Value} {xs : List (List Value)} (HI : List HP) (HH : α → List HP) (I : Nat → α → Prop) (X : Exit → List HP → Prop) (x0 : α)
    (hg : evo env g = some (.func (.func gf) #[] lb.toArray)) (hc : ∀ xs w, (callFunc gf xs).run P w = .ok (.enter gf xs) w) (hiter : IterS P gf lb xs B w0 HI)
    (hps : ps.all (fun p => Nat.ble (p + 1) k) = true) (hlen : ∀ args ∈ xs, args.length = ps.length) (hca : calm assign = true) (hcb : calm body = true)
    (hH : ∀ w, St B w0 H w → St B w0 (HH x0 ++ HI) w) (h0 : I 0 x0)
    (hround : ∀ (l i : Nat) (args : List Value) (R : HP) (x : α), xs[i]? = some args → I i x → VC P ⟨k, [], some l⟩ B w0 assign (AssignQ P l B w0 body R HI (I (i + 1)) HH X) (putEnv ps args env) (R :: (HH x ++ HI)))
    (hdone : ∀ D x, I xs.length x → VQ ⟨k, ⟨.collected D, #[]⟩ :: ds, none⟩ B w0 Q .normal env (blk D (.deferred (some [])) :: (HH x ++ HI)))
    (hstop : ∀ D e K, X e K → (jump e).isSome = true → VQ ⟨k, ⟨.collected D, #[]⟩ :: ds, none⟩ B w0 Q e env (blk D (.deferred (some [])) :: (K ++ HI))) :
    VC P ⟨k, ds, none⟩ B w0 (.rangeFunc g ps.toArray assign body) Q env H := by
  refine ⟨fun a w ha hw => ?_⟩
  show (Code.rangeFunc g ps.toArray assign body).wp P Q a w
  refine (wpIn_wide (n := 0)).1 (wpIn_rangeFunc ?_)
  intro fn _
  obtain ⟨rec, hrec⟩ : ∃ rec : LoopState → Option Code → Loop, rec = fun st pe => { state := st, pending := pe, fn, tmps := a.tmps, params := ps.toArray, assign, body, defers := w.heap.size } := ⟨_, rfl⟩
  have hst := ((hH w hw).alloc (.deferred (some []))).alloc (.loop (rec .ready none))
  rw [World.size_alloc] at hst
  obtain ⟨l, hl⟩ : ∃ l, w.heap.size + 1 = l := ⟨_, rfl⟩
  obtain ⟨D, hD⟩ : ∃ D, w.heap.size = D := ⟨_, rfl⟩
  rw [hl, hD] at hst
  obtain ⟨W1, hW1⟩ : ∃ W1, (w.alloc (.deferred (some []))).alloc (.loop (rec .ready none)) = W1 := ⟨_, rfl⟩
  rw [hW1] at hst
  refine ⟨l, [⟨.collected D, #[]⟩], W1, { target := .fn (.func gf) lb.toArray, args := #[.func (.yield l) #[] #[]] }, W1, gf, (.func (.yield l) #[] #[] :: lb).toArray, W1, ?_, ?_, ?_, ?_, fun h => by simp [Fence.wide] at h, ?_⟩
  · rw [← hl, ← hD, ← hW1, hrec]
    exact run_enterLoop_outer _ _ _ _ _
  · simp only [resolve, ha.eval hg]
    simp [go_sem]
  · intro f' _; trivial
  · simp [invoke, go_sem, hc]
  · refine CallsIn.mono (hiter l (fun i L => ∃ x, I i x ∧ L = blk l (.loop (rec .ready none)) :: blk D (.deferred (some [])) :: HH x)
      (fun L => ∃ e K c, X e K ∧ jump e = some c ∧ L = blk l (.loop (rec .done (some c))) :: blk D (.deferred (some [])) :: K) ?_ _ ⟨x0, h0, rfl⟩ _ (hst.perm (.close (blk l (.loop (rec .ready none)) :: blk D (.deferred (some [])) :: HH x0) HI))) ?_
    · -- one round
      rintro i args hx Y L ⟨x, hI, rfl⟩ W hW
      have hp1 : ∀ (lp : Loop) (M : List HP), Perm (Y ++ many (blk l (.loop lp) :: blk D (.deferred (some [])) :: M) :: HI) (many (Y ++ [blk l (.loop lp), blk D (.deferred (some []))]) :: (M ++ HI)) := fun lp M => by
        refine (perm_pre Y (.open_ _ _)).trans ?_
        have : Y ++ ((blk l (.loop lp) :: blk D (.deferred (some [])) :: M) ++ HI) = (Y ++ [blk l (.loop lp), blk D (.deferred (some []))]) ++ (M ++ HI) := by simp
        rw [this]
        exact .close _ _
      have hp2 : ∀ (lp : Loop) (M : List HP), Perm (many (Y ++ [blk l (.loop lp), blk D (.deferred (some []))]) :: (M ++ HI)) (Y ++ many (blk l (.loop lp) :: blk D (.deferred (some [])) :: M) :: HI) := fun lp M => by
        refine Perm.trans (.open_ _ _) ?_
        have : (Y ++ [blk l (.loop lp), blk D (.deferred (some []))]) ++ (M ++ HI) = Y ++ ((blk l (.loop lp) :: blk D (.deferred (some [])) :: M) ++ HI) := by simp
        rw [this]
        exact perm_pre Y (.close _ _)
      have hpf : ∀ (lp : Loop) (M : List HP), Perm (many (Y ++ [blk l (.loop lp), blk D (.deferred (some []))]) :: M) (blk l (.loop lp) :: (Y ++ blk D (.deferred (some [])) :: M)) := fun lp M => by
        refine Perm.trans (.open_ _ _) ?_
        have : (Y ++ [blk l (.loop lp), blk D (.deferred (some []))]) ++ M = Y ++ blk l (.loop lp) :: (blk D (.deferred (some [])) :: M) := by simp
        rw [this]
        exact perm_app _ _ _
      have hpb : ∀ (lp : Loop) (M : List HP), Perm (blk l (.loop lp) :: (Y ++ blk D (.deferred (some [])) :: M)) (many (Y ++ [blk l (.loop lp), blk D (.deferred (some []))]) :: M) := fun lp M => by
        refine Perm.trans (perm_appi _ _ _) ?_
        have : Y ++ blk l (.loop lp) :: (blk D (.deferred (some [])) :: M) = (Y ++ [blk l (.loop lp), blk D (.deferred (some []))]) ++ M := by simp
        rw [this]
        exact .close _ _
      have hW1 := hW.perm (hp1 _ _)
      have hW2 := hW1.perm (hpf _ _)
      have hlp := (hW2.blk List.mem_cons_self).1
      have hal := hlen args (List.mem_of_getElem? hx)
      have hy := run_yield (P := P) (args := args.toArray) hlp (by rw [hrec]; simp [hal])
      rw [hrec] at hy
      refine ⟨fn, _, assign, body, hy, roundIn_of_wpIn trivial ?_⟩
      have hfit := fits_put ps args a.tmps env ha.size (fun s v h => ha.slot s v h) hps hal.symm
      have hz : (ps.toArray.zip args.toArray).foldl (fun t (x : Nat × Value) => t.setIfInBounds x.1 x.2) a.tmps = (ps.zip args).foldl (fun t (x : Nat × Value) => t.setIfInBounds x.1 x.2) a.tmps := by
        rw [← Array.foldl_toList]; simp
      have hva := (hround l i args (many (Y ++ [blk l (.loop (rec .ready none)), blk D (.deferred (some []))])) x hx hI).run
        { tmps := (ps.toArray.zip args.toArray).foldl (fun t (x : Nat × Value) => t.setIfInBounds x.1 x.2) a.tmps, defers := [] } W ⟨rfl, by rw [hz]; exact hfit.1, fun s v h => by rw [hz]; exact hfit.2 s v h⟩ hW1
      refine wpIn_mono (hva (by rintro ⟨_, _, h⟩; exact h) hca) ?_
      intro e a1 w1 hq
      cases e with
      | normal =>
        obtain ⟨K, hK, hbody⟩ := hq
        have hK2 := hK.perm (hpf _ _)
        have hlp2 := (hK2.blk List.mem_cons_self).1
        refine ⟨_, run_beginRound hlp2 (by rw [hrec]), ?_⟩
        have hK3 := (hK2.putObj (o' := .loop { rec .ready none with state := .busy }) (.here _)).perm (hpb _ _)
        have hvb := hbody _ _ hK3
        refine wpIn_mono (hvb (by rintro ⟨_, _, h⟩; exact h) hcb) ?_
        intro e a3 w3 hq3
        have fin : ∀ (jp : Option Code) (M : List HP), St B w0 (many (Y ++ [blk l (.loop { rec .ready none with state := .busy }), blk D (.deferred (some []))]) :: (M ++ HI)) w3 →
            ∃ w4, (Instr.endRound l jp).run P w3 = .ok (.bool jp.isNone) w4 ∧ St B w0 (Y ++ many (blk l (.loop (rec (if jp.isNone then .ready else .done) jp)) :: blk D (.deferred (some [])) :: M) :: HI) w4 := fun jp M h3 => by
          have h4 := h3.perm (hpf _ _)
          have h5 := (h4.blk List.mem_cons_self).1
          have h6 := run_endRound (P := P) jp h5
          refine ⟨_, h6, ?_⟩
          have h7 := ((h4.putObj (o' := .loop (rec (if jp.isNone then .ready else .done) jp)) (.here _)).perm (hpb _ _)).perm (hp2 _ _)
          rw [hrec] at h7 ⊢
          exact h7
        cases e with
        | normal =>
          obtain ⟨y, hIy, h3⟩ := hq3
          obtain ⟨w4, h5, h6⟩ := fin none _ h3
          exact ⟨_, w4, h5, .inl ⟨rfl, _, ⟨_, ⟨y, hIy, rfl⟩, rfl⟩, h6⟩⟩
        | ret =>
          obtain ⟨K3, hX3, h3⟩ := hq3
          obtain ⟨w4, h5, h6⟩ := fin (some .ret) _ h3
          exact ⟨_, w4, h5, .inr ⟨rfl, _, ⟨_, ⟨.ret, K3, .ret, hX3, rfl, rfl⟩, rfl⟩, h6⟩⟩
        | exit id =>
          obtain ⟨K3, hX3, h3⟩ := hq3
          obtain ⟨w4, h5, h6⟩ := fin (some (.exit id)) _ h3
          exact ⟨_, w4, h5, .inr ⟨rfl, _, ⟨_, ⟨.exit id, K3, .exit id, hX3, rfl, rfl⟩, rfl⟩, h6⟩⟩
        | goto t => exact hq3.elim
        | panic ch => exact hq3.elim
        | outgrown => exact hq3.elim
      | ret => exact hq
      | exit id => exact hq
      | goto t => exact hq
      | panic ch => exact hq
      | outgrown => exact hq
    · -- behind the iterator
      rintro e W2 ⟨v, K, rfl, hst2, hK⟩
      have hpn : ∀ st pe, (rec st pe).pending = pe := fun st pe => by rw [hrec]
      have hds : ∀ {M : List HP} {w' : World}, St B w0 M w' → Fits ⟨k, ⟨.collected D, #[]⟩ :: ds, none⟩ { a with defers := [⟨.collected D, #[]⟩] ++ a.defers } env := fun _ =>
        ⟨by rw [ha.defers]; rfl, ha.size, ha.slot⟩
      rcases hK with ⟨L, ⟨x, hI, rfl⟩, rfl⟩ | ⟨L, ⟨e, K, c, hX, hj, rfl⟩, rfl⟩
      · have h1 := hst2.perm (.open_ _ _)
        have h2 := (h1.blk List.mem_cons_self).1
        have h3 := run_endLoop (P := P) h2 (by rw [hrec]; simp)
        have h4 := (h1.putObj (o' := .loop { rec .ready none with state := .exhausted }) (.here _)).tail
        refine ⟨none, _, h3.trans (congrArg (fun j => Result.ok j _) (hpn _ _)), ?_⟩
        exact (hdone D x hI).run _ _ (hds h4) h4
      · have h1 := hst2.perm (.open_ _ _)
        have h2 := (h1.blk List.mem_cons_self).1
        have h3 := run_endLoop (P := P) h2 (by rw [hrec]; simp)
        have h4 := (h1.putObj (o' := .loop { rec .done (some c) with state := .exhausted }) (.here _)).tail
        refine ⟨some c, _, h3.trans (congrArg (fun j => Result.ok j _) (hpn _ _)), ?_⟩
        have h5 := (hstop D e K hX (by rw [hj]; rfl)).run _ _ (hds h4) h4
        cases e with
        | ret => obtain rfl := Option.some.inj hj; exact wpIn_ret h5
        | exit id => obtain rfl := Option.some.inj hj; exact wpIn_exit h5
        | normal => cases hj
        | goto t => cases hj
        | panic ch => cases hj
        | outgrown => cases hj

/-! ### Functions that hold such a loop -/
theorem Calls_of_VCm {n : Nat} {f : FuncId} {fn : Func} {c : Code} {args : List Value} {w : World} {Φ : Value → List HP → Prop} (hf : P.funcs[f]? = some fn) (hn : fn.ntmps = n) (hb : fn.body = some c)
    (hle : Nat.ble args.length n = true) (hw : St B w0 H w) (h : VC P ⟨n, [], none⟩ B w0 c (bodyPostM Fence.wide 0 P fn (Post B w0 Φ)) (argEnv 0 args) H) : Calls P f args.toArray w (Post B w0 Φ) := by
  refine (callsIn_wide (n := 0)).1 (callsIn_of_wp_marks hf hb trivial ((wpIn_wide (n := 0)).2 (h.run _ w ⟨rfl, ?_, fun t v ht => ?_⟩ hw)))
  · have := Nat.le_of_ble_eq_true hle; simp; omega
  · obtain ⟨_, h2⟩ := get_argEnv args 0 t v ht
    rw [Nat.sub_zero] at h2
    have hlt : t < args.length := by
      rcases Nat.lt_or_ge t args.length with h | h
      · exact h
      · rw [List.getElem?_eq_none h] at h2; cases h2
    rw [Array.getElem?_append_left (by simpa using hlt)]
    simpa using h2
theorem leavesM_ret {fn : Func} {R : Ending → World → Prop} {a : Act} {w : World} (h : bodyPost P fn R .ret a w) : bodyPostM Fence.wide 0 P fn R .ret a w := by
  obtain ⟨h1, h2⟩ := h
  show LeavesInM Fence.wide 0 P fn a.tmps R a.defers .returning w
  rw [h1]
  exact h2
theorem VQ_m {n : Nat} {fn : Func} {R : Ending → World → Prop} (h : VQ ⟨n, [], none⟩ B w0 (bodyPost P fn R) .ret env H) : VQ ⟨n, [], none⟩ B w0 (bodyPostM Fence.wide 0 P fn R) .ret env H :=
  ⟨fun a w ha hw => leavesM_ret (h.run a w ha hw)⟩
/-- The mark of a loop behind which no deferred call was collected. -/
theorem VQ_mark {n D : Nat} {ds : List Deferred} {fn : Func} {R : Ending → World → Prop} {H' : List HP} (hr : Rem (blk D (.deferred (some []))) H H') (h : VQ ⟨n, ds, none⟩ B w0 (bodyPostM Fence.wide 0 P fn R) .ret env H') :
    VQ ⟨n, ⟨.collected D, #[]⟩ :: ds, none⟩ B w0 (bodyPostM Fence.wide 0 P fn R) .ret env H := by
  refine ⟨fun a w ha hw => ?_⟩
  show LeavesInM Fence.wide 0 P fn a.tmps R a.defers .returning w
  rw [ha.defers]
  have hw2 := hw.perm hr
  have hb := (hw2.blk List.mem_cons_self).1
  refine ⟨by simp, .inl ⟨D, _, rfl, run_takeDeferred hb, ?_⟩⟩
  have h3 := (hw2.putObj (o' := .deferred none) (.here _)).tail
  exact h.run { a with defers := ds } _ ⟨rfl, ha.size, ha.slot⟩ h3

/-! ### The iterator's own call of yield -/
theorem listW_of {ops : Array Oper} (hlo : ¬ LetsOut Q) : ∀ (os : List Oper) (a : Act) (w : World), wpList P ops Q os a w → wpListIn Fence.wide 0 P ops Q os a w
  | [], _, _, h => h
  | o :: os, a, w, h => by
    unfold wpList at h
    unfold wpListIn
    split
    · rename_i hw
      rw [if_pos hw] at h
      rcases h with h | ⟨_, h⟩
      · refine ⟨fun f _ => trivial, ?_⟩
        have h2 := Oper.wp_mono (fun a w h => listW_of hlo os a w h) h
        unfold Oper.wp at h2
        have hs : Oper.semAt Fence.wide.round a.eval o = execOp a.eval o := Oper.semAt_none _ _
        rw [hs]
        generalize (execOp a.eval o).run P w = res at h2 ⊢
        cases res with
        | ok x w' =>
          cases x <;> simp only [Oper.upon, Oper.uponIn] at h2 ⊢ <;> first
            | exact h2
            | (refine ⟨fun hd => by simp [Fence.wide] at hd, ?_⟩
               refine CallsIn.mono (callsIn_wide.2 h2) fun e w'' he => ?_
               cases e <;> exact he)
            | (refine ⟨fun hd => by simp [Fence.wide] at hd, fun c cs _ => ?_⟩
               obtain ⟨v, w2, k1, k2⟩ := h2 c cs
               exact ⟨v, w2, k1, stepsIn_wide.2 k2⟩)
            | exact h2.elim
        | halt x w' => cases x <;> simp only [Oper.upon, Oper.uponIn] at h2 ⊢ <;> first | exact h2 | exact h2.elim
      · exact (hlo h).elim
    · rename_i hw
      rw [if_neg hw] at h
      exact ⟨fun f _ => trivial, listW_of hlo os _ w h⟩
/-- What is still to come of a region, where yield may be called. -/
def YQ (P : Program) (ops : Array Oper) (Q : Exit → Act → World → Prop) (l : List Oper) : Exit → Act → World → Prop
  | .normal, a, w => wpListIn Fence.wide 0 P ops Q l a w
  | e, a, w => Q e a w
theorem listY_of {ops : Array Oper} {l : List Oper} (hlo : ¬ LetsOut Q) : ∀ (os : List Oper) (a : Act) (w : World), wpList P ops (YQ P ops Q l) os a w → wpListIn Fence.wide 0 P ops Q (os ++ l) a w
  | [], _, _, h => h
  | o :: os, a, w, h => by
    unfold wpList at h
    rw [List.cons_append]
    unfold wpListIn
    split
    · rename_i hw
      rw [if_pos hw] at h
      rcases h with h | ⟨_, h⟩
      · refine ⟨fun f _ => trivial, ?_⟩
        have h2 := Oper.wp_mono (fun a w h => listY_of hlo os a w h) h
        unfold Oper.wp at h2
        have hs : Oper.semAt Fence.wide.round a.eval o = execOp a.eval o := Oper.semAt_none _ _
        rw [hs]
        generalize (execOp a.eval o).run P w = res at h2 ⊢
        cases res with
        | ok x w' =>
          cases x <;> simp only [Oper.upon, Oper.uponIn] at h2 ⊢ <;> first
            | exact h2
            | (refine ⟨fun hd => by simp [Fence.wide] at hd, ?_⟩
               refine CallsIn.mono (callsIn_wide.2 h2) fun e w'' he => ?_
               cases e <;> exact he)
            | (refine ⟨fun hd => by simp [Fence.wide] at hd, fun c cs _ => ?_⟩
               obtain ⟨v, w2, k1, k2⟩ := h2 c cs
               exact ⟨v, w2, k1, stepsIn_wide.2 k2⟩)
            | exact h2.elim
        | halt x w' => cases x <;> simp only [Oper.upon, Oper.uponIn] at h2 ⊢ <;> first | exact h2 | exact h2.elim
      · exact (hlo h).elim
    · rename_i hw
      rw [if_neg hw] at h
      exact ⟨fun f _ => trivial, listY_of hlo os _ w h⟩
/-- A region whose k-th operation calls yield. -/
theorem VC_regionY {n : Nat} {ds : List Deferred} {id : Nat} {l : List Oper} (k : Nat) {l1 l2 : List Oper} (h1 : l.take k = l1) (h2 : l.drop k = l2) (hlo : ¬ LetsOut Q) (h : VL P none ⟨n, ds, none⟩ B w0 l.toArray (YQ P l.toArray Q l2) l1 env H) :
    VC P ⟨n, ds, none⟩ B w0 (.region id l.toArray false) Q env H := by
  refine ⟨fun a w ha hw => ?_⟩
  refine (wpIn_wide (n := 0)).1 (wpIn_region_lit ?_)
  have := listY_of hlo _ _ _ (h.run a ha w hw)
  rw [← h1, ← h2, List.take_append_drop] at this
  exact this
theorem VQ_yield {n : Nat} {ds : List Deferred} {ops : Array Oper} {d l : Nat} {x : Operand} {args : List Operand} {tys : Array TypeId} {ty : TypeId} {pos : String} {after : Array Edge} {gd : Option (Nat × Bool)} {vs : List Value} {rest : List Oper} (Φt Φf : List HP → Prop)
    (hgd : ∀ a : Act, Fits ⟨n, ds, none⟩ a env → Region.wanted ⟨some d, .call ⟨.value x, args.toArray, tys⟩, ty, pos, after, gd⟩ (yielded ops a.tmps) = true)
    (hx : evo env x = some (.func (.yield l) #[] #[])) (hargs : Args env args vs) (hn : Nat.ble (d + 1) n = true) (hlo : ¬ LetsOut Q) (hy : YieldS P l vs B w0 H Φt Φf)
    (ht : ∀ K, Φt K → VL P none ⟨n, ds, none⟩ B w0 ops Q rest ((d, .bool true) :: env) K)
    (hf : ∀ K, Φf K → VL P none ⟨n, ds, none⟩ B w0 ops Q rest ((d, .bool false) :: env) K) :
    VQ ⟨n, ds, none⟩ B w0 (YQ P ops Q (⟨some d, .call ⟨.value x, args.toArray, tys⟩, ty, pos, after, gd⟩ :: rest)) .normal env H := by
  refine ⟨fun a w ha hw => ?_⟩
  show wpListIn Fence.wide 0 P ops Q _ a w
  unfold wpListIn
  rw [if_pos (hgd a ha)]
  refine ⟨fun f _ => trivial, ?_⟩
  obtain ⟨fn, tmps, assign, body, hrun, hround⟩ := hy w hw
  have hmap : args.toArray.map a.eval = vs.toArray := by rw [List.map_toArray, map_evo ha _ _ hargs]
  have hs : Oper.semAt Fence.wide.round a.eval ⟨some d, .call ⟨.value x, args.toArray, tys⟩, ty, pos, after, gd⟩ = execOp a.eval ⟨some d, .call ⟨.value x, args.toArray, tys⟩, ty, pos, after, gd⟩ := Oper.semAt_none _ _
  rw [hs]
  have hex : (execOp a.eval ⟨some d, .call ⟨.value x, args.toArray, tys⟩, ty, pos, after, gd⟩).run P w = .ok (.round l fn tmps assign body) w := by
    simp only [execOp, resolve, ha.eval hx, hmap, Deferred.ofValue, Sem.run_bind, Sem.run_pure, Result.andThen_ok, invoke]
    simpa using hrun
  rw [hex, Oper.uponIn_round]
  refine ⟨fun hd => by simp [Fence.wide] at hd, RoundIn.mono hround ?_⟩
  rintro e w' (⟨rfl, K', hΦ, hst⟩ | ⟨rfl, K', hΦ, hst⟩)
  · exact listW_of hlo _ _ _ ((ht K' hΦ).run _ (ha.put (Nat.le_of_ble_eq_true hn) _) _ hst)
  · exact listW_of hlo _ _ _ ((hf K' hΦ).run _ (ha.put (Nat.le_of_ble_eq_true hn) _) _ hst)
/-- The same operation, walked as any other (where it is not wanted). -/
theorem VQ_ylist {n : Nat} {ds : List Deferred} {ops : Array Oper} {o : Oper} {rest : List Oper} (hlo : ¬ LetsOut Q) (h : VL P none ⟨n, ds, none⟩ B w0 ops Q (o :: rest) env H) : VQ ⟨n, ds, none⟩ B w0 (YQ P ops Q (o :: rest)) .normal env H :=
  ⟨fun a w ha hw => listW_of hlo _ _ _ (h.run a ha w hw)⟩
theorem wanted_some {n : Nat} {ds : List Deferred} {ops : Array Oper} {dst : Option Tmp} {op : Op} {ty : TypeId} {pos : String} {after : Array Edge} {j s : Nat} {b : Bool} {oj : Oper} (hj : ops[j]? = some oj) (hs : oj.dst = some s) (hv : get env s = some (.bool b)) :
    ∀ a : Act, Fits ⟨n, ds, none⟩ a env → Region.wanted ⟨dst, op, ty, pos, after, some (j, b)⟩ (yielded ops a.tmps) = true := fun a ha => by simp [Region.wanted, yielded, hj, hs, ha.slot s _ hv]
/-- How an iterator's contract is shown: its body's walk. -/
theorem IterS_of {n gf : Nat} {fn : Func} {c : Code} {lb : List Value} {xs : List (List Value)} {HI : List HP} (hf : P.funcs[gf]? = some fn) (hn : fn.ntmps = n) (hb : fn.body = some c) (hle : Nat.ble (lb.length + 1) n = true)
    (h : ∀ (l : Nat) (S : Nat → List HP → Prop) (X : List HP → Prop),
      (∀ (i : Nat) (args : List Value), xs[i]? = some args → ∀ (Y L : List HP), S i L →
        YieldS P l args B w0 (Y ++ many L :: HI) (fun K => ∃ L', S (i + 1) L' ∧ K = Y ++ many L' :: HI) (fun K => ∃ L', X L' ∧ K = Y ++ many L' :: HI)) →
      ∀ L0, S 0 L0 → VC P ⟨n, [], none⟩ B w0 c (bodyPost P fn (Post B w0 fun _ K => (∃ L, S xs.length L ∧ K = many L :: HI) ∨ ∃ L, X L ∧ K = many L :: HI)) (argEnv 0 (.func (.yield l) #[] #[] :: lb)) (many L0 :: HI)) : IterS P gf lb xs B w0 HI := by
  intro l S X hy L0 h0 w hw
  exact callsIn_wide.2 (Calls_of_VC (args := .func (.yield l) #[] #[] :: lb) hf hn hb hle hw (h l S X hy L0 h0))
end
end Go.Eng

/- An engine for walks, part 24: a whole array as a slice. -/
namespace Go.Eng
open Go.RowKit
section
variable {P : Program} {m : Mode} {n : Shp} {B : Nat} {w0 : World} {ops : Array Oper} {Q : Exit → Act → World → Prop} {rest : List Oper} {env : Env} {H : List HP} {d : Nat} {ty : TypeId} {pos : String} {after : Array Edge}
/-- All elements of an array, as a slice. -/
theorem VL_slice_all (T : Tab P) {t g o k e size : Nat} {x : Operand} (hx : evo env x = some (.pointer (some ⟨g, o, none⟩))) (ht : look T.ar t = some (k, e, size)) (hn : Nat.ble (d + 1) n.k = true)
    (h : VL P m n B w0 ops Q rest ((d, .slice (some ⟨g, o, none⟩) k k) :: env) H) :
    VL P m n B w0 ops Q (⟨some d, .slice t x none none none, ty, pos, after, none⟩ :: rest) env H := by
  obtain ⟨inf, hu, hinf, hs⟩ := arrayT_spec (T.arra ht)
  refine VL_pure rfl rfl hn rfl (fun a w ha hw => ?_) h
  simp [execOp, ha.eval hx, Instr.sliceAt, Instr.sliceBounds, Instr.sureAddr, run_underlying hu, sizeOf, typeInfo, hinf, Addr.add_lit]
theorem app_niln : ∀ (L : List HP), App L [] L
  | [] => rfl
  | _ :: L => ⟨rfl, app_niln L⟩
/-- The same as VC_held; every piece is read. -/
theorem VC_heldA {id : Nat} {l : List Oper} (o1 last : List Nat) (hm : P.follows .mixedOrders = true)
    (hB : (Region.noSelect l.toArray && decide ((o1 ++ last).length = l.toArray.size) && lastB l.toArray last && (o1.all fun j => !last.contains j) && orderB l.toArray (o1 ++ last) (Array.replicate l.toArray.size false)) = true)
    {l1 l2 : List Oper} (hl1 : pickOps l o1 = l1) (hl2 : pickOps l last = l2) (h : VL P (some (some [])) n B w0 l.toArray (TailQ P l.toArray (Only Q) l2) l1 env H) : VC P n B w0 (.region id l.toArray true) Q env H := by
  simp only [Bool.and_eq_true, decide_eq_true_eq] at hB
  obtain ⟨⟨⟨⟨h1, h2⟩, h3⟩, h4⟩, h5⟩ := hB
  refine ⟨fun a w ha hw => wpR_mono (Q := Only Q) ?_ fun e a w h => by cases e <;> first | exact h | cases h⟩
  have hst : St B w0 (H ++ []) w.drew := by rw [List.append_nil]; exact hw.drew
  have hr : wpHeld P l.toArray (TailQ P l.toArray (Only Q) l2) (St B w0 H) l1 a w.drew := h.run a ha w.drew hst
  rw [← hl1, ← hl2] at hr
  have := held_sound (S := St B w0 H) h1 (fun c a w h => h) (by rintro ⟨_, _, h⟩; exact h) l rfl h3 o1 _ a w.drew (closed_none _ _) (fun j hj => by simpa using List.all_eq_true.1 h4 j hj) h5 hst.prefix_ hr
  rw [h2] at this
  exact wpR_any hm (wpAny_of_N _ _ _ _ this)
end
end Go.Eng

/- An engine for walks, part 25: calls that only see older memory; strings.Builder as a piece. -/
namespace Go.Eng
open Go.RowKit
section
variable {P : Program} {B : Nat} {w0 w : World} {H : List HP}
/-- A call that is walked from its own start: what is there already stays. -/
theorem calls_inner {f : Nat} {xs : Array Value} {Φ : Value → Prop} (hw : St B w0 H w) (h : Calls P f xs w (Post w.heap.size w fun u _ => Φ u)) : Calls P f xs w (Post B w0 fun u K => Φ u ∧ K = H) :=
  h.mono fun _ _ ⟨u, _, e1, hst, hΦ⟩ => ⟨u, H, e1, hw.grow hst.below, hΦ, rfl⟩
theorem calls_grow {f : Nat} {xs : Array Value} {u : Value} (hw : St B w0 H w) (h : Calls P f xs w fun e w' => e = .returned u ∧ Below w.heap.size w w') : Calls P f xs w (Post B w0 fun v K => v = u ∧ K = H) :=
  h.mono fun _ _ ⟨e1, hb⟩ => ⟨u, H, e1, hw.grow hb, rfl, rfl⟩
theorem Rd.here {A : Option Addr} {xs : List Value} (hr : Rd B w0 H A xs) (hw : St B w0 H w) : Rd w.heap.size w [] A xs := Rd.old fun j v hv => by
  obtain ⟨g, o, e1, hc⟩ := hr w hw j v hv
  refine ⟨g, o, e1, ?_, hc⟩
  rcases Nat.lt_or_ge g w.heap.size with h | h
  · exact h
  · simp [World.cell?, Array.getElem?_eq_none h] at hc

theorem Perm.openT (H : List HP) : Perm [many H] H := by
  have := Perm.open_ H []
  rwa [List.append_nil] at this
theorem Perm.closeT (H : List HP) : Perm H [many H] := by
  have := Perm.close H []
  rwa [List.append_nil] at this
theorem Rd.tail {A : Option Addr} {xs : List Value} (h : Rd B w0 H A xs) : Rd B w0 [many H] A xs := h.mono fun _ hw => hw.perm (.openT _)

end
end Go.Eng

/- Networks of chapter 31, plain: the first fault of a network. -/
namespace Go.Nw

/-- A link: from, to, loss. -/
abbrev Lk := Int × Int × Int

structure Net where
  nodes : Int
  power : List (List Int)
  noise : Int
  thr : Int
  links : List Lk
  margin : List Int

def cmpI (x y : Int) : Int := if x < y then -1 else if y < x then 1 else 0
def cmpL (a b : Lk) : Int := if cmpI a.1 b.1 = 0 then cmpI a.2.1 b.2.1 else cmpI a.1 b.1
def outside (p : Int) : Bool := decide (p < 0 ∨ 68719476736 < p)
def wide (k : Int) (r : List Int) : Bool := decide ((r.length : Int) ≠ k)
def tableE (n : Net) : Int :=
  if (n.power.length : Int) ≠ n.nodes then 1 else if n.power.any (wide n.nodes) = true then 1 else if n.power.any (fun r => r.any outside) = true then 2 else 0
def lnk (n : Net) (i : Nat) : Lk := n.links.getD i (0, 0, 0)
def mar (n : Net) (i : Nat) : Int := n.margin.getD i 0
def powr (n : Net) (a b : Int) : Int := (n.power.getD a.toNat []).getD b.toNat 0
def linkE (n : Net) (i : Nat) : Int :=
  if ¬ (0 ≤ (lnk n i).1 ∧ (lnk n i).1 < n.nodes) ∨ ¬ (0 ≤ (lnk n i).2.1 ∧ (lnk n i).2.1 < n.nodes) ∨ (lnk n i).1 = (lnk n i).2.1 ∨ (lnk n i).2.2 < 0 ∨ 7 < (lnk n i).2.2 then 2
  else if 0 < i ∧ 0 ≤ cmpL (lnk n (i - 1)) (lnk n i) then 5
  else if mar n i < 0 ∨ powr n (lnk n i).1 (lnk n i).2.1 < mar n i then 2 else 0
def linksE (n : Net) : Nat → Nat → Int
  | 0, _ => 0
  | r + 1, i => if linkE n i = 0 then linksE n r (i + 1) else linkE n i
def checkE (n : Net) : Int :=
  if n.nodes < 2 ∨ 32 < n.nodes then 2 else if tableE n ≠ 0 then tableE n
  else if n.noise < 0 ∨ 68719476736 < n.noise ∨ n.thr < 1000 ∨ 100000 < n.thr then 2
  else if 128 < n.links.length then 8 else if n.margin.length ≠ n.links.length then 11 else linksE n n.links.length 0

/-- The first index of an element with a property, counted from k on; -1 if there is none. -/
def idxFrom {α : Type} (p : α → Bool) : List α → Int → Int
  | [], _ => -1
  | a :: l, k => if p a then k else idxFrom p l (k + 1)
theorem idx_any {α : Type} (p : α → Bool) : ∀ (l : List α) (k : Int), 0 ≤ k → (0 ≤ idxFrom p l k ↔ l.any p = true)
  | [], k, _ => by simp [idxFrom]
  | a :: l, k, h => by
    unfold idxFrom
    by_cases hp : p a = true
    · simp [hp, h]
    · rw [if_neg hp, idx_any p l (k + 1) (by omega)]
      simp [hp]
theorem idx_drop {α : Type} (p : α → Bool) (l : List α) {k : Nat} {a : α} (h : l[k]? = some a) : idxFrom p (l.drop k) k = if p a then (k : Int) else idxFrom p (l.drop (k + 1)) (k + 1) := by
  obtain ⟨hk, rfl⟩ := List.getElem?_eq_some_iff.1 h
  rw [List.drop_eq_getElem_cons hk, idxFrom]

theorem linksE_step (n : Net) {i : Nat} (h : i < n.links.length) (h0 : linkE n i = 0) : linksE n (n.links.length - i) i = linksE n (n.links.length - (i + 1)) (i + 1) := by
  rw [show n.links.length - i = n.links.length - (i + 1) + 1 by omega, linksE, if_pos h0]
theorem linksE_stop (n : Net) {i : Nat} (h : i < n.links.length) (h0 : linkE n i ≠ 0) : linksE n (n.links.length - i) i = linkE n i := by
  rw [show n.links.length - i = n.links.length - (i + 1) + 1 by omega, linksE, if_neg h0]

theorem table_ok {n : Net} (h : tableE n = 0) : (n.power.length : Int) = n.nodes ∧ (∀ r ∈ n.power, (r.length : Int) = n.nodes) ∧ ∀ r ∈ n.power, ∀ p ∈ r, 0 ≤ p ∧ p ≤ 68719476736 := by
  unfold tableE at h
  by_cases h1 : (n.power.length : Int) ≠ n.nodes
  · rw [if_pos h1] at h; omega
  rw [if_neg h1] at h
  by_cases h2 : n.power.any (wide n.nodes) = true
  · rw [if_pos h2] at h; omega
  rw [if_neg h2] at h
  by_cases h3 : n.power.any (fun r => r.any outside) = true
  · rw [if_pos h3] at h; omega
  refine ⟨by omega, fun r hr => ?_, fun r hr p hp => ?_⟩
  · by_cases hw : (r.length : Int) = n.nodes
    · exact hw
    · exact absurd (List.any_eq_true.2 ⟨r, hr, by simp [wide, hw]⟩) h2
  · by_cases ho : outside p = true
    · exact absurd (List.any_eq_true.2 ⟨r, hr, List.any_eq_true.2 ⟨p, hp, ho⟩⟩) h3
    · simp [outside] at ho; omega
end Go.Nw

/- Lists of numbers in their order, plain. -/
namespace Go.Proofs.YtmalhidldgfeoaaGreatDoor
def lexLt : List Int → List Int → Bool
  | [], b => !b.isEmpty
  | _ :: _, [] => false
  | a :: l, b :: m => if a ≠ b then decide (a < b) else lexLt l m
theorem lex_drop {a b : List Int} {i : Nat} {x y : Int} (hx : a[i]? = some x) (hy : b[i]? = some y) : lexLt (a.drop i) (b.drop i) = if x ≠ y then decide (x < y) else lexLt (a.drop (i + 1)) (b.drop (i + 1)) := by
  obtain ⟨h1, rfl⟩ := List.getElem?_eq_some_iff.1 hx
  obtain ⟨h2, rfl⟩ := List.getElem?_eq_some_iff.1 hy
  rw [List.drop_eq_getElem_cons h1, List.drop_eq_getElem_cons h2]
  rfl
theorem lex_no : ∀ {a b : List Int}, lexLt a b = false → lexLt b a = false → a = b
  | [], [], _, _ => rfl
  | [], b :: m, h, _ => by simp [lexLt] at h
  | a :: l, [], _, h => by simp [lexLt] at h
  | a :: l, b :: m, h1, h2 => by
    unfold lexLt at h1 h2
    by_cases e : a = b
    · subst e
      rw [if_neg (fun h => h rfl)] at h1 h2
      rw [lex_no h1 h2]
    · rw [if_pos e] at h1
      rw [if_pos (Ne.symm e)] at h2
      have h3 := of_decide_eq_false h1
      have h4 := of_decide_eq_false h2
      omega
theorem lex_self : ∀ a : List Int, lexLt a a = false
  | [] => rfl
  | a :: l => by unfold lexLt; rw [if_neg (fun h => h rfl)]; exact lex_self l
end Go.Proofs.YtmalhidldgfeoaaGreatDoor

/- The seat's table of types, printed by a program of mine (gen_tab.py), checked by the kernel. -/
namespace Go.Proofs.YtmalhidldgfeoaaGreatDoor
open Go.Eng

theorem tab_sc : ([(1, ()), (3, ()), (4, ()), (5, ()), (9, ()), (22, ()), (23, ()), (24, ()), (27, ()), (28, ()), (48, ()), (59, ()), (72, ()), (80, ()), (81, ()), (82, ()), (129, ()), (130, ()), (134, ()), (162, ()), (195, ()), (221, ()), (222, ()), (249, ()), (277, ()), (291, ()), (302, ())].all fun x : Nat × Unit => oneT Tryz.prog x.1) = true := by kernel_rfl
theorem tab_ag : ([(26, 6), (30, 3), (40, 5), (61, 5), (68, 6), (70, 7), (84, 2), (96, 5), (151, 17), (167, 8), (169, 4), (172, 3), (181, 3), (183, 5), (212, 4), (213, 16), (224, 5), (250, 4), (257, 5), (263, 2), (334, 20), (338, 2), (339, 32), (347, 32), (348, 64)].all fun x : Nat × Nat => aggT Tryz.prog x.1 == some x.2) = true := by kernel_rfl
theorem tab_fo : ([(26, 0, 0), (26, 1, 1), (26, 2, 2), (26, 3, 3), (26, 4, 4), (26, 5, 5), (30, 0, 0), (30, 1, 1), (30, 2, 2), (40, 0, 0), (40, 1, 1), (40, 2, 2), (40, 3, 3), (40, 4, 4), (61, 0, 0), (61, 1, 1), (61, 2, 2), (61, 3, 3), (61, 4, 4), (68, 0, 0), (68, 1, 1), (68, 2, 2), (68, 3, 3), (68, 4, 4), (68, 5, 5), (70, 0, 0), (70, 1, 6), (84, 0, 0), (84, 1, 1), (96, 0, 0), (96, 1, 1), (96, 2, 2), (96, 3, 3), (132, 0, 0), (132, 1, 1), (144, 0, 0), (144, 1, 1), (151, 0, 0), (151, 1, 6), (151, 2, 9), (151, 3, 15), (151, 4, 16), (164, 0, 0), (164, 1, 1), (164, 2, 4), (164, 3, 5), (164, 4, 6), (167, 0, 0), (167, 1, 1), (167, 2, 2), (167, 3, 7), (169, 0, 0), (169, 1, 1), (169, 2, 2), (169, 3, 3), (172, 0, 0), (172, 1, 1), (172, 2, 2), (181, 0, 0), (181, 1, 1), (181, 2, 2), (212, 0, 0), (212, 1, 1), (212, 2, 2), (224, 0, 0), (224, 1, 1), (224, 2, 2), (224, 3, 3), (224, 4, 4), (257, 0, 0), (257, 1, 1), (257, 2, 2), (257, 3, 3), (257, 4, 4), (263, 0, 0), (263, 1, 1), (338, 0, 0), (338, 1, 1)].all fun x : Nat × Nat × Nat => fieldOff Tryz.prog x.1 x.2.1 == some x.2.2) = true := by kernel_rfl
theorem tab_sl : ([(22, (24, 1, 24)), (23, (172, 3, 24)), (24, (3, 1, 8)), (27, (68, 6, 48)), (28, (40, 5, 40)), (36, (4, 1, 1)), (37, (28, 1, 24)), (45, (70, 7, 72)), (48, (61, 5, 104)), (59, (72, 1, 24)), (72, (3, 1, 8)), (80, (257, 5, 56)), (81, (167, 8, 64)), (82, (181, 3, 24)), (87, (96, 5, 56)), (130, (5, 1, 1)), (140, (9, 1, 16)), (162, (224, 5, 40))].all fun x : Nat × (Nat × Nat × Nat) => sliceT Tryz.prog x.1 == some x.2) = true := by kernel_rfl
theorem tab_ar : ([(183, (5, 3, 1)), (213, (4, 212, 4)), (250, (4, 1, 1)), (315, (24, 5, 1)), (334, (20, 277, 1)), (335, (65, 5, 1)), (336, (256, 5, 1)), (339, (16, 338, 2)), (347, (32, 5, 1)), (348, (64, 5, 1))].all fun x : Nat × (Nat × Nat × Nat) => arrayT Tryz.prog x.1 == some x.2) = true := by kernel_rfl
theorem tab_ik : ([(2, .i64), (3, .i64), (5, .u8), (21, .i32), (197, .u64), (275, .u32), (277, .u64), (302, .u64)].all fun x : Nat × IntKind => decide (intT Tryz.prog x.1 = some x.2)) = true := by kernel_rfl
theorem tab_st : ([(9, ())].all fun x : Nat × Unit => stringT Tryz.prog x.1) = true := by kernel_rfl
def T : Tab Tryz.prog := ⟨_, _, _, _, _, _, _, tab_sc, tab_ag, tab_fo, tab_sl, tab_ar, tab_ik, tab_st⟩

theorem tab_zt : ([(3, .int .i64 0), (4, .bool false), (5, .int .u8 0), (9, .string ⟨#[]⟩), (24, .slice none 0 0), (26, .agg #[.int .i64 0, .slice none 0 0, .int .i64 0, .int .i64 0, .slice none 0 0, .slice none 0 0]), (28, .slice none 0 0), (30, .agg #[.int .i64 0, .int .i64 0, .slice none 0 0]), (40, .agg #[.int .i64 0, .int .i64 0, .int .i64 0, .int .i64 0, .int .i64 0]), (61, .agg #[.int .i64 0, .slice none 0 0, .slice none 0 0, .slice none 0 0, .slice none 0 0]), (68, .agg #[.int .i64 0, .int .i64 0, .int .i64 0, .int .i64 0, .int .i64 0, .int .i64 0]), (70, .agg #[.int .i64 0, .int .i64 0, .int .i64 0, .int .i64 0, .int .i64 0, .int .i64 0, .slice none 0 0]), (72, .slice none 0 0), (84, .agg #[.slice none 0 0, .slice none 0 0]), (96, .agg #[.int .i64 0, .int .i64 0, .int .i64 0, .int .i64 0, .slice none 0 0]), (132, .agg #[.pointer none, .slice none 0 0]), (144, .agg #[.slice none 0 0, .int .i64 0]), (151, .agg #[.int .i64 0, .slice none 0 0, .int .i64 0, .int .i64 0, .slice none 0 0, .slice none 0 0, .int .i64 0, .int .i64 0, .slice none 0 0, .int .i64 0, .int .i64 0, .int .i64 0, .int .i64 0, .int .i64 0, .int .i64 0, .slice none 0 0, .int .i64 0]), (164, .agg #[.slice none 0 0, .int .i64 0, .int .i64 0, .slice none 0 0, .slice none 0 0, .slice none 0 0, .slice none 0 0, .slice none 0 0]), (167, .agg #[.int .i64 0, .int .i64 0, .int .i64 0, .int .i64 0, .int .i64 0, .int .i64 0, .int .i64 0, .int .i64 0]), (169, .agg #[.int .i64 0, .int .i64 0, .int .i64 0, .int .i64 0]), (172, .agg #[.int .i64 0, .int .i64 0, .int .i64 0]), (181, .agg #[.int .i64 0, .int .i64 0, .int .i64 0]), (183, .agg #[.int .i64 0, .int .i64 0, .int .i64 0, .int .i64 0, .int .i64 0]), (195, .nilFunc), (212, .agg #[.string ⟨#[]⟩, .int .i64 0, .int .i64 0, .int .i64 0]), (213, .agg #[.string ⟨#[]⟩, .int .i64 0, .int .i64 0, .int .i64 0, .string ⟨#[]⟩, .int .i64 0, .int .i64 0, .int .i64 0, .string ⟨#[]⟩, .int .i64 0, .int .i64 0, .int .i64 0, .string ⟨#[]⟩, .int .i64 0, .int .i64 0, .int .i64 0]), (224, .agg #[.int .i64 0, .map none, .map none, .map none, .bool false]), (249, .pointer none), (250, .agg #[.nilFunc, .nilFunc, .nilFunc, .nilFunc]), (257, .agg #[.int .i64 0, .int .i64 0, .int .i64 0, .int .i64 0, .slice none 0 0]), (263, .agg #[.int .i64 0, .int .i64 0]), (302, .int .u64 0), (315, .agg #[.int .u8 0, .int .u8 0, .int .u8 0, .int .u8 0, .int .u8 0, .int .u8 0, .int .u8 0, .int .u8 0, .int .u8 0, .int .u8 0, .int .u8 0, .int .u8 0, .int .u8 0, .int .u8 0, .int .u8 0, .int .u8 0, .int .u8 0, .int .u8 0, .int .u8 0, .int .u8 0, .int .u8 0, .int .u8 0, .int .u8 0, .int .u8 0]), (331, .agg #[.string ⟨#[]⟩, .string ⟨#[]⟩, .nilIface]), (334, .agg #[.int .u64 0, .int .u64 0, .int .u64 0, .int .u64 0, .int .u64 0, .int .u64 0, .int .u64 0, .int .u64 0, .int .u64 0, .int .u64 0, .int .u64 0, .int .u64 0, .int .u64 0, .int .u64 0, .int .u64 0, .int .u64 0, .int .u64 0, .int .u64 0, .int .u64 0, .int .u64 0]), (335, .agg #[.int .u8 0, .int .u8 0, .int .u8 0, .int .u8 0, .int .u8 0, .int .u8 0, .int .u8 0, .int .u8 0, .int .u8 0, .int .u8 0, .int .u8 0, .int .u8 0, .int .u8 0, .int .u8 0, .int .u8 0, .int .u8 0, .int .u8 0, .int .u8 0, .int .u8 0, .int .u8 0, .int .u8 0, .int .u8 0, .int .u8 0, .int .u8 0, .int .u8 0, .int .u8 0, .int .u8 0, .int .u8 0, .int .u8 0, .int .u8 0, .int .u8 0, .int .u8 0, .int .u8 0, .int .u8 0, .int .u8 0, .int .u8 0, .int .u8 0, .int .u8 0, .int .u8 0, .int .u8 0, .int .u8 0, .int .u8 0, .int .u8 0, .int .u8 0, .int .u8 0, .int .u8 0, .int .u8 0, .int .u8 0, .int .u8 0, .int .u8 0, .int .u8 0, .int .u8 0, .int .u8 0, .int .u8 0, .int .u8 0, .int .u8 0, .int .u8 0, .int .u8 0, .int .u8 0, .int .u8 0, .int .u8 0, .int .u8 0, .int .u8 0, .int .u8 0, .int .u8 0]), (338, .agg #[.int .u8 0, .int .u8 0]), (339, .agg #[.int .u8 0, .int .u8 0, .int .u8 0, .int .u8 0, .int .u8 0, .int .u8 0, .int .u8 0, .int .u8 0, .int .u8 0, .int .u8 0, .int .u8 0, .int .u8 0, .int .u8 0, .int .u8 0, .int .u8 0, .int .u8 0, .int .u8 0, .int .u8 0, .int .u8 0, .int .u8 0, .int .u8 0, .int .u8 0, .int .u8 0, .int .u8 0, .int .u8 0, .int .u8 0, .int .u8 0, .int .u8 0, .int .u8 0, .int .u8 0, .int .u8 0, .int .u8 0]), (346, .agg #[.string ⟨#[]⟩]), (347, .agg #[.int .u8 0, .int .u8 0, .int .u8 0, .int .u8 0, .int .u8 0, .int .u8 0, .int .u8 0, .int .u8 0, .int .u8 0, .int .u8 0, .int .u8 0, .int .u8 0, .int .u8 0, .int .u8 0, .int .u8 0, .int .u8 0, .int .u8 0, .int .u8 0, .int .u8 0, .int .u8 0, .int .u8 0, .int .u8 0, .int .u8 0, .int .u8 0, .int .u8 0, .int .u8 0, .int .u8 0, .int .u8 0, .int .u8 0, .int .u8 0, .int .u8 0, .int .u8 0]), (348, .agg #[.int .u8 0, .int .u8 0, .int .u8 0, .int .u8 0, .int .u8 0, .int .u8 0, .int .u8 0, .int .u8 0, .int .u8 0, .int .u8 0, .int .u8 0, .int .u8 0, .int .u8 0, .int .u8 0, .int .u8 0, .int .u8 0, .int .u8 0, .int .u8 0, .int .u8 0, .int .u8 0, .int .u8 0, .int .u8 0, .int .u8 0, .int .u8 0, .int .u8 0, .int .u8 0, .int .u8 0, .int .u8 0, .int .u8 0, .int .u8 0, .int .u8 0, .int .u8 0, .int .u8 0, .int .u8 0, .int .u8 0, .int .u8 0, .int .u8 0, .int .u8 0, .int .u8 0, .int .u8 0, .int .u8 0, .int .u8 0, .int .u8 0, .int .u8 0, .int .u8 0, .int .u8 0, .int .u8 0, .int .u8 0, .int .u8 0, .int .u8 0, .int .u8 0, .int .u8 0, .int .u8 0, .int .u8 0, .int .u8 0, .int .u8 0, .int .u8 0, .int .u8 0, .int .u8 0, .int .u8 0, .int .u8 0, .int .u8 0, .int .u8 0, .int .u8 0])].map fun x : Nat × Value => zeroT Tryz.prog x.1) = [(3, .int .i64 0), (4, .bool false), (5, .int .u8 0), (9, .string ⟨#[]⟩), (24, .slice none 0 0), (26, .agg #[.int .i64 0, .slice none 0 0, .int .i64 0, .int .i64 0, .slice none 0 0, .slice none 0 0]), (28, .slice none 0 0), (30, .agg #[.int .i64 0, .int .i64 0, .slice none 0 0]), (40, .agg #[.int .i64 0, .int .i64 0, .int .i64 0, .int .i64 0, .int .i64 0]), (61, .agg #[.int .i64 0, .slice none 0 0, .slice none 0 0, .slice none 0 0, .slice none 0 0]), (68, .agg #[.int .i64 0, .int .i64 0, .int .i64 0, .int .i64 0, .int .i64 0, .int .i64 0]), (70, .agg #[.int .i64 0, .int .i64 0, .int .i64 0, .int .i64 0, .int .i64 0, .int .i64 0, .slice none 0 0]), (72, .slice none 0 0), (84, .agg #[.slice none 0 0, .slice none 0 0]), (96, .agg #[.int .i64 0, .int .i64 0, .int .i64 0, .int .i64 0, .slice none 0 0]), (132, .agg #[.pointer none, .slice none 0 0]), (144, .agg #[.slice none 0 0, .int .i64 0]), (151, .agg #[.int .i64 0, .slice none 0 0, .int .i64 0, .int .i64 0, .slice none 0 0, .slice none 0 0, .int .i64 0, .int .i64 0, .slice none 0 0, .int .i64 0, .int .i64 0, .int .i64 0, .int .i64 0, .int .i64 0, .int .i64 0, .slice none 0 0, .int .i64 0]), (164, .agg #[.slice none 0 0, .int .i64 0, .int .i64 0, .slice none 0 0, .slice none 0 0, .slice none 0 0, .slice none 0 0, .slice none 0 0]), (167, .agg #[.int .i64 0, .int .i64 0, .int .i64 0, .int .i64 0, .int .i64 0, .int .i64 0, .int .i64 0, .int .i64 0]), (169, .agg #[.int .i64 0, .int .i64 0, .int .i64 0, .int .i64 0]), (172, .agg #[.int .i64 0, .int .i64 0, .int .i64 0]), (181, .agg #[.int .i64 0, .int .i64 0, .int .i64 0]), (183, .agg #[.int .i64 0, .int .i64 0, .int .i64 0, .int .i64 0, .int .i64 0]), (195, .nilFunc), (212, .agg #[.string ⟨#[]⟩, .int .i64 0, .int .i64 0, .int .i64 0]), (213, .agg #[.string ⟨#[]⟩, .int .i64 0, .int .i64 0, .int .i64 0, .string ⟨#[]⟩, .int .i64 0, .int .i64 0, .int .i64 0, .string ⟨#[]⟩, .int .i64 0, .int .i64 0, .int .i64 0, .string ⟨#[]⟩, .int .i64 0, .int .i64 0, .int .i64 0]), (224, .agg #[.int .i64 0, .map none, .map none, .map none, .bool false]), (249, .pointer none), (250, .agg #[.nilFunc, .nilFunc, .nilFunc, .nilFunc]), (257, .agg #[.int .i64 0, .int .i64 0, .int .i64 0, .int .i64 0, .slice none 0 0]), (263, .agg #[.int .i64 0, .int .i64 0]), (302, .int .u64 0), (315, .agg #[.int .u8 0, .int .u8 0, .int .u8 0, .int .u8 0, .int .u8 0, .int .u8 0, .int .u8 0, .int .u8 0, .int .u8 0, .int .u8 0, .int .u8 0, .int .u8 0, .int .u8 0, .int .u8 0, .int .u8 0, .int .u8 0, .int .u8 0, .int .u8 0, .int .u8 0, .int .u8 0, .int .u8 0, .int .u8 0, .int .u8 0, .int .u8 0]), (331, .agg #[.string ⟨#[]⟩, .string ⟨#[]⟩, .nilIface]), (334, .agg #[.int .u64 0, .int .u64 0, .int .u64 0, .int .u64 0, .int .u64 0, .int .u64 0, .int .u64 0, .int .u64 0, .int .u64 0, .int .u64 0, .int .u64 0, .int .u64 0, .int .u64 0, .int .u64 0, .int .u64 0, .int .u64 0, .int .u64 0, .int .u64 0, .int .u64 0, .int .u64 0]), (335, .agg #[.int .u8 0, .int .u8 0, .int .u8 0, .int .u8 0, .int .u8 0, .int .u8 0, .int .u8 0, .int .u8 0, .int .u8 0, .int .u8 0, .int .u8 0, .int .u8 0, .int .u8 0, .int .u8 0, .int .u8 0, .int .u8 0, .int .u8 0, .int .u8 0, .int .u8 0, .int .u8 0, .int .u8 0, .int .u8 0, .int .u8 0, .int .u8 0, .int .u8 0, .int .u8 0, .int .u8 0, .int .u8 0, .int .u8 0, .int .u8 0, .int .u8 0, .int .u8 0, .int .u8 0, .int .u8 0, .int .u8 0, .int .u8 0, .int .u8 0, .int .u8 0, .int .u8 0, .int .u8 0, .int .u8 0, .int .u8 0, .int .u8 0, .int .u8 0, .int .u8 0, .int .u8 0, .int .u8 0, .int .u8 0, .int .u8 0, .int .u8 0, .int .u8 0, .int .u8 0, .int .u8 0, .int .u8 0, .int .u8 0, .int .u8 0, .int .u8 0, .int .u8 0, .int .u8 0, .int .u8 0, .int .u8 0, .int .u8 0, .int .u8 0, .int .u8 0, .int .u8 0]), (338, .agg #[.int .u8 0, .int .u8 0]), (339, .agg #[.int .u8 0, .int .u8 0, .int .u8 0, .int .u8 0, .int .u8 0, .int .u8 0, .int .u8 0, .int .u8 0, .int .u8 0, .int .u8 0, .int .u8 0, .int .u8 0, .int .u8 0, .int .u8 0, .int .u8 0, .int .u8 0, .int .u8 0, .int .u8 0, .int .u8 0, .int .u8 0, .int .u8 0, .int .u8 0, .int .u8 0, .int .u8 0, .int .u8 0, .int .u8 0, .int .u8 0, .int .u8 0, .int .u8 0, .int .u8 0, .int .u8 0, .int .u8 0]), (346, .agg #[.string ⟨#[]⟩]), (347, .agg #[.int .u8 0, .int .u8 0, .int .u8 0, .int .u8 0, .int .u8 0, .int .u8 0, .int .u8 0, .int .u8 0, .int .u8 0, .int .u8 0, .int .u8 0, .int .u8 0, .int .u8 0, .int .u8 0, .int .u8 0, .int .u8 0, .int .u8 0, .int .u8 0, .int .u8 0, .int .u8 0, .int .u8 0, .int .u8 0, .int .u8 0, .int .u8 0, .int .u8 0, .int .u8 0, .int .u8 0, .int .u8 0, .int .u8 0, .int .u8 0, .int .u8 0, .int .u8 0]), (348, .agg #[.int .u8 0, .int .u8 0, .int .u8 0, .int .u8 0, .int .u8 0, .int .u8 0, .int .u8 0, .int .u8 0, .int .u8 0, .int .u8 0, .int .u8 0, .int .u8 0, .int .u8 0, .int .u8 0, .int .u8 0, .int .u8 0, .int .u8 0, .int .u8 0, .int .u8 0, .int .u8 0, .int .u8 0, .int .u8 0, .int .u8 0, .int .u8 0, .int .u8 0, .int .u8 0, .int .u8 0, .int .u8 0, .int .u8 0, .int .u8 0, .int .u8 0, .int .u8 0, .int .u8 0, .int .u8 0, .int .u8 0, .int .u8 0, .int .u8 0, .int .u8 0, .int .u8 0, .int .u8 0, .int .u8 0, .int .u8 0, .int .u8 0, .int .u8 0, .int .u8 0, .int .u8 0, .int .u8 0, .int .u8 0, .int .u8 0, .int .u8 0, .int .u8 0, .int .u8 0, .int .u8 0, .int .u8 0, .int .u8 0, .int .u8 0, .int .u8 0, .int .u8 0, .int .u8 0, .int .u8 0, .int .u8 0, .int .u8 0, .int .u8 0, .int .u8 0])].map fun x : Nat × Value => some x.2 := by kernel_rfl
theorem tab_bt : ([(26, [(0, 1), (1, 1), (2, 1), (3, 1), (4, 1), (5, 1)]), (30, [(0, 1), (1, 1), (2, 1)]), (40, [(0, 1), (1, 1), (2, 1), (3, 1), (4, 1)]), (61, [(0, 1), (1, 1), (2, 1), (3, 1), (4, 1)]), (68, [(0, 1), (1, 1), (2, 1), (3, 1), (4, 1), (5, 1)]), (70, [(0, 6), (6, 1)]), (84, [(0, 1), (1, 1)]), (96, [(0, 1), (1, 1), (2, 1), (3, 1), (4, 1)]), (144, [(0, 1), (1, 1)]), (151, [(0, 6), (6, 3), (9, 6), (15, 1), (16, 1)]), (164, [(0, 1), (1, 3), (4, 1), (5, 1), (6, 2)]), (167, [(0, 1), (1, 1), (2, 5), (7, 1)]), (169, [(0, 1), (1, 1), (2, 1), (3, 1)]), (172, [(0, 1), (1, 1), (2, 1)]), (181, [(0, 1), (1, 1), (2, 1)]), (183, [(0, 1), (1, 1), (2, 1), (3, 1), (4, 1)]), (212, [(0, 1), (1, 1), (2, 1), (3, 1)]), (213, [(0, 4), (4, 4), (8, 4), (12, 4)]), (224, [(0, 1), (1, 1), (2, 1), (3, 1), (4, 1)]), (250, [(0, 1), (1, 1), (2, 1), (3, 1)]), (257, [(0, 1), (1, 1), (2, 1), (3, 1), (4, 1)]), (263, [(0, 1), (1, 1)]), (331, [(0, 1), (1, 1), (2, 1)]), (334, [(0, 1), (1, 1), (2, 1), (3, 1), (4, 1), (5, 1), (6, 1), (7, 1), (8, 1), (9, 1), (10, 1), (11, 1), (12, 1), (13, 1), (14, 1), (15, 1), (16, 1), (17, 1), (18, 1), (19, 1)]), (338, [(0, 1), (1, 1)]), (339, [(0, 2), (2, 2), (4, 2), (6, 2), (8, 2), (10, 2), (12, 2), (14, 2), (16, 2), (18, 2), (20, 2), (22, 2), (24, 2), (26, 2), (28, 2), (30, 2)]), (346, [(0, 1)]), (347, [(0, 1), (1, 1), (2, 1), (3, 1), (4, 1), (5, 1), (6, 1), (7, 1), (8, 1), (9, 1), (10, 1), (11, 1), (12, 1), (13, 1), (14, 1), (15, 1), (16, 1), (17, 1), (18, 1), (19, 1), (20, 1), (21, 1), (22, 1), (23, 1), (24, 1), (25, 1), (26, 1), (27, 1), (28, 1), (29, 1), (30, 1), (31, 1)]), (348, [(0, 1), (1, 1), (2, 1), (3, 1), (4, 1), (5, 1), (6, 1), (7, 1), (8, 1), (9, 1), (10, 1), (11, 1), (12, 1), (13, 1), (14, 1), (15, 1), (16, 1), (17, 1), (18, 1), (19, 1), (20, 1), (21, 1), (22, 1), (23, 1), (24, 1), (25, 1), (26, 1), (27, 1), (28, 1), (29, 1), (30, 1), (31, 1), (32, 1), (33, 1), (34, 1), (35, 1), (36, 1), (37, 1), (38, 1), (39, 1), (40, 1), (41, 1), (42, 1), (43, 1), (44, 1), (45, 1), (46, 1), (47, 1), (48, 1), (49, 1), (50, 1), (51, 1), (52, 1), (53, 1), (54, 1), (55, 1), (56, 1), (57, 1), (58, 1), (59, 1), (60, 1), (61, 1), (62, 1), (63, 1)])].map fun x : Nat × List (Nat × Nat) => structPl Tryz.prog x.1) = [(26, [(0, 1), (1, 1), (2, 1), (3, 1), (4, 1), (5, 1)]), (30, [(0, 1), (1, 1), (2, 1)]), (40, [(0, 1), (1, 1), (2, 1), (3, 1), (4, 1)]), (61, [(0, 1), (1, 1), (2, 1), (3, 1), (4, 1)]), (68, [(0, 1), (1, 1), (2, 1), (3, 1), (4, 1), (5, 1)]), (70, [(0, 6), (6, 1)]), (84, [(0, 1), (1, 1)]), (96, [(0, 1), (1, 1), (2, 1), (3, 1), (4, 1)]), (144, [(0, 1), (1, 1)]), (151, [(0, 6), (6, 3), (9, 6), (15, 1), (16, 1)]), (164, [(0, 1), (1, 3), (4, 1), (5, 1), (6, 2)]), (167, [(0, 1), (1, 1), (2, 5), (7, 1)]), (169, [(0, 1), (1, 1), (2, 1), (3, 1)]), (172, [(0, 1), (1, 1), (2, 1)]), (181, [(0, 1), (1, 1), (2, 1)]), (183, [(0, 1), (1, 1), (2, 1), (3, 1), (4, 1)]), (212, [(0, 1), (1, 1), (2, 1), (3, 1)]), (213, [(0, 4), (4, 4), (8, 4), (12, 4)]), (224, [(0, 1), (1, 1), (2, 1), (3, 1), (4, 1)]), (250, [(0, 1), (1, 1), (2, 1), (3, 1)]), (257, [(0, 1), (1, 1), (2, 1), (3, 1), (4, 1)]), (263, [(0, 1), (1, 1)]), (331, [(0, 1), (1, 1), (2, 1)]), (334, [(0, 1), (1, 1), (2, 1), (3, 1), (4, 1), (5, 1), (6, 1), (7, 1), (8, 1), (9, 1), (10, 1), (11, 1), (12, 1), (13, 1), (14, 1), (15, 1), (16, 1), (17, 1), (18, 1), (19, 1)]), (338, [(0, 1), (1, 1)]), (339, [(0, 2), (2, 2), (4, 2), (6, 2), (8, 2), (10, 2), (12, 2), (14, 2), (16, 2), (18, 2), (20, 2), (22, 2), (24, 2), (26, 2), (28, 2), (30, 2)]), (346, [(0, 1)]), (347, [(0, 1), (1, 1), (2, 1), (3, 1), (4, 1), (5, 1), (6, 1), (7, 1), (8, 1), (9, 1), (10, 1), (11, 1), (12, 1), (13, 1), (14, 1), (15, 1), (16, 1), (17, 1), (18, 1), (19, 1), (20, 1), (21, 1), (22, 1), (23, 1), (24, 1), (25, 1), (26, 1), (27, 1), (28, 1), (29, 1), (30, 1), (31, 1)]), (348, [(0, 1), (1, 1), (2, 1), (3, 1), (4, 1), (5, 1), (6, 1), (7, 1), (8, 1), (9, 1), (10, 1), (11, 1), (12, 1), (13, 1), (14, 1), (15, 1), (16, 1), (17, 1), (18, 1), (19, 1), (20, 1), (21, 1), (22, 1), (23, 1), (24, 1), (25, 1), (26, 1), (27, 1), (28, 1), (29, 1), (30, 1), (31, 1), (32, 1), (33, 1), (34, 1), (35, 1), (36, 1), (37, 1), (38, 1), (39, 1), (40, 1), (41, 1), (42, 1), (43, 1), (44, 1), (45, 1), (46, 1), (47, 1), (48, 1), (49, 1), (50, 1), (51, 1), (52, 1), (53, 1), (54, 1), (55, 1), (56, 1), (57, 1), (58, 1), (59, 1), (60, 1), (61, 1), (62, 1), (63, 1)])].map fun x : Nat × List (Nat × Nat) => some x.2 := by kernel_rfl
def T2 : Tab2 Tryz.prog := ⟨_, _, tab_zt, tab_bt⟩

theorem en11 (xs : Array Value) (w : World) : (callFunc 11 xs).run Tryz.prog w = .ok (.enter 11 xs) w := by kernel_rfl
theorem en12 (xs : Array Value) (w : World) : (callFunc 12 xs).run Tryz.prog w = .ok (.enter 12 xs) w := by kernel_rfl
theorem en13 (xs : Array Value) (w : World) : (callFunc 13 xs).run Tryz.prog w = .ok (.enter 13 xs) w := by kernel_rfl
theorem en14 (xs : Array Value) (w : World) : (callFunc 14 xs).run Tryz.prog w = .ok (.enter 14 xs) w := by kernel_rfl
theorem en15 (xs : Array Value) (w : World) : (callFunc 15 xs).run Tryz.prog w = .ok (.enter 15 xs) w := by kernel_rfl
theorem en16 (xs : Array Value) (w : World) : (callFunc 16 xs).run Tryz.prog w = .ok (.enter 16 xs) w := by kernel_rfl
theorem en46 (xs : Array Value) (w : World) : (callFunc 46 xs).run Tryz.prog w = .ok (.enter 46 xs) w := by kernel_rfl
theorem en47 (xs : Array Value) (w : World) : (callFunc 47 xs).run Tryz.prog w = .ok (.enter 47 xs) w := by kernel_rfl
theorem en48 (xs : Array Value) (w : World) : (callFunc 48 xs).run Tryz.prog w = .ok (.enter 48 xs) w := by kernel_rfl
theorem en49 (xs : Array Value) (w : World) : (callFunc 49 xs).run Tryz.prog w = .ok (.enter 49 xs) w := by kernel_rfl
theorem en50 (xs : Array Value) (w : World) : (callFunc 50 xs).run Tryz.prog w = .ok (.enter 50 xs) w := by kernel_rfl
theorem en51 (xs : Array Value) (w : World) : (callFunc 51 xs).run Tryz.prog w = .ok (.enter 51 xs) w := by kernel_rfl
theorem en52 (xs : Array Value) (w : World) : (callFunc 52 xs).run Tryz.prog w = .ok (.enter 52 xs) w := by kernel_rfl
theorem en53 (xs : Array Value) (w : World) : (callFunc 53 xs).run Tryz.prog w = .ok (.enter 53 xs) w := by kernel_rfl
theorem en54 (xs : Array Value) (w : World) : (callFunc 54 xs).run Tryz.prog w = .ok (.enter 54 xs) w := by kernel_rfl
theorem en55 (xs : Array Value) (w : World) : (callFunc 55 xs).run Tryz.prog w = .ok (.enter 55 xs) w := by kernel_rfl
theorem en56 (xs : Array Value) (w : World) : (callFunc 56 xs).run Tryz.prog w = .ok (.enter 56 xs) w := by kernel_rfl
theorem en57 (xs : Array Value) (w : World) : (callFunc 57 xs).run Tryz.prog w = .ok (.enter 57 xs) w := by kernel_rfl
theorem en58 (xs : Array Value) (w : World) : (callFunc 58 xs).run Tryz.prog w = .ok (.enter 58 xs) w := by kernel_rfl
theorem en59 (xs : Array Value) (w : World) : (callFunc 59 xs).run Tryz.prog w = .ok (.enter 59 xs) w := by kernel_rfl
theorem en60 (xs : Array Value) (w : World) : (callFunc 60 xs).run Tryz.prog w = .ok (.enter 60 xs) w := by kernel_rfl
theorem en61 (xs : Array Value) (w : World) : (callFunc 61 xs).run Tryz.prog w = .ok (.enter 61 xs) w := by kernel_rfl
theorem en62 (xs : Array Value) (w : World) : (callFunc 62 xs).run Tryz.prog w = .ok (.enter 62 xs) w := by kernel_rfl
theorem en63 (xs : Array Value) (w : World) : (callFunc 63 xs).run Tryz.prog w = .ok (.enter 63 xs) w := by kernel_rfl
theorem en64 (xs : Array Value) (w : World) : (callFunc 64 xs).run Tryz.prog w = .ok (.enter 64 xs) w := by kernel_rfl
theorem en76 (xs : Array Value) (w : World) : (callFunc 76 xs).run Tryz.prog w = .ok (.enter 76 xs) w := by kernel_rfl
theorem en78 (xs : Array Value) (w : World) : (callFunc 78 xs).run Tryz.prog w = .ok (.enter 78 xs) w := by kernel_rfl
theorem en81 (xs : Array Value) (w : World) : (callFunc 81 xs).run Tryz.prog w = .ok (.enter 81 xs) w := by kernel_rfl
theorem en95 (xs : Array Value) (w : World) : (callFunc 95 xs).run Tryz.prog w = .ok (.enter 95 xs) w := by kernel_rfl
theorem en98 (xs : Array Value) (w : World) : (callFunc 98 xs).run Tryz.prog w = .ok (.enter 98 xs) w := by kernel_rfl
theorem en99 (xs : Array Value) (w : World) : (callFunc 99 xs).run Tryz.prog w = .ok (.enter 99 xs) w := by kernel_rfl
theorem en104 (xs : Array Value) (w : World) : (callFunc 104 xs).run Tryz.prog w = .ok (.enter 104 xs) w := by kernel_rfl
theorem en105 (xs : Array Value) (w : World) : (callFunc 105 xs).run Tryz.prog w = .ok (.enter 105 xs) w := by kernel_rfl
theorem en106 (xs : Array Value) (w : World) : (callFunc 106 xs).run Tryz.prog w = .ok (.enter 106 xs) w := by kernel_rfl
theorem en107 (xs : Array Value) (w : World) : (callFunc 107 xs).run Tryz.prog w = .ok (.enter 107 xs) w := by kernel_rfl
theorem en108 (xs : Array Value) (w : World) : (callFunc 108 xs).run Tryz.prog w = .ok (.enter 108 xs) w := by kernel_rfl
theorem en109 (xs : Array Value) (w : World) : (callFunc 109 xs).run Tryz.prog w = .ok (.enter 109 xs) w := by kernel_rfl
theorem en110 (xs : Array Value) (w : World) : (callFunc 110 xs).run Tryz.prog w = .ok (.enter 110 xs) w := by kernel_rfl
theorem en111 (xs : Array Value) (w : World) : (callFunc 111 xs).run Tryz.prog w = .ok (.enter 111 xs) w := by kernel_rfl
theorem en112 (xs : Array Value) (w : World) : (callFunc 112 xs).run Tryz.prog w = .ok (.enter 112 xs) w := by kernel_rfl
theorem en113 (xs : Array Value) (w : World) : (callFunc 113 xs).run Tryz.prog w = .ok (.enter 113 xs) w := by kernel_rfl
theorem en114 (xs : Array Value) (w : World) : (callFunc 114 xs).run Tryz.prog w = .ok (.enter 114 xs) w := by kernel_rfl
theorem en115 (xs : Array Value) (w : World) : (callFunc 115 xs).run Tryz.prog w = .ok (.enter 115 xs) w := by kernel_rfl
theorem en116 (xs : Array Value) (w : World) : (callFunc 116 xs).run Tryz.prog w = .ok (.enter 116 xs) w := by kernel_rfl
theorem en117 (xs : Array Value) (w : World) : (callFunc 117 xs).run Tryz.prog w = .ok (.enter 117 xs) w := by kernel_rfl
theorem en118 (xs : Array Value) (w : World) : (callFunc 118 xs).run Tryz.prog w = .ok (.enter 118 xs) w := by kernel_rfl
theorem en119 (xs : Array Value) (w : World) : (callFunc 119 xs).run Tryz.prog w = .ok (.enter 119 xs) w := by kernel_rfl
theorem en120 (xs : Array Value) (w : World) : (callFunc 120 xs).run Tryz.prog w = .ok (.enter 120 xs) w := by kernel_rfl
theorem en136 (xs : Array Value) (w : World) : (callFunc 136 xs).run Tryz.prog w = .ok (.enter 136 xs) w := by kernel_rfl
theorem en137 (xs : Array Value) (w : World) : (callFunc 137 xs).run Tryz.prog w = .ok (.enter 137 xs) w := by kernel_rfl
theorem en155 (xs : Array Value) (w : World) : (callFunc 155 xs).run Tryz.prog w = .ok (.enter 155 xs) w := by kernel_rfl
theorem en158 (xs : Array Value) (w : World) : (callFunc 158 xs).run Tryz.prog w = .ok (.enter 158 xs) w := by kernel_rfl
theorem en159 (xs : Array Value) (w : World) : (callFunc 159 xs).run Tryz.prog w = .ok (.enter 159 xs) w := by kernel_rfl
theorem en160 (xs : Array Value) (w : World) : (callFunc 160 xs).run Tryz.prog w = .ok (.enter 160 xs) w := by kernel_rfl
theorem en161 (xs : Array Value) (w : World) : (callFunc 161 xs).run Tryz.prog w = .ok (.enter 161 xs) w := by kernel_rfl
theorem en162 (xs : Array Value) (w : World) : (callFunc 162 xs).run Tryz.prog w = .ok (.enter 162 xs) w := by kernel_rfl
theorem en163 (xs : Array Value) (w : World) : (callFunc 163 xs).run Tryz.prog w = .ok (.enter 163 xs) w := by kernel_rfl
theorem en164 (xs : Array Value) (w : World) : (callFunc 164 xs).run Tryz.prog w = .ok (.enter 164 xs) w := by kernel_rfl
theorem en165 (xs : Array Value) (w : World) : (callFunc 165 xs).run Tryz.prog w = .ok (.enter 165 xs) w := by kernel_rfl
theorem en166 (xs : Array Value) (w : World) : (callFunc 166 xs).run Tryz.prog w = .ok (.enter 166 xs) w := by kernel_rfl
theorem en167 (xs : Array Value) (w : World) : (callFunc 167 xs).run Tryz.prog w = .ok (.enter 167 xs) w := by kernel_rfl
theorem en168 (xs : Array Value) (w : World) : (callFunc 168 xs).run Tryz.prog w = .ok (.enter 168 xs) w := by kernel_rfl
theorem en169 (xs : Array Value) (w : World) : (callFunc 169 xs).run Tryz.prog w = .ok (.enter 169 xs) w := by kernel_rfl
theorem en170 (xs : Array Value) (w : World) : (callFunc 170 xs).run Tryz.prog w = .ok (.enter 170 xs) w := by kernel_rfl
theorem en171 (xs : Array Value) (w : World) : (callFunc 171 xs).run Tryz.prog w = .ok (.enter 171 xs) w := by kernel_rfl
theorem en172 (xs : Array Value) (w : World) : (callFunc 172 xs).run Tryz.prog w = .ok (.enter 172 xs) w := by kernel_rfl
theorem en173 (xs : Array Value) (w : World) : (callFunc 173 xs).run Tryz.prog w = .ok (.enter 173 xs) w := by kernel_rfl
theorem en174 (xs : Array Value) (w : World) : (callFunc 174 xs).run Tryz.prog w = .ok (.enter 174 xs) w := by kernel_rfl
theorem en175 (xs : Array Value) (w : World) : (callFunc 175 xs).run Tryz.prog w = .ok (.enter 175 xs) w := by kernel_rfl
theorem en176 (xs : Array Value) (w : World) : (callFunc 176 xs).run Tryz.prog w = .ok (.enter 176 xs) w := by kernel_rfl
theorem en177 (xs : Array Value) (w : World) : (callFunc 177 xs).run Tryz.prog w = .ok (.enter 177 xs) w := by kernel_rfl
theorem en178 (xs : Array Value) (w : World) : (callFunc 178 xs).run Tryz.prog w = .ok (.enter 178 xs) w := by kernel_rfl
theorem en214 (xs : Array Value) (w : World) : (callFunc 214 xs).run Tryz.prog w = .ok (.enter 214 xs) w := by kernel_rfl
theorem en227 (xs : Array Value) (w : World) : (callFunc 227 xs).run Tryz.prog w = .ok (.enter 227 xs) w := by kernel_rfl
theorem en228 (xs : Array Value) (w : World) : (callFunc 228 xs).run Tryz.prog w = .ok (.enter 228 xs) w := by kernel_rfl
theorem en229 (xs : Array Value) (w : World) : (callFunc 229 xs).run Tryz.prog w = .ok (.enter 229 xs) w := by kernel_rfl
theorem z3 (w : World) : (zeroValue 3).run Tryz.prog w = .ok (.int .i64 0) w := by kernel_rfl
theorem z4 (w : World) : (zeroValue 4).run Tryz.prog w = .ok (.bool false) w := by kernel_rfl
theorem z70 (w : World) : (zeroValue 70).run Tryz.prog w = .ok (.agg #[.int .i64 0, .int .i64 0, .int .i64 0, .int .i64 0, .int .i64 0, .int .i64 0, .slice none 0 0]) w := by kernel_rfl
theorem z72 (w : World) : (zeroValue 72).run Tryz.prog w = .ok (.slice none 0 0) w := by kernel_rfl
theorem z167 (w : World) : (zeroValue 167).run Tryz.prog w = .ok (.agg #[.int .i64 0, .int .i64 0, .int .i64 0, .int .i64 0, .int .i64 0, .int .i64 0, .int .i64 0, .int .i64 0]) w := by kernel_rfl
theorem z212 (w : World) : (zeroValue 212).run Tryz.prog w = .ok (.agg #[.string ⟨#[]⟩, .int .i64 0, .int .i64 0, .int .i64 0]) w := by kernel_rfl
theorem z213 (w : World) : (zeroValue 213).run Tryz.prog w = .ok (.agg #[.string ⟨#[]⟩, .int .i64 0, .int .i64 0, .int .i64 0, .string ⟨#[]⟩, .int .i64 0, .int .i64 0, .int .i64 0, .string ⟨#[]⟩, .int .i64 0, .int .i64 0, .int .i64 0, .string ⟨#[]⟩, .int .i64 0, .int .i64 0, .int .i64 0]) w := by kernel_rfl
theorem zi4 : ((Tryz.prog.info? 4).bind (·.zero)) = some (.bool false) := by kernel_rfl
theorem zi28 : ((Tryz.prog.info? 28).bind (·.zero)) = some (.slice none 0 0) := by kernel_rfl
end Go.Proofs.YtmalhidldgfeoaaGreatDoor

/- The laws of operations once more, their premises found by themselves, under short names; printed by a program of mine (gen_steps.py). -/
namespace Go.Eng
open Go.RowKit Go.Proofs Go.Proofs.YtmalhidldgfeoaaGreatDoor
section
variable {m : Mode} {n : Shp} {B : Nat} {w0 : World} {ops : Array Oper} {Q : Exit → Act → World → Prop} {rest : List Oper} {env : Env} {H : List HP} {d : Nat} {ty : TypeId} {pos : String} {after : Array Edge} {xt yt : TypeId} {x y : Operand} {k : IntKind} {a b : Int} {s t : ByteArray}
theorem zs1 {x : Operand} {v : Value} (h : VL Tryz.prog m n B w0 ops Q rest ((d, v) :: env) H) (hx : evo env x = some v := by exact rfl) (hn : Nat.ble (d + 1) n.k = true := by exact rfl) : VL Tryz.prog m n B w0 ops Q (⟨some d, .move x, ty, pos, after, none⟩ :: rest) env H := VL_move hx hn h
theorem zs2 {x : Operand} {v : Value} (h : VL Tryz.prog m n B w0 ops Q rest ((d, v) :: env) H) (hx : evo env x = some v := by exact rfl) (hn : Nat.ble (d + 1) n.k = true := by exact rfl) : VL Tryz.prog m n B w0 ops Q (⟨some d, .assign x, ty, pos, after, none⟩ :: rest) env H := VL_assign hx hn h
theorem zs3 {m : Mode} {d : Nat} {op : Op} {ty : TypeId} {pos : String} {after : Array Edge} {j s : Nat} {b : Bool} {v : Value} {oj : Oper} (h : VL Tryz.prog m n B w0 ops Q rest ((d, undef) :: env) H) (hj : ops[j]? = some oj := by exact rfl) (hs : oj.dst = some s := by exact rfl) (hv : get env s = some v := by exact rfl) (hne : notB v b = true := by exact rfl) (hn : Nat.ble (d + 1) n.k = true := by exact rfl) : VL Tryz.prog m n B w0 ops Q (⟨some d, op, ty, pos, after, some (j, b)⟩ :: rest) env H := VL_guard_no hj hs hv hne hn h
theorem zs4 {m : Mode} {dst : Option Tmp} {op : Op} {ty : TypeId} {pos : String} {after : Array Edge} {j s : Nat} {b : Bool} {oj : Oper} (h : VL Tryz.prog m n B w0 ops Q (⟨dst, op, ty, pos, after, none⟩ :: rest) env H) (hj : ops[j]? = some oj := by exact rfl) (hs : oj.dst = some s := by exact rfl) (hv : get env s = some (.bool b) := by exact rfl) : VL Tryz.prog m n B w0 ops Q (⟨dst, op, ty, pos, after, some (j, b)⟩ :: rest) env H := VL_guard_yes hj hs hv h
theorem zs5 {x : Operand} {p : Addr} (h : VL Tryz.prog m n B w0 ops Q rest ((d, .pointer (some p)) :: env) H) (hx : evo env x = some (.pointer (some p)) := by exact rfl) (hn : Nat.ble (d + 1) n.k = true := by exact rfl) : VL Tryz.prog m n B w0 ops Q (⟨some d, .nilCheck x, ty, pos, after, none⟩ :: rest) env H := VL_nilCheck hx hn h
theorem zs6 {s f k g i : Nat} {x : Operand} (h : VL Tryz.prog m n B w0 ops Q rest ((d, .pointer (some ⟨g, i + k, none⟩)) :: env) H) (hx : evo env x = some (.pointer (some ⟨g, i, none⟩)) := by exact rfl) (hf : look2 T.fo s f = some k := by exact rfl) (hn : Nat.ble (d + 1) n.k = true := by exact rfl) : VL Tryz.prog m n B w0 ops Q (⟨some d, .fieldAddr s x f, ty, pos, after, none⟩ :: rest) env H := VL_fieldAddr T hx hf hn h
theorem zs7 {t g i : Nat} {cs : Array Value} {tt : TypeId} {fr : Nat × Nat} {v : Value} {x : Operand} (h : VL Tryz.prog m n B w0 ops Q rest ((d, v) :: env) H) (hx : evo env x = some (.pointer (some ⟨g, i, none⟩)) := by exact rfl) (hm : blk g (.cells cs tt fr) ∈ H := by ((focus repeat (first | with_reducible exact List.mem_cons_self | with_reducible apply List.mem_cons_of_mem | assumption)); done)) (hv : nth cs.toList i = some v := by exact rfl) (ht : look T.sc t = some () := by exact rfl) (hn : Nat.ble (d + 1) n.k = true := by exact rfl) : VL Tryz.prog m n B w0 ops Q (⟨some d, .load t x, ty, pos, after, none⟩ :: rest) env H := VL_load T hx hm hv ht hn h
theorem zs8 {t g k : Nat} {cs : Array Value} {tt : TypeId} {fr : Nat × Nat} {x : Operand} (h : VL Tryz.prog m n B w0 ops Q rest ((d, .agg cs) :: env) H) (hx : evo env x = some (.pointer (some ⟨g, 0, none⟩)) := by exact rfl) (hm : blk g (.cells cs tt fr) ∈ H := by ((focus repeat (first | with_reducible exact List.mem_cons_self | with_reducible apply List.mem_cons_of_mem | assumption)); done)) (ht : look T.ag t = some k := by exact rfl) (hk : cs.size = k := by exact rfl) (hn : Nat.ble (d + 1) n.k = true := by exact rfl) : VL Tryz.prog m n B w0 ops Q (⟨some d, .load t x, ty, pos, after, none⟩ :: rest) env H := VL_load_whole T hx hm ht hk hn h
theorem zs9 {tx : Nat} {x : Operand} {A : Option Addr} {k cap : Nat} {es : Nat × Nat × Nat} (h : VL Tryz.prog m n B w0 ops Q rest ((d, .int .i64 k) :: env) H) (hx : evo env x = some (.slice A k cap) := by exact rfl) (ht : look T.sl tx = some es := by exact rfl) (hn : Nat.ble (d + 1) n.k = true := by exact rfl) : VL Tryz.prog m n B w0 ops Q (⟨some d, .call ⟨.builtin .len, #[x], #[tx]⟩, ty, pos, after, none⟩ :: rest) env H := VL_len T hx ht hn h
theorem zs10 {t : Nat} {x y : Operand} {A : Option Addr} {k cap : Nat} {xs : List Value} {e size bytes : Nat} {ki : IntKind} {i : Int} (h : VL Tryz.prog m n B w0 ops Q rest ((d, sptr A (i.toNat * size)) :: env) H) (hx : evo env x = some (.slice A k cap) := by exact rfl) (hm : sl e size A k cap xs ∈ H := by ((focus repeat (first | with_reducible exact List.mem_cons_self | with_reducible apply List.mem_cons_of_mem | assumption)); done)) (hy : evo env y = some (.int ki i) := by exact rfl) (ht : look T.sl t = some (e, size, bytes) := by exact rfl) (hn : Nat.ble (d + 1) n.k = true := by exact rfl) (hi : 0 ≤ i ∧ i < k := by omega) : VL Tryz.prog m n B w0 ops Q (⟨some d, .indexAddr t x y, ty, pos, after, none⟩ :: rest) env H := VL_index_sl T hx hm hy ht hn hi h
theorem zs11 {c x y : Operand} {v : Value} (h : VL Tryz.prog m n B w0 ops Q rest ((d, v) :: env) H) (hc : evo env c = some (.bool true) := by exact rfl) (hx : evo env x = some v := by exact rfl) (hn : Nat.ble (d + 1) n.k = true := by exact rfl) : VL Tryz.prog m n B w0 ops Q (⟨some d, .pick c x y, ty, pos, after, none⟩ :: rest) env H := VL_pick_true hc hx hn h
theorem zs12 {c x y : Operand} {v : Value} (h : VL Tryz.prog m n B w0 ops Q rest ((d, v) :: env) H) (hc : evo env c = some (.bool false) := by exact rfl) (hx : evo env y = some v := by exact rfl) (hn : Nat.ble (d + 1) n.k = true := by exact rfl) : VL Tryz.prog m n B w0 ops Q (⟨some d, .pick c x y, ty, pos, after, none⟩ :: rest) env H := VL_pick_false hc hx hn h
theorem zs13 {x : Operand} {i : Nat} {vs : Array Value} {v : Value} (h : VL Tryz.prog m n B w0 ops Q rest ((d, v) :: env) H) (hx : evo env x = some (.tuple vs) := by exact rfl) (hv : nth vs.toList i = some v := by exact rfl) (hn : Nat.ble (d + 1) n.k = true := by exact rfl) : VL Tryz.prog m n B w0 ops Q (⟨some d, .extract x i, ty, pos, after, none⟩ :: rest) env H := VL_extract hx hv hn h
theorem zs14 {tx : TypeId} (h : VL Tryz.prog m n B w0 ops Q rest ((d, .int .i64 s.size) :: env) H) (hx : evo env x = some (.string s) := by exact rfl) (ht : look T.st tx = some () := by exact rfl) (hn : Nat.ble (d + 1) n.k = true := by exact rfl) : VL Tryz.prog m n B w0 ops Q (⟨some d, .call ⟨.builtin .len, #[x], #[tx]⟩, ty, pos, after, none⟩ :: rest) env H := VL_slen T hx ht hn h
theorem zs15  (h1 : a = b → VL Tryz.prog m n B w0 ops Q rest ((d, .bool true) :: env) H) (h2 : a ≠ b → VL Tryz.prog m n B w0 ops Q rest ((d, .bool false) :: env) H) (hx : evo env x = some (.int k a) := by exact rfl) (hy : evo env y = some (.int k b) := by exact rfl) (hn : Nat.ble (d + 1) n.k = true := by exact rfl) : VL Tryz.prog m n B w0 ops Q (⟨some d, .binOp .eql xt x y yt, ty, pos, after, none⟩ :: rest) env H := VL_eql hx hy hn h1 h2
theorem zs16  (h1 : a ≠ b → VL Tryz.prog m n B w0 ops Q rest ((d, .bool true) :: env) H) (h2 : a = b → VL Tryz.prog m n B w0 ops Q rest ((d, .bool false) :: env) H) (hx : evo env x = some (.int k a) := by exact rfl) (hy : evo env y = some (.int k b) := by exact rfl) (hn : Nat.ble (d + 1) n.k = true := by exact rfl) : VL Tryz.prog m n B w0 ops Q (⟨some d, .binOp .neq xt x y yt, ty, pos, after, none⟩ :: rest) env H := VL_neq hx hy hn h1 h2
theorem zs17  (h1 : a < b → VL Tryz.prog m n B w0 ops Q rest ((d, .bool true) :: env) H) (h2 : b ≤ a → VL Tryz.prog m n B w0 ops Q rest ((d, .bool false) :: env) H) (hx : evo env x = some (.int k a) := by exact rfl) (hy : evo env y = some (.int k b) := by exact rfl) (hn : Nat.ble (d + 1) n.k = true := by exact rfl) : VL Tryz.prog m n B w0 ops Q (⟨some d, .binOp .lss xt x y yt, ty, pos, after, none⟩ :: rest) env H := VL_lss hx hy hn h1 h2
theorem zs18  (h1 : a ≤ b → VL Tryz.prog m n B w0 ops Q rest ((d, .bool true) :: env) H) (h2 : b < a → VL Tryz.prog m n B w0 ops Q rest ((d, .bool false) :: env) H) (hx : evo env x = some (.int k a) := by exact rfl) (hy : evo env y = some (.int k b) := by exact rfl) (hn : Nat.ble (d + 1) n.k = true := by exact rfl) : VL Tryz.prog m n B w0 ops Q (⟨some d, .binOp .leq xt x y yt, ty, pos, after, none⟩ :: rest) env H := VL_leq hx hy hn h1 h2
theorem zs19  (h1 : b < a → VL Tryz.prog m n B w0 ops Q rest ((d, .bool true) :: env) H) (h2 : a ≤ b → VL Tryz.prog m n B w0 ops Q rest ((d, .bool false) :: env) H) (hx : evo env x = some (.int k a) := by exact rfl) (hy : evo env y = some (.int k b) := by exact rfl) (hn : Nat.ble (d + 1) n.k = true := by exact rfl) : VL Tryz.prog m n B w0 ops Q (⟨some d, .binOp .gtr xt x y yt, ty, pos, after, none⟩ :: rest) env H := VL_gtr hx hy hn h1 h2
theorem zs20  (h1 : b ≤ a → VL Tryz.prog m n B w0 ops Q rest ((d, .bool true) :: env) H) (h2 : a < b → VL Tryz.prog m n B w0 ops Q rest ((d, .bool false) :: env) H) (hx : evo env x = some (.int k a) := by exact rfl) (hy : evo env y = some (.int k b) := by exact rfl) (hn : Nat.ble (d + 1) n.k = true := by exact rfl) : VL Tryz.prog m n B w0 ops Q (⟨some d, .binOp .geq xt x y yt, ty, pos, after, none⟩ :: rest) env H := VL_geq hx hy hn h1 h2
theorem zs25 {x y : Operand} {k : IntKind} {a b : Int} {tys : Array TypeId} (h1 : b < a → VL Tryz.prog m n B w0 ops Q rest ((d, .int k b) :: env) H) (h2 : a ≤ b → VL Tryz.prog m n B w0 ops Q rest ((d, .int k a) :: env) H) (hx : evo env x = some (.int k a) := by exact rfl) (hy : evo env y = some (.int k b) := by exact rfl) (hn : Nat.ble (d + 1) n.k = true := by exact rfl) : VL Tryz.prog m n B w0 ops Q (⟨some d, .call ⟨.builtin .min, #[x, y], tys⟩, ty, pos, after, none⟩ :: rest) env H := VL_min2 hx hy hn h1 h2
theorem zs30  (h : VL Tryz.prog m n B w0 ops Q rest ((d, .int .i64 (a + b)) :: env) H) (hx : evo env x = some (.int .i64 a) := by exact rfl) (hy : evo env y = some (.int .i64 b) := by exact rfl) (hn : Nat.ble (d + 1) n.k = true := by exact rfl) (hb : -9223372036854775808 ≤ a + b ∧ a + b ≤ 9223372036854775807 := by omega) : VL Tryz.prog m n B w0 ops Q (⟨some d, .binOp .add xt x y yt, ty, pos, after, none⟩ :: rest) env H := VL_add hx hy hn hb h
theorem zs31  (h : VL Tryz.prog m n B w0 ops Q rest ((d, .int .i64 (a - b)) :: env) H) (hx : evo env x = some (.int .i64 a) := by exact rfl) (hy : evo env y = some (.int .i64 b) := by exact rfl) (hn : Nat.ble (d + 1) n.k = true := by exact rfl) (hb : -9223372036854775808 ≤ a - b ∧ a - b ≤ 9223372036854775807 := by omega) : VL Tryz.prog m n B w0 ops Q (⟨some d, .binOp .sub xt x y yt, ty, pos, after, none⟩ :: rest) env H := VL_sub hx hy hn hb h
theorem zs32  (h : VL Tryz.prog m n B w0 ops Q rest ((d, .int .i64 (a * b)) :: env) H) (hx : evo env x = some (.int .i64 a) := by exact rfl) (hy : evo env y = some (.int .i64 b) := by exact rfl) (hn : Nat.ble (d + 1) n.k = true := by exact rfl) (hb : -9223372036854775808 ≤ a * b ∧ a * b ≤ 9223372036854775807 := by first | exact mul_bd (by omega) (by omega) (by omega) (by omega) | exact mul_bd' (by omega) (by omega) (by omega) (by omega) | omega) : VL Tryz.prog m n B w0 ops Q (⟨some d, .binOp .mul xt x y yt, ty, pos, after, none⟩ :: rest) env H := VL_mul hx hy hn hb h
theorem zs37  (h : VL Tryz.prog m n B w0 ops Q rest ((d, .int k (a % b)) :: env) H) (hx : evo env x = some (.int k a) := by exact rfl) (hy : evo env y = some (.int k b) := by exact rfl) (hn : Nat.ble (d + 1) n.k = true := by exact rfl) (hb : 0 ≤ a ∧ 1 ≤ b := by omega) : VL Tryz.prog m n B w0 ops Q (⟨some d, .binOp .rem xt x y yt, ty, pos, after, none⟩ :: rest) env H := VL_rem hx hy hn hb h
theorem zs38 {yk : IntKind} {D : Int} (h : VL Tryz.prog m n B w0 ops Q rest ((d, .int k (a / D)) :: env) H) (hx : evo env x = some (.int k a) := by exact rfl) (hn : Nat.ble (d + 1) n.k = true := by exact rfl) (hb : 0 ≤ b ∧ b ≤ k.bits := by (simp only [IntKind.bits]; omega)) (hD : (2 : Int) ^ b.toNat = D := by (simp only [Int.reduceToNat, Int.reducePow]; rfl)) : VL Tryz.prog m n B w0 ops Q (⟨some d, .binOp .shr xt x (.const (.int yk b)) yt, ty, pos, after, none⟩ :: rest) env H := VL_shr_c hx hn hb hD h
theorem zs44 {src dst : TypeId} {j : IntKind} (h : VL Tryz.prog m n B w0 ops Q rest ((d, .int .i64 a) :: env) H) (hx : evo env x = some (.int k a) := by exact rfl) (hs : look T.ik src = some j := by exact rfl) (ht : look T.ik dst = some .i64 := by exact rfl) (hn : Nat.ble (d + 1) n.k = true := by exact rfl) (hb : -9223372036854775808 ≤ a ∧ a ≤ 9223372036854775807 := by omega) : VL Tryz.prog m n B w0 ops Q (⟨some d, .convert src dst x, ty, pos, after, none⟩ :: rest) env H := VL_conv_id T hx hs ht hn hb h
theorem zs45 {src dst : TypeId} {j : IntKind} (h : VL Tryz.prog m n B w0 ops Q rest ((d, .int .u64 a) :: env) H) (hx : evo env x = some (.int k a) := by exact rfl) (hs : look T.ik src = some j := by exact rfl) (ht : look T.ik dst = some .u64 := by exact rfl) (hn : Nat.ble (d + 1) n.k = true := by exact rfl) (hb : 0 ≤ a ∧ a ≤ 18446744073709551615 := by omega) : VL Tryz.prog m n B w0 ops Q (⟨some d, .convert src dst x, ty, pos, after, none⟩ :: rest) env H := VL_conv_u64 T hx hs ht hn hb h
theorem zs47 {x : Operand} {xt : TypeId} (h : VL Tryz.prog m n B w0 ops Q rest ((d, .bool false) :: env) H) (hx : evo env x = some (.bool true) := by exact rfl) (hn : Nat.ble (d + 1) n.k = true := by exact rfl) : VL Tryz.prog m n B w0 ops Q (⟨some d, .unOp .not xt x, ty, pos, after, none⟩ :: rest) env H := VL_not_true hx hn h
theorem zs48 {x : Operand} {xt : TypeId} (h : VL Tryz.prog m n B w0 ops Q rest ((d, .bool true) :: env) H) (hx : evo env x = some (.bool false) := by exact rfl) (hn : Nat.ble (d + 1) n.k = true := by exact rfl) : VL Tryz.prog m n B w0 ops Q (⟨some d, .unOp .not xt x, ty, pos, after, none⟩ :: rest) env H := VL_not_false hx hn h
theorem zs49 {t tt : Nat} {x y : Operand} {A : Option Addr} {k cap : Nat} {xs : List Value} {g mm c : Nat} {cs : Array Value} {fr : Nat × Nat} {e size bytes : Nat} {K : Option Addr → Nat → List HP} (h : ∀ A' cap', VL Tryz.prog none n B w0 ops Q rest ((d, .slice A' (k + mm) cap') :: env) (K A' cap')) (hx : evo env x = some (.slice A k cap) := by exact rfl) (ht : look T.sl t = some (e, size, bytes) := by exact rfl) (hy : evo env y = some (.slice (some ⟨g, 0, none⟩) mm c) := by exact rfl) (hb : blk g (.cells cs tt fr) ∈ H := by ((focus repeat (first | with_reducible exact List.mem_cons_self | with_reducible apply List.mem_cons_of_mem | assumption)); done)) (hk : cs.size = mm * size := by exact rfl) (h1 : allOne cs.toList = true := by exact rfl) (hn : Nat.ble (d + 1) n.k = true := by exact rfl) (hu : ∀ A' cap', Upd (sl e size A k cap xs) (sl e size A' (k + mm) cap' (xs ++ cs.toList)) H (K A' cap') := by ((intro _ _; (repeat (first | with_reducible exact Upd.here _ | with_reducible apply Upd.there))); done)) (hby : (k + mm) * bytes ≤ 140737488355328 := by omega) : VL Tryz.prog none n B w0 ops Q (⟨some d, .call ⟨.builtin .append, #[x, y], #[t, t]⟩, ty, pos, after, none⟩ :: rest) env H := VL_append T hx ht hy hb hk h1 hn hu hby h
theorem zs50 {t g i : Nat} {cs cs' : List Value} {tt : TypeId} {v : Value} {x y : Operand} {K : List HP} (h : VL Tryz.prog none n B w0 ops Q rest env K) (hx : evo env x = some (.pointer (some ⟨g, i, none⟩)) := by exact rfl) (hy : evo env y = some v := by exact rfl) (h1 : v.oneCell' = true := by exact rfl) (hu : Upd (blk g (.cells cs.toArray tt (0, 0))) (blk g (.cells cs'.toArray tt (0, 0))) H K := by ((repeat (first | with_reducible exact Upd.here _ | with_reducible apply Upd.there)); done)) (hs : SetAt cs i v cs' := by ((repeat (first | exact setat_here | apply setat_there)) ; done)) (ht : look T.sc t = some () := by exact rfl) : VL Tryz.prog none n B w0 ops Q (⟨none, .store t x y, ty, pos, after, none⟩ :: rest) env H := VL_store T hx hy h1 hu hs ht h
theorem zs51 {t g i k : Nat} {cs vs cs' : List Value} {tt : TypeId} {x y : Operand} {K : List HP} (h : VL Tryz.prog none n B w0 ops Q rest env K) (hx : evo env x = some (.pointer (some ⟨g, i, none⟩)) := by exact rfl) (hy : evo env y = some (.agg vs.toArray) := by exact rfl) (h1 : allOne vs = true := by exact rfl) (hu : Upd (blk g (.cells cs.toArray tt (0, 0))) (blk g (.cells cs'.toArray tt (0, 0))) H K := by ((repeat (first | with_reducible exact Upd.here _ | with_reducible apply Upd.there)); done)) (hs : PutAt cs i vs cs' := by ((repeat (first | exact PutAt.nil | (apply PutAt.cons; (repeat (first | exact setat_here | apply setat_there)) ))) ; done)) (ht : look T.ag t = some k := by exact rfl) (hk : vs.length = k := by exact rfl) : VL Tryz.prog none n B w0 ops Q (⟨none, .store t x y, ty, pos, after, none⟩ :: rest) env H := VL_store_agg T hx hy h1 hu hs ht hk h
theorem zs52 {t : TypeId} {x : Operand} {cs : Array Value} (h : ∀ g, VL Tryz.prog none n B w0 ops Q rest ((d, .pointer (some ⟨g, 0, none⟩)) :: env) (blk g (.cells cs t (0, 0)) :: H)) (hx : evo env x = some (.agg cs) := by exact rfl) (hn : Nat.ble (d + 1) n.k = true := by exact rfl) : VL Tryz.prog none n B w0 ops Q (⟨some d, .box t x, ty, pos, after, none⟩ :: rest) env H := VL_box_agg hx hn h
theorem zs53 {t : TypeId} {x : Operand} {v : Value} (h : ∀ g, VL Tryz.prog none n B w0 ops Q rest ((d, .pointer (some ⟨g, 0, none⟩)) :: env) (blk g (.cells #[v] t (0, 0)) :: H)) (hx : evo env x = some v := by exact rfl) (h1 : v.cells = #[v] := by exact rfl) (hn : Nat.ble (d + 1) n.k = true := by exact rfl) : VL Tryz.prog none n B w0 ops Q (⟨some d, .box t x, ty, pos, after, none⟩ :: rest) env H := VL_box_one hx h1 hn h
theorem zs54 {t : TypeId} {z : Value} {cs : Array Value} (h : ∀ g, VL Tryz.prog none n B w0 ops Q rest ((d, .pointer (some ⟨g, 0, none⟩)) :: env) (blk g (.cells cs t (0, 0)) :: H)) (hz : look T2.zt t = some z := by exact rfl) (hc : z.cells = cs := by exact rfl) (hn : Nat.ble (d + 1) n.k = true := by exact rfl) : VL Tryz.prog none n B w0 ops Q (⟨some d, .alloc t, ty, pos, after, none⟩ :: rest) env H := VL_allocT T2 hz hc hn h
theorem zs55 {t : TypeId} {parts : List (Nat × Operand)} {ps : List (Nat × Value)} {zc : Array Value} {pl : List (Nat × Nat)} {cs : List Value} (h : VL Tryz.prog m n B w0 ops Q rest ((d, .agg cs.toArray) :: env) H) (hp : partsV env parts = some ps := by exact rfl) (hz : look T2.zt t = some (.agg zc) := by exact rfl) (hl : look T2.bt t = some pl := by exact rfl) (hf : fillL (pl[·]?) zc.toList ps = some cs := by exact rfl) (hn : Nat.ble (d + 1) n.k = true := by exact rfl) : VL Tryz.prog m n B w0 ops Q (⟨some d, .build t parts.toArray, ty, pos, after, none⟩ :: rest) env H := VL_buildT T2 hp hz hl hf hn h
theorem zs56 {t e len size bytes : Nat} {parts : List (Nat × Operand)} {ps : List (Nat × Value)} {z : Value} {zl cs : List Value} (h : ∀ g, VL Tryz.prog none n B w0 ops Q rest ((d, .slice (some ⟨g, 0, none⟩) len len) :: env) (blk g (.cells cs.toArray e (0, 0)) :: H)) (ht : look T.sl t = some (e, size, bytes) := by exact rfl) (hp : partsV env parts = some ps := by exact rfl) (hz : look T2.zt e = some z := by exact rfl) (hzc : z.cells = zl.toArray := by exact rfl) (hf : fillL (fun i => some (i * size, size)) (repZ len zl) ps = some cs := by exact rfl) (hn : Nat.ble (d + 1) n.k = true := by exact rfl) (hl : (Nat.blt 0 (len * size) && Nat.beq zl.length size && Nat.ble (len * size) 1000000) = true := by exact rfl) : VL Tryz.prog none n B w0 ops Q (⟨some d, .buildSlice t len parts.toArray, ty, pos, after, none⟩ :: rest) env H := VL_buildSliceT T T2 ht hp hz hzc hf hn hl h
theorem zs57 {α : Type} {f : α → List Value} {l : List α} {t : Nat} {x y : Operand} {A : Option Addr} {cap : Nat} {e size bytes : Nat} {ki : IntKind} {i : Int} (h : VL Tryz.prog m n B w0 ops Q rest ((d, sptr A (i.toNat * size)) :: env) H) (hx : evo env x = some (.slice A l.length cap) := by exact rfl) (hy : evo env y = some (.int ki i) := by exact rfl) (hr : Rd B w0 H A (l.flatMap f) := by ((first | (focus (repeat (first | assumption | apply Rd.cons)); done) | exact Rd.sl (by (focus repeat (first | with_reducible exact List.mem_cons_self | with_reducible apply List.mem_cons_of_mem | assumption)))); done)) (ht : look T.sl t = some (e, size, bytes) := by exact rfl) (hq : ∀ a, (f a).length = size := by exact fun _ => rfl) (h0 : Nat.blt 0 size = true := by exact rfl) (hn : Nat.ble (d + 1) n.k = true := by exact rfl) (hi : 0 ≤ i ∧ i < l.length := by omega) : VL Tryz.prog m n B w0 ops Q (⟨some d, .indexAddr t x y, ty, pos, after, none⟩ :: rest) env H := VL_index_rd T hx hy hr ht hq h0 hn hi h
theorem zs58 {α : Type} {f : α → List Value} {l : List α} {s fl k i q : Nat} {x : Operand} {A : Option Addr} (h : VL Tryz.prog m n B w0 ops Q rest ((d, sptr A (i * q + k)) :: env) H) (hx : evo env x = some (sptr A (i * q)) := by exact rfl) (hr : Rd B w0 H A (l.flatMap f) := by ((first | (focus (repeat (first | assumption | apply Rd.cons)); done) | exact Rd.sl (by (focus repeat (first | with_reducible exact List.mem_cons_self | with_reducible apply List.mem_cons_of_mem | assumption)))); done)) (hq : ∀ a, (f a).length = q := by exact fun _ => rfl) (h0 : Nat.blt 0 q = true := by exact rfl) (hf : look2 T.fo s fl = some k := by exact rfl) (hn : Nat.ble (d + 1) n.k = true := by exact rfl) (hi : i < l.length := by omega) : VL Tryz.prog m n B w0 ops Q (⟨some d, .fieldAddr s x fl, ty, pos, after, none⟩ :: rest) env H := VL_field_row T hx hr hq h0 hf hn hi h
theorem zs59 {α : Type} {f : α → List Value} {l : List α} {t i q o : Nat} {b : α} {x : Operand} {A : Option Addr} {v : Value} (h : VL Tryz.prog m n B w0 ops Q rest ((d, v) :: env) H) (hx : evo env x = some (sptr A (i * q + o)) := by exact rfl) (hr : Rd B w0 H A (l.flatMap f) := by ((first | (focus (repeat (first | assumption | apply Rd.cons)); done) | exact Rd.sl (by (focus repeat (first | with_reducible exact List.mem_cons_self | with_reducible apply List.mem_cons_of_mem | assumption)))); done)) (hb : l[i]? = some b := by assumption) (hq : ∀ a, (f a).length = q := by exact fun _ => rfl) (ho : Nat.blt o q = true := by exact rfl) (hv : nth (f b) o = some v := by exact rfl) (ht : look T.sc t = some () := by exact rfl) (hn : Nat.ble (d + 1) n.k = true := by exact rfl) : VL Tryz.prog m n B w0 ops Q (⟨some d, .load t x, ty, pos, after, none⟩ :: rest) env H := VL_load_rd T hx hr hb hq ho hv ht hn h
theorem zs60 {α : Type} {f : α → List Value} {l : List α} {t i q : Nat} {b : α} {x : Operand} {A : Option Addr} {v : Value} (h : VL Tryz.prog m n B w0 ops Q rest ((d, v) :: env) H) (hx : evo env x = some (sptr A (i * q)) := by exact rfl) (hr : Rd B w0 H A (l.flatMap f) := by ((first | (focus (repeat (first | assumption | apply Rd.cons)); done) | exact Rd.sl (by (focus repeat (first | with_reducible exact List.mem_cons_self | with_reducible apply List.mem_cons_of_mem | assumption)))); done)) (hb : l[i]? = some b := by assumption) (hq : ∀ a, (f a).length = q := by exact fun _ => rfl) (ho : Nat.blt 0 q = true := by exact rfl) (hv : nth (f b) 0 = some v := by exact rfl) (ht : look T.sc t = some () := by exact rfl) (hn : Nat.ble (d + 1) n.k = true := by exact rfl) : VL Tryz.prog m n B w0 ops Q (⟨some d, .load t x, ty, pos, after, none⟩ :: rest) env H := VL_load_rd0 T hx hr hb hq ho hv ht hn h
theorem zs61 {α : Type} {f : α → List Value} {l : List α} {t i q : Nat} {b : α} {x : Operand} {A : Option Addr} (h : VL Tryz.prog m n B w0 ops Q rest ((d, .agg (f b).toArray) :: env) H) (hx : evo env x = some (sptr A (i * q)) := by exact rfl) (hr : Rd B w0 H A (l.flatMap f) := by ((first | (focus (repeat (first | assumption | apply Rd.cons)); done) | exact Rd.sl (by (focus repeat (first | with_reducible exact List.mem_cons_self | with_reducible apply List.mem_cons_of_mem | assumption)))); done)) (hb : l[i]? = some b := by assumption) (hq : ∀ a, (f a).length = q := by exact fun _ => rfl) (ho : Nat.blt 0 q = true := by exact rfl) (ht : look T.ag t = some q := by exact rfl) (hn : Nat.ble (d + 1) n.k = true := by exact rfl) : VL Tryz.prog m n B w0 ops Q (⟨some d, .load t x, ty, pos, after, none⟩ :: rest) env H := VL_load_agg_rd T hx hr hb hq ho ht hn h
theorem zs62 {x y : Operand} {k : IntKind} {a b : Int} {tys : Array TypeId} (h1 : a < b → VL Tryz.prog m n B w0 ops Q rest ((d, .int k b) :: env) H) (h2 : b ≤ a → VL Tryz.prog m n B w0 ops Q rest ((d, .int k a) :: env) H) (hx : evo env x = some (.int k a) := by exact rfl) (hy : evo env y = some (.int k b) := by exact rfl) (hn : Nat.ble (d + 1) n.k = true := by exact rfl) : VL Tryz.prog m n B w0 ops Q (⟨some d, .call ⟨.builtin .max, #[x, y], tys⟩, ty, pos, after, none⟩ :: rest) env H := VL_max2 hx hy hn h1 h2
theorem zs65  (h : VQ n B w0 Q .normal env H)  : VL Tryz.prog none n B w0 ops Q [] env H := VL_nil h
theorem zs66  (h : VQ n B w0 Q .normal env H)  : VL Tryz.prog (some none) n B w0 ops Q [] env H := VL_nilq h
theorem zs68 {y : Code} (h : VC Tryz.prog n B w0 y Q env H)  : VQ n B w0 (Exit.then (wpR Tryz.prog n.r y Q) Q) .normal env H := VQ_then h
theorem zs69 {x y : Code} (h : VC Tryz.prog n B w0 x (Exit.then (wpR Tryz.prog n.r y Q) Q) env H)  : VC Tryz.prog n B w0 (.seq x y) Q env H := VC_seq h
theorem zs70 {id : Nat} {l : List Oper} (h : VL Tryz.prog none n B w0 l.toArray Q l env H)  : VC Tryz.prog n B w0 (.region id l.toArray false) Q env H := VC_region h
theorem zs71 {c : Operand} {x y : Code} (h : VC Tryz.prog n B w0 x Q env H) (hc : evo env c = some (.bool true) := by exact rfl) : VC Tryz.prog n B w0 (.cond c x y) Q env H := VC_cond_true hc h
theorem zs72 {c : Operand} {x y : Code} (h : VC Tryz.prog n B w0 y Q env H) (hc : evo env c = some (.bool false) := by exact rfl) : VC Tryz.prog n B w0 (.cond c x y) Q env H := VC_cond_false hc h
theorem zs73 {id : Nat} {c : Code} (h : VC Tryz.prog n B w0 c (Exit.inBlock id Q) env H)  : VC Tryz.prog n B w0 (.block id c) Q env H := VC_block h
theorem zs74  (h : VQ n B w0 Q .ret env H)  : VC Tryz.prog n B w0 .ret Q env H := VC_ret h
theorem zs75 {id : Nat} (h : VQ n B w0 Q (.exit id) env H)  : VC Tryz.prog n B w0 (.exit id) Q env H := VC_exit h
theorem zs76  (h : VQ n B w0 Q .normal env H)  : VC Tryz.prog n B w0 .skip Q env H := VC_skip h
theorem zs77 {K : Act → World → Prop} (h : VQ n B w0 Q .ret env H)  : VQ n B w0 (Exit.then K Q) .ret env H := VQ_then_ret h
theorem zs78 {id : Nat} (h : VQ n B w0 Q .ret env H)  : VQ n B w0 (Exit.inBlock id Q) .ret env H := VQ_block_ret h
theorem zs79 {id : Nat} (h : VQ n B w0 Q .normal env H)  : VQ n B w0 (Exit.inBlock id Q) .normal env H := VQ_block_normal h
theorem zs80 {K : Act → World → Prop} {id : Nat} (h : VQ n B w0 Q (.exit id) env H)  : VQ n B w0 (Exit.then K Q) (.exit id) env H := VQ_then_exit h
theorem zs81 {id : Nat} (h : VQ n B w0 Q .normal env H)  : VQ n B w0 (Exit.inBlock id Q) (.exit id) env H := VQ_block_exit h
theorem zs83 {id : Nat} {l : List Oper} (h : VL Tryz.prog (some none) n B w0 l.toArray Q l env H) (hq : (l.all fun o => !eff o) = true := by exact rfl) (hm : Tryz.prog.follows .mixedOrders = true := by kernel_rfl) (hB : Region.lexB .any l.toArray = true := by kernel_rfl) : VC Tryz.prog n B w0 (.region id l.toArray true) Q env H := VC_drawp hq hm hB h
theorem zs84 {id : Nat} {l : List Oper} (h : VL Tryz.prog (some none) n B w0 l.toArray Q l env H) (hq : (l.all fun o => !effW o) = true := by exact rfl) (hm : Tryz.prog.follows .mixedOrders = true := by kernel_rfl) (hB : Region.lexB .any l.toArray = true := by kernel_rfl) : VC Tryz.prog n B w0 (.region id l.toArray true) Q env H := VC_drawc hq hm hB h
theorem zs87 {o : Oper} {F HF : List HP} (h : VL Tryz.prog none n B w0 ops (HeldQ Tryz.prog B w0 ops Q H rest) [o] env HF) (he : eff o = true := by exact rfl) (hg : o.guard = none := by exact rfl) (happ : App H F HF := by ((repeat (first | with_reducible exact app_nil | with_reducible apply app_cons | exact app_niln _)); done)) : VL Tryz.prog (some (some F)) n B w0 ops Q (o :: rest) env H := VL_heff he hg happ h
theorem zs90 {l : List Oper} {F : List HP} {i : Nat} {t : OT} {o : Oper} (h : VL Tryz.prog (some (some F)) n B w0 ops (TreeQ Tryz.prog B w0 ops l Q H t) [o] env H) (ho : nthO l i = o := by (simp only [nthO]; rfl)) : VT Tryz.prog n B w0 ops l Q (.n1 i t) env H F := VT_n1 ho h
theorem zs91 {l : List Oper} {F : List HP} {i j : Nat} {t u : OT} {o o' : Oper} (h : VL Tryz.prog (some (some F)) n B w0 ops (TreeQ Tryz.prog B w0 ops l Q H t) [o] env H) (h' : VL Tryz.prog (some (some F)) n B w0 ops (TreeQ Tryz.prog B w0 ops l Q H u) [o'] env H) (ho : nthO l i = o := by (simp only [nthO]; rfl)) (ho' : nthO l j = o' := by (simp only [nthO]; rfl)) : VT Tryz.prog n B w0 ops l Q (.n2 i t j u) env H F := VT_n2 ho ho' h h'
theorem zs93 {l : List Oper} (h : VL Tryz.prog none n B w0 ops Q l env H)  : VQ n B w0 (TailQ Tryz.prog ops Q l) .normal env H := VQ_tailq h
theorem zs94  (h : VQ n B w0 Q .normal env H)  : VQ n B w0 (Only Q) .normal env H := VQ_only h
theorem zg1 {m : Mode} {d : Nat} {op : Op} {ty : TypeId} {pos : String} {after : Array Edge} {j : Nat} {b : Bool} (h : VL Tryz.prog m n B w0 ops Q (⟨some d, op, ty, pos, after, some (j, b)⟩ :: rest) env H) : VL Tryz.prog m n B w0 ops Q (⟨some d, op, ty, pos, after, some (j, b)⟩ :: rest) env H := h
theorem zg2 {s f : Nat} {x : Operand} (h : VL Tryz.prog m n B w0 ops Q (⟨some d, .fieldAddr s x f, ty, pos, after, none⟩ :: rest) env H) : VL Tryz.prog m n B w0 ops Q (⟨some d, .fieldAddr s x f, ty, pos, after, none⟩ :: rest) env H := h
theorem zg3 {t : Nat} {x : Operand} (h : VL Tryz.prog m n B w0 ops Q (⟨some d, .load t x, ty, pos, after, none⟩ :: rest) env H) : VL Tryz.prog m n B w0 ops Q (⟨some d, .load t x, ty, pos, after, none⟩ :: rest) env H := h
theorem zg4 {tx : Nat} {x : Operand} (h : VL Tryz.prog m n B w0 ops Q (⟨some d, .call ⟨.builtin .len, #[x], #[tx]⟩, ty, pos, after, none⟩ :: rest) env H) : VL Tryz.prog m n B w0 ops Q (⟨some d, .call ⟨.builtin .len, #[x], #[tx]⟩, ty, pos, after, none⟩ :: rest) env H := h
theorem zg5 {t : Nat} {x y : Operand} (h : VL Tryz.prog m n B w0 ops Q (⟨some d, .indexAddr t x y, ty, pos, after, none⟩ :: rest) env H) : VL Tryz.prog m n B w0 ops Q (⟨some d, .indexAddr t x y, ty, pos, after, none⟩ :: rest) env H := h
theorem zg6 {c x y : Operand} (h : VL Tryz.prog m n B w0 ops Q (⟨some d, .pick c x y, ty, pos, after, none⟩ :: rest) env H) : VL Tryz.prog m n B w0 ops Q (⟨some d, .pick c x y, ty, pos, after, none⟩ :: rest) env H := h
theorem zg7  (h : VL Tryz.prog m n B w0 ops Q (⟨some d, .binOp .eql xt x y yt, ty, pos, after, none⟩ :: rest) env H) : VL Tryz.prog m n B w0 ops Q (⟨some d, .binOp .eql xt x y yt, ty, pos, after, none⟩ :: rest) env H := h
theorem zg8  (h : VL Tryz.prog m n B w0 ops Q (⟨some d, .binOp .neq xt x y yt, ty, pos, after, none⟩ :: rest) env H) : VL Tryz.prog m n B w0 ops Q (⟨some d, .binOp .neq xt x y yt, ty, pos, after, none⟩ :: rest) env H := h
theorem zg13  (h : VL Tryz.prog m n B w0 ops Q (⟨some d, .binOp .add xt x y yt, ty, pos, after, none⟩ :: rest) env H) : VL Tryz.prog m n B w0 ops Q (⟨some d, .binOp .add xt x y yt, ty, pos, after, none⟩ :: rest) env H := h
theorem zg14  (h : VL Tryz.prog m n B w0 ops Q (⟨some d, .binOp .sub xt x y yt, ty, pos, after, none⟩ :: rest) env H) : VL Tryz.prog m n B w0 ops Q (⟨some d, .binOp .sub xt x y yt, ty, pos, after, none⟩ :: rest) env H := h
theorem zg15  (h : VL Tryz.prog m n B w0 ops Q (⟨some d, .binOp .mul xt x y yt, ty, pos, after, none⟩ :: rest) env H) : VL Tryz.prog m n B w0 ops Q (⟨some d, .binOp .mul xt x y yt, ty, pos, after, none⟩ :: rest) env H := h
theorem zg17  (h : VL Tryz.prog m n B w0 ops Q (⟨some d, .binOp .rem xt x y yt, ty, pos, after, none⟩ :: rest) env H) : VL Tryz.prog m n B w0 ops Q (⟨some d, .binOp .rem xt x y yt, ty, pos, after, none⟩ :: rest) env H := h
theorem zg18  (h : VL Tryz.prog m n B w0 ops Q (⟨some d, .binOp .shr xt x y yt, ty, pos, after, none⟩ :: rest) env H) : VL Tryz.prog m n B w0 ops Q (⟨some d, .binOp .shr xt x y yt, ty, pos, after, none⟩ :: rest) env H := h
theorem zg19 {src dst : TypeId} (h : VL Tryz.prog m n B w0 ops Q (⟨some d, .convert src dst x, ty, pos, after, none⟩ :: rest) env H) : VL Tryz.prog m n B w0 ops Q (⟨some d, .convert src dst x, ty, pos, after, none⟩ :: rest) env H := h
theorem zg20 {x : Operand} {xt : TypeId} (h : VL Tryz.prog m n B w0 ops Q (⟨some d, .unOp .not xt x, ty, pos, after, none⟩ :: rest) env H) : VL Tryz.prog m n B w0 ops Q (⟨some d, .unOp .not xt x, ty, pos, after, none⟩ :: rest) env H := h
theorem zg21 {t : Nat} {x y : Operand} (h : VL Tryz.prog m n B w0 ops Q (⟨some d, .call ⟨.builtin .append, #[x, y], #[t, t]⟩, ty, pos, after, none⟩ :: rest) env H) : VL Tryz.prog m n B w0 ops Q (⟨some d, .call ⟨.builtin .append, #[x, y], #[t, t]⟩, ty, pos, after, none⟩ :: rest) env H := h
theorem zg22 {t : Nat} {x y : Operand} (h : VL Tryz.prog m n B w0 ops Q (⟨none, .store t x y, ty, pos, after, none⟩ :: rest) env H) : VL Tryz.prog m n B w0 ops Q (⟨none, .store t x y, ty, pos, after, none⟩ :: rest) env H := h
theorem zg23 {t : TypeId} {x : Operand} (h : VL Tryz.prog m n B w0 ops Q (⟨some d, .box t x, ty, pos, after, none⟩ :: rest) env H) : VL Tryz.prog m n B w0 ops Q (⟨some d, .box t x, ty, pos, after, none⟩ :: rest) env H := h
theorem zg24 {t : TypeId} (h : VL Tryz.prog m n B w0 ops Q (⟨some d, .alloc t, ty, pos, after, none⟩ :: rest) env H) : VL Tryz.prog m n B w0 ops Q (⟨some d, .alloc t, ty, pos, after, none⟩ :: rest) env H := h
theorem zg25 {t : TypeId} {parts : List (Nat × Operand)} (h : VL Tryz.prog m n B w0 ops Q (⟨some d, .build t parts.toArray, ty, pos, after, none⟩ :: rest) env H) : VL Tryz.prog m n B w0 ops Q (⟨some d, .build t parts.toArray, ty, pos, after, none⟩ :: rest) env H := h
theorem zg26 {t len : Nat} {parts : List (Nat × Operand)} (h : VL Tryz.prog m n B w0 ops Q (⟨some d, .buildSlice t len parts.toArray, ty, pos, after, none⟩ :: rest) env H) : VL Tryz.prog m n B w0 ops Q (⟨some d, .buildSlice t len parts.toArray, ty, pos, after, none⟩ :: rest) env H := h
theorem zg27 {c : Operand} {x y : Code} (h : VC Tryz.prog n B w0 (.cond c x y) Q env H) : VC Tryz.prog n B w0 (.cond c x y) Q env H := h
theorem zg28 {id : Nat} {l : List Oper} (h : VC Tryz.prog n B w0 (.region id l.toArray true) Q env H) : VC Tryz.prog n B w0 (.region id l.toArray true) Q env H := h
theorem zg29 {fn : Fn} {caps : List Operand} (h : VL Tryz.prog m n B w0 ops Q (⟨some d, .makeFunc fn #[] caps.toArray, ty, pos, after, none⟩ :: rest) env H) : VL Tryz.prog m n B w0 ops Q (⟨some d, .makeFunc fn #[] caps.toArray, ty, pos, after, none⟩ :: rest) env H := h
end
end Go.Eng

/- Walks: networks in memory; comparing, and looking for an element. -/
namespace Go.Proofs.YtmalhidldgfeoaaGreatDoor
open Go.RowKit Go.Eng Go.Nw

structure RowM where
  A : Option Addr
  cap : Nat
  xs : List Int
structure NetM where
  nodes : Int
  pA : Option Addr
  pcap : Nat
  rows : List RowM
  noise : Int
  thr : Int
  lA : Option Addr
  lcap : Nat
  links : List Lk
  mA : Option Addr
  mcap : Nat
  margin : List Int
def NetM.net (n : NetM) : Net := ⟨n.nodes, n.rows.map (·.xs), n.noise, n.thr, n.links, n.margin⟩
def NetM.val (n : NetM) : Value := .agg #[.int .i64 n.nodes, .slice n.pA n.rows.length n.pcap, .int .i64 n.noise, .int .i64 n.thr, .slice n.lA n.links.length n.lcap, .slice n.mA n.margin.length n.mcap]
def rowF (r : RowM) : List Value := [.slice r.A r.xs.length r.cap]
def numF (z : Int) : List Value := [.int .i64 z]
def lkF (l : Lk) : List Value := [.int .i64 l.1, .int .i64 l.2.1, .int .i64 l.2.2]
def lkV (l : Lk) : Value := .agg #[.int .i64 l.1, .int .i64 l.2.1, .int .i64 l.2.2]

/-- The network's rows can be read. -/
structure NetM.In (B : Nat) (w0 : World) (H : List HP) (n : NetM) : Prop where
  pw : Rd B w0 H n.pA (n.rows.flatMap rowF)
  rw_ : ∀ r ∈ n.rows, Rd B w0 H r.A (r.xs.flatMap numF)
  lk : Rd B w0 H n.lA (n.links.flatMap lkF)
  mg : Rd B w0 H n.mA (n.margin.flatMap numF)
  s1 : n.rows.length ≤ 9223372036854775807
  s2 : ∀ r ∈ n.rows, r.xs.length ≤ 9223372036854775807
  s3 : n.links.length ≤ 9223372036854775807
  s4 : n.margin.length ≤ 9223372036854775807
theorem NetM.In.cons {B : Nat} {w0 : World} {H : List HP} {n : NetM} {X : HP} (h : n.In B w0 H) : n.In B w0 (X :: H) :=
  ⟨h.pw.cons, fun r hr => (h.rw_ r hr).cons, h.lk.cons, h.mg.cons, h.s1, h.s2, h.s3, h.s4⟩

theorem indexFuncInts {α : Type} (val : α → Value) (p : α → Bool) (l : List α) (f : Nat) (cs : List Value) (hen : ∀ xs w, (callFunc f xs).run Tryz.prog w = .ok (.enter f xs) w) (hlen : l.length ≤ 9223372036854775807) {A : Option Addr} {cap B : Nat} {w0 : World} {H : List HP} {w : World} (hr : Rd B w0 H A (l.flatMap fun a => [val a]))
    (hp : ∀ a ∈ l, ∀ w, St B w0 H w → Calls Tryz.prog f ([val a] ++ cs).toArray w (Post B w0 fun v K => v = .bool (p a) ∧ K = H)) (hw : St B w0 H w) :
    Calls Tryz.prog 228 [.slice A l.length cap, .func (.func f) #[] cs.toArray].toArray w (Post B w0 fun v K => v = .int .i64 (idxFrom p l 0) ∧ K = H) := by
  refine Calls_of_VC Tryz.func228 Tryz.ntmps228 rfl rfl hw ?_
  repeat' (first | apply (zs1 ?_) | apply (zs2 ?_) | (apply zg4; refine zs9 ?_) | apply (zs65 ?_) | apply (zs68 ?_) | apply (zs69 ?_) | apply (zs70 ?_) | apply (zs73 ?_) | fail)
  refine VC_loop1 (fun (k : Nat) => [(8, .int .i64 k), (7, .int .i64 l.length), (0, .slice A l.length cap), (1, .func (.func f) #[] cs.toArray)]) (fun _ => H) (fun k => k ≤ l.length ∧ idxFrom p l 0 = idxFrom p (l.drop k) k) (fun k => l.length - k) 0 ⟨Nat.zero_le _, by simp⟩ ?_ (fun w hw => hw) ?_
  · (repeat (first | exact sub_nil _ | (apply sub_cons; first | exact rfl | exact congrArg (fun z : Int => some (Value.int .i64 z)) (by omega))))
  rintro k ⟨hk, hi⟩ K hK
  by_cases hlt : k < l.length
  · obtain ⟨a, ha⟩ : ∃ a, l[k]? = some a := ⟨_, List.getElem?_eq_getElem hlt⟩
    have hpa := hp a (List.mem_of_getElem? ha)
    rw [idx_drop p l ha] at hi
    repeat' (first | ((first | apply VL_callvt (cs := cs)); exact rfl; exact hen; (repeat (first | exact args_nil | (apply args_cons; exact rfl))); exact rfl; exact fun _ hw => hpa _ hw) | apply (zs1 ?_) | apply (zs2 ?_) | (apply zg3; refine zs60 ?_) | (apply zg5; refine zs57 ?_) | (apply (zs17 ?_ ?_) <;> intro _ <;> try (exfalso; omega)) | apply (zs65 ?_) | apply (zs68 ?_) | apply (zs69 ?_) | apply (zs70 ?_) | (apply zg27; refine zs71 ?_) | apply (zs73 ?_) | apply (zs76 ?_) | fail)
    cases hpv : p a
    · rw [hpv] at hi
      repeat' (first | apply (zs1 ?_) | (apply zg13; refine zs30 ?_) | apply (zs65 ?_) | apply (zs68 ?_) | apply (zs70 ?_) | (apply zg27; refine zs72 ?_) | apply (zs76 ?_) | apply (zs79 ?_) | fail)
      apply hK (k + 1)
      · exact ⟨by omega, hi⟩
      · omega
      · (repeat (first | exact sub_nil _ | (apply sub_cons; first | exact rfl | exact congrArg (fun z : Int => some (Value.int .i64 z)) (by omega))))
      · exact fun w hw => hw
    · rw [hpv] at hi
      repeat' (first | apply (zs1 ?_) | apply (zs2 ?_) | apply (zs65 ?_) | apply (zs68 ?_) | apply (zs69 ?_) | apply (zs70 ?_) | (apply zg27; refine zs71 ?_) | apply (zs74 ?_) | apply (zs77 ?_) | apply (zs78 ?_) | fail)
      apply VQ_ret1; exact rfl; exact rfl
      exact ⟨by rw [hi]; rfl, rfl⟩
  · repeat' (first | apply (zs2 ?_) | (apply (zs17 ?_ ?_) <;> intro _ <;> try (exfalso; omega)) | apply (zs65 ?_) | apply (zs68 ?_) | apply (zs69 ?_) | apply (zs70 ?_) | (apply zg27; refine zs72 ?_) | apply (zs74 ?_) | apply (zs75 ?_) | apply (zs80 ?_) | apply (zs81 ?_) | fail)
    apply VQ_ret1; exact rfl; exact rfl
    rw [hi, List.drop_eq_nil_of_le (by omega)]
    exact ⟨rfl, rfl⟩
theorem containsFuncInts {α : Type} (val : α → Value) (p : α → Bool) (l : List α) (f : Nat) (cs : List Value) (hen : ∀ xs w, (callFunc f xs).run Tryz.prog w = .ok (.enter f xs) w) (hlen : l.length ≤ 9223372036854775807) {A : Option Addr} {cap B : Nat} {w0 : World} {H : List HP} {w : World} (hr : Rd B w0 H A (l.flatMap fun a => [val a]))
    (hp : ∀ a ∈ l, ∀ w, St B w0 H w → Calls Tryz.prog f ([val a] ++ cs).toArray w (Post B w0 fun v K => v = .bool (p a) ∧ K = H)) (hw : St B w0 H w) :
    Calls Tryz.prog 164 [.slice A l.length cap, .func (.func f) #[] cs.toArray].toArray w (Post B w0 fun v K => v = .bool (l.any p) ∧ K = H) := by
  refine Calls_of_VC Tryz.func164 Tryz.ntmps164 rfl rfl hw ?_
  have hia := idx_any p l 0 (by omega)
  repeat' (first | ((first | apply VL_callt en228 | apply VL_callq en228); (repeat (first | exact args_nil | (apply args_cons; exact rfl))); exact rfl; exact fun _ hw => (indexFuncInts val p l f cs hen hlen hr hp hw)) | apply (zs1 ?_) | apply (zs2 ?_) | (apply (zs20 ?_ ?_) <;> intro _ <;> try (exfalso; omega)) | apply (zs65 ?_) | apply (zs68 ?_) | apply (zs69 ?_) | apply (zs70 ?_) | apply (zs74 ?_) | fail)
  all_goals (apply VQ_ret1; exact rfl; exact rfl)
  · rename_i h; exact ⟨by rw [hia.1 h], rfl⟩
  · rename_i h
    have : ¬ l.any p = true := fun e => by have := hia.2 e; omega
    exact ⟨by rw [Bool.eq_false_iff.2 this], rfl⟩
theorem indexFuncRows {α : Type} (val : α → Value) (p : α → Bool) (l : List α) (f : Nat) (cs : List Value) (hen : ∀ xs w, (callFunc f xs).run Tryz.prog w = .ok (.enter f xs) w) (hlen : l.length ≤ 9223372036854775807) {A : Option Addr} {cap B : Nat} {w0 : World} {H : List HP} {w : World} (hr : Rd B w0 H A (l.flatMap fun a => [val a]))
    (hp : ∀ a ∈ l, ∀ w, St B w0 H w → Calls Tryz.prog f ([val a] ++ cs).toArray w (Post B w0 fun v K => v = .bool (p a) ∧ K = H)) (hw : St B w0 H w) :
    Calls Tryz.prog 227 [.slice A l.length cap, .func (.func f) #[] cs.toArray].toArray w (Post B w0 fun v K => v = .int .i64 (idxFrom p l 0) ∧ K = H) := by
  refine Calls_of_VC Tryz.func227 Tryz.ntmps227 rfl rfl hw ?_
  repeat' (first | apply (zs1 ?_) | apply (zs2 ?_) | (apply zg4; refine zs9 ?_) | apply (zs65 ?_) | apply (zs68 ?_) | apply (zs69 ?_) | apply (zs70 ?_) | apply (zs73 ?_) | fail)
  refine VC_loop1 (fun (k : Nat) => [(8, .int .i64 k), (7, .int .i64 l.length), (0, .slice A l.length cap), (1, .func (.func f) #[] cs.toArray)]) (fun _ => H) (fun k => k ≤ l.length ∧ idxFrom p l 0 = idxFrom p (l.drop k) k) (fun k => l.length - k) 0 ⟨Nat.zero_le _, by simp⟩ ?_ (fun w hw => hw) ?_
  · (repeat (first | exact sub_nil _ | (apply sub_cons; first | exact rfl | exact congrArg (fun z : Int => some (Value.int .i64 z)) (by omega))))
  rintro k ⟨hk, hi⟩ K hK
  by_cases hlt : k < l.length
  · obtain ⟨a, ha⟩ : ∃ a, l[k]? = some a := ⟨_, List.getElem?_eq_getElem hlt⟩
    have hpa := hp a (List.mem_of_getElem? ha)
    rw [idx_drop p l ha] at hi
    repeat' (first | ((first | apply VL_callvt (cs := cs)); exact rfl; exact hen; (repeat (first | exact args_nil | (apply args_cons; exact rfl))); exact rfl; exact fun _ hw => hpa _ hw) | apply (zs1 ?_) | apply (zs2 ?_) | (apply zg3; refine zs60 ?_) | (apply zg5; refine zs57 ?_) | (apply (zs17 ?_ ?_) <;> intro _ <;> try (exfalso; omega)) | apply (zs65 ?_) | apply (zs68 ?_) | apply (zs69 ?_) | apply (zs70 ?_) | (apply zg27; refine zs71 ?_) | apply (zs73 ?_) | apply (zs76 ?_) | fail)
    cases hpv : p a
    · rw [hpv] at hi
      repeat' (first | apply (zs1 ?_) | (apply zg13; refine zs30 ?_) | apply (zs65 ?_) | apply (zs68 ?_) | apply (zs70 ?_) | (apply zg27; refine zs72 ?_) | apply (zs76 ?_) | apply (zs79 ?_) | fail)
      apply hK (k + 1)
      · exact ⟨by omega, hi⟩
      · omega
      · (repeat (first | exact sub_nil _ | (apply sub_cons; first | exact rfl | exact congrArg (fun z : Int => some (Value.int .i64 z)) (by omega))))
      · exact fun w hw => hw
    · rw [hpv] at hi
      repeat' (first | apply (zs1 ?_) | apply (zs2 ?_) | apply (zs65 ?_) | apply (zs68 ?_) | apply (zs69 ?_) | apply (zs70 ?_) | (apply zg27; refine zs71 ?_) | apply (zs74 ?_) | apply (zs77 ?_) | apply (zs78 ?_) | fail)
      apply VQ_ret1; exact rfl; exact rfl
      exact ⟨by rw [hi]; rfl, rfl⟩
  · repeat' (first | apply (zs2 ?_) | (apply (zs17 ?_ ?_) <;> intro _ <;> try (exfalso; omega)) | apply (zs65 ?_) | apply (zs68 ?_) | apply (zs69 ?_) | apply (zs70 ?_) | (apply zg27; refine zs72 ?_) | apply (zs74 ?_) | apply (zs75 ?_) | apply (zs80 ?_) | apply (zs81 ?_) | fail)
    apply VQ_ret1; exact rfl; exact rfl
    rw [hi, List.drop_eq_nil_of_le (by omega)]
    exact ⟨rfl, rfl⟩
theorem containsFuncRows {α : Type} (val : α → Value) (p : α → Bool) (l : List α) (f : Nat) (cs : List Value) (hen : ∀ xs w, (callFunc f xs).run Tryz.prog w = .ok (.enter f xs) w) (hlen : l.length ≤ 9223372036854775807) {A : Option Addr} {cap B : Nat} {w0 : World} {H : List HP} {w : World} (hr : Rd B w0 H A (l.flatMap fun a => [val a]))
    (hp : ∀ a ∈ l, ∀ w, St B w0 H w → Calls Tryz.prog f ([val a] ++ cs).toArray w (Post B w0 fun v K => v = .bool (p a) ∧ K = H)) (hw : St B w0 H w) :
    Calls Tryz.prog 160 [.slice A l.length cap, .func (.func f) #[] cs.toArray].toArray w (Post B w0 fun v K => v = .bool (l.any p) ∧ K = H) := by
  refine Calls_of_VC Tryz.func160 Tryz.ntmps160 rfl rfl hw ?_
  have hia := idx_any p l 0 (by omega)
  repeat' (first | ((first | apply VL_callt en227 | apply VL_callq en227); (repeat (first | exact args_nil | (apply args_cons; exact rfl))); exact rfl; exact fun _ hw => (indexFuncRows val p l f cs hen hlen hr hp hw)) | apply (zs1 ?_) | apply (zs2 ?_) | (apply (zs20 ?_ ?_) <;> intro _ <;> try (exfalso; omega)) | apply (zs65 ?_) | apply (zs68 ?_) | apply (zs69 ?_) | apply (zs70 ?_) | apply (zs74 ?_) | fail)
  all_goals (apply VQ_ret1; exact rfl; exact rfl)
  · rename_i h; exact ⟨by rw [hia.1 h], rfl⟩
  · rename_i h
    have : ¬ l.any p = true := fun e => by have := hia.2 e; omega
    exact ⟨by rw [Bool.eq_false_iff.2 this], rfl⟩
theorem isNaN_int (x : Int) {B : Nat} {w0 : World} {H : List HP} {w : World} (hw : St B w0 H w) : Calls Tryz.prog 158 [.int .i64 x].toArray w (Post B w0 fun v K => v = .bool false ∧ K = H) := by
  refine Calls_of_VC Tryz.func158 Tryz.ntmps158 rfl rfl hw ?_
  repeat' (first | apply (zs1 ?_) | apply (zs2 ?_) | (apply zg8; (refine zs16 ?_ ?_ <;> intro _ <;> try (exfalso; omega))) | apply (zs65 ?_) | apply (zs68 ?_) | apply (zs69 ?_) | apply (zs70 ?_) | apply (zs74 ?_) | fail)
  apply VQ_ret1; exact rfl; exact rfl
  exact ⟨rfl, rfl⟩
theorem compare_int (x y : Int) {B : Nat} {w0 : World} {H : List HP} {w : World} (hw : St B w0 H w) : Calls Tryz.prog 99 [.int .i64 x, .int .i64 y].toArray w (Post B w0 fun v K => v = .int .i64 (cmpI x y) ∧ K = H) := by
  refine Calls_of_VC Tryz.func99 Tryz.ntmps99 rfl rfl hw ?_
  unfold cmpI
  repeat' (first | ((first | apply VL_callt en158 | apply VL_callq en158); (repeat (first | exact args_nil | (apply args_cons; exact rfl))); exact rfl; exact fun _ hw => (isNaN_int _ hw)) | apply (zs1 ?_) | apply (zs2 ?_) | (apply (zs17 ?_ ?_) <;> intro _ <;> try (exfalso; omega)) | (apply (zs19 ?_ ?_) <;> intro _ <;> try (exfalso; omega)) | apply (zs65 ?_) | apply (zs68 ?_) | apply (zs69 ?_) | apply (zs70 ?_) | (apply zg27; first | refine zs71 ?_ | refine zs72 ?_) | apply (zs74 ?_) | apply (zs76 ?_) | apply (zs77 ?_) | fail)
  all_goals (((repeat apply VQ_tail); apply VQ_ret1; exact rfl; exact rfl; refine ⟨congrArg _ ?_, rfl⟩); (repeat (first | refine eq_ite_neg (by omega) ?_ | refine eq_ite_pos (by omega) ?_)); rfl)
end Go.Proofs.YtmalhidldgfeoaaGreatDoor

/- Walks: cmp.Compare of numbers, slices.Compare of lists of numbers. -/
namespace Go.Proofs.YtmalhidldgfeoaaGreatDoor
open Go.RowKit Go.Eng Go.Nw

def cmpV (a b : List Int) : Int := if lexLt a b = true then -1 else if lexLt b a = true then 1 else 0
theorem compareI_spec (a b : List Int) (hla : a.length ≤ 1000000000000) (hlb : b.length ≤ 1000000000000) {A1 A2 : Option Addr} {c1 c2 B : Nat} {w0 : World} {H : List HP} {w : World} (hr1 : Rd B w0 H A1 (a.flatMap numF)) (hr2 : Rd B w0 H A2 (b.flatMap numF)) (hw : St B w0 H w) :
    Calls Tryz.prog 178 [.slice A1 a.length c1, .slice A2 b.length c2].toArray w (Post B w0 fun v K => v = .int .i64 (cmpV a b) ∧ K = H) := by
  refine Calls_of_VC Tryz.func178 Tryz.ntmps178 rfl rfl hw ?_
  repeat' (first | apply (zs1 ?_) | apply (zs2 ?_) | (apply zg4; refine zs9 ?_) | apply (zs65 ?_) | apply (zs68 ?_) | apply (zs69 ?_) | apply (zs70 ?_) | apply (zs73 ?_) | fail)
  refine VC_loop1 (fun (i : Nat) => [(11, .int .i64 i), (10, .int .i64 a.length), (9, .slice A1 a.length c1), (0, .slice A1 a.length c1), (1, .slice A2 b.length c2)]) (fun _ => H) (fun i => i ≤ a.length ∧ i ≤ b.length ∧ lexLt a b = lexLt (a.drop i) (b.drop i) ∧ lexLt b a = lexLt (b.drop i) (a.drop i)) (fun i => a.length - i) 0 ⟨Nat.zero_le _, Nat.zero_le _, rfl, rfl⟩ ?_ (fun w hw => hw) ?_
  · (repeat (first | exact sub_nil _ | (apply sub_cons; first | exact rfl | exact congrArg (fun z : Int => some (Value.int .i64 z)) (by omega))))
  rintro i ⟨hi, hib, e1, e2⟩ K hK
  by_cases hlt : i < a.length
  · obtain ⟨x, hx⟩ : ∃ x, a[i]? = some x := ⟨_, List.getElem?_eq_getElem hlt⟩
    by_cases hltb : i < b.length
    · obtain ⟨y, hy⟩ : ∃ y, b[i]? = some y := ⟨_, List.getElem?_eq_getElem hltb⟩
      have d1 := lex_drop hx hy
      have d2 := lex_drop hy hx
      have hcm := fun {w : World} (hw : St B w0 H w) => compare_int x y hw
      by_cases hxy : x = y
      · rw [if_neg (fun h => h hxy)] at d1
        rw [if_neg (fun h => h hxy.symm)] at d2
        rw [show cmpI x y = 0 by unfold cmpI; rw [if_neg (by omega), if_neg (by omega)]] at hcm
        repeat' (first | ((first | apply VL_callt en99 | apply VL_callq en99); (repeat (first | exact args_nil | (apply args_cons; exact rfl))); exact rfl; exact fun _ hw => (hcm hw)) | apply (zs1 ?_) | apply (zs2 ?_) | (apply zg3; refine zs60 ?_) | (apply zg4; refine zs9 ?_) | (apply zg5; refine zs57 ?_) | (apply zg8; (refine zs16 ?_ ?_ <;> intro _ <;> try (exfalso; omega))) | (apply (zs17 ?_ ?_) <;> intro _ <;> try (exfalso; omega)) | (apply (zs20 ?_ ?_) <;> intro _ <;> try (exfalso; omega)) | (apply zg13; refine zs30 ?_) | apply (zs65 ?_) | apply (zs68 ?_) | apply (zs69 ?_) | apply (zs70 ?_) | (apply zg27; first | refine zs71 ?_ | refine zs72 ?_) | apply (zs73 ?_) | apply (zs76 ?_) | apply (zs79 ?_) | fail)
        apply hK (i + 1)
        · exact ⟨by omega, by omega, e1.trans d1, e2.trans d2⟩
        · omega
        · (repeat (first | exact sub_nil _ | (apply sub_cons; first | exact rfl | exact congrArg (fun z : Int => some (Value.int .i64 z)) (by omega))))
        · exact fun w hw => hw
      · rw [if_pos hxy] at d1
        rw [if_pos (Ne.symm hxy)] at d2
        clear hK
        rcases Int.lt_or_gt_of_ne hxy with h | h
        · rw [show cmpI x y = -1 by unfold cmpI; rw [if_pos h]] at hcm
          have hv : cmpV a b = -1 := by unfold cmpV; rw [e1, d1, if_pos (decide_eq_true h)]
          rw [hv]
          repeat' (first | ((first | apply VL_callt en99 | apply VL_callq en99); (repeat (first | exact args_nil | (apply args_cons; exact rfl))); exact rfl; exact fun _ hw => (hcm hw)) | apply (zs1 ?_) | apply (zs2 ?_) | (apply zg3; refine zs60 ?_) | (apply zg4; refine zs9 ?_) | (apply zg5; refine zs57 ?_) | (apply zg8; (refine zs16 ?_ ?_ <;> intro _ <;> try (exfalso; omega))) | (apply (zs17 ?_ ?_) <;> intro _ <;> try (exfalso; omega)) | (apply (zs20 ?_ ?_) <;> intro _ <;> try (exfalso; omega)) | apply (zs65 ?_) | apply (zs68 ?_) | apply (zs69 ?_) | apply (zs70 ?_) | (apply zg27; first | refine zs71 ?_ | refine zs72 ?_) | apply (zs73 ?_) | apply (zs74 ?_) | apply (zs76 ?_) | apply (zs77 ?_) | apply (zs78 ?_) | fail)
          apply VQ_ret1; exact rfl; exact rfl; exact ⟨rfl, rfl⟩
        · rw [show cmpI x y = 1 by unfold cmpI; rw [if_neg (by omega), if_pos h]] at hcm
          have hv : cmpV a b = 1 := by unfold cmpV; rw [e1, d1, decide_eq_false (by omega), if_neg (by decide), e2, d2, if_pos (decide_eq_true h)]
          rw [hv]
          repeat' (first | ((first | apply VL_callt en99 | apply VL_callq en99); (repeat (first | exact args_nil | (apply args_cons; exact rfl))); exact rfl; exact fun _ hw => (hcm hw)) | apply (zs1 ?_) | apply (zs2 ?_) | (apply zg3; refine zs60 ?_) | (apply zg4; refine zs9 ?_) | (apply zg5; refine zs57 ?_) | (apply zg8; (refine zs16 ?_ ?_ <;> intro _ <;> try (exfalso; omega))) | (apply (zs17 ?_ ?_) <;> intro _ <;> try (exfalso; omega)) | (apply (zs20 ?_ ?_) <;> intro _ <;> try (exfalso; omega)) | apply (zs65 ?_) | apply (zs68 ?_) | apply (zs69 ?_) | apply (zs70 ?_) | (apply zg27; first | refine zs71 ?_ | refine zs72 ?_) | apply (zs73 ?_) | apply (zs74 ?_) | apply (zs76 ?_) | apply (zs77 ?_) | apply (zs78 ?_) | fail)
          apply VQ_ret1; exact rfl; exact rfl; exact ⟨rfl, rfl⟩
    · obtain rfl : i = b.length := by omega
      clear hK
      have hv : cmpV a b = 1 := by
        unfold cmpV
        rw [e1, e2, List.drop_length, List.drop_eq_getElem_cons hlt]
        rfl
      rw [hv]
      repeat' (first | apply (zs1 ?_) | apply (zs2 ?_) | (apply zg3; refine zs60 ?_) | (apply zg4; refine zs9 ?_) | (apply zg5; refine zs57 ?_) | (apply (zs17 ?_ ?_) <;> intro _ <;> try (exfalso; omega)) | (apply (zs20 ?_ ?_) <;> intro _ <;> try (exfalso; omega)) | apply (zs65 ?_) | apply (zs68 ?_) | apply (zs69 ?_) | apply (zs70 ?_) | (apply zg27; refine zs71 ?_) | apply (zs73 ?_) | apply (zs74 ?_) | apply (zs76 ?_) | apply (zs77 ?_) | apply (zs78 ?_) | fail)
      apply VQ_ret1; exact rfl; exact rfl; exact ⟨rfl, rfl⟩
  · obtain rfl : i = a.length := by omega
    clear hK
    rw [List.drop_length] at e1 e2
    by_cases hl : a.length < b.length
    · have hv : cmpV a b = -1 := by
        unfold cmpV
        rw [e1, List.drop_eq_getElem_cons hl]
        rfl
      rw [hv]
      repeat' (first | apply (zs1 ?_) | apply (zs2 ?_) | (apply zg4; refine zs9 ?_) | (apply (zs17 ?_ ?_) <;> intro _ <;> try (exfalso; omega)) | apply (zs65 ?_) | apply (zs68 ?_) | apply (zs69 ?_) | apply (zs70 ?_) | (apply zg27; first | refine zs71 ?_ | refine zs72 ?_) | apply (zs74 ?_) | apply (zs75 ?_) | apply (zs77 ?_) | apply (zs80 ?_) | apply (zs81 ?_) | fail)
      apply VQ_ret1; exact rfl; exact rfl; exact ⟨rfl, rfl⟩
    · have hv : cmpV a b = 0 := by
        unfold cmpV
        rw [e1, e2, List.drop_eq_nil_of_le (by omega)]
        rfl
      rw [hv]
      repeat' (first | apply (zs1 ?_) | apply (zs2 ?_) | (apply zg4; refine zs9 ?_) | (apply (zs17 ?_ ?_) <;> intro _ <;> try (exfalso; omega)) | apply (zs65 ?_) | apply (zs68 ?_) | apply (zs69 ?_) | apply (zs70 ?_) | (apply zg27; refine zs72 ?_) | apply (zs74 ?_) | apply (zs75 ?_) | apply (zs76 ?_) | apply (zs80 ?_) | apply (zs81 ?_) | fail)
      apply VQ_ret1; exact rfl; exact rfl; exact ⟨rfl, rfl⟩
end Go.Proofs.YtmalhidldgfeoaaGreatDoor

/- Schedules of chapter 35, plain: cells in order, the form of a schedule; flows. -/
namespace Go.Proofs.YtmalhidldgfeoaaGreatDoor
open Go.Nw

/-- A cell: slot, offset, from, to, flow. -/
abbrev Cel := Int × Int × Int × Int × Int
def nums (c : Cel) : List Int := [c.1, c.2.1, c.2.2.1, c.2.2.2.1, c.2.2.2.2]
def celLt (a b : Cel) : Bool := lexLt (nums a) (nums b)
theorem nums_inj {a b : Cel} (h : nums a = nums b) : a = b := by
  obtain ⟨a1, a2, a3, a4, a5⟩ := a
  obtain ⟨b1, b2, b3, b4, b5⟩ := b
  simp only [nums, List.cons.injEq] at h
  obtain ⟨rfl, rfl, rfl, rfl, rfl, _⟩ := h
  rfl
theorem lex_trans : ∀ {a b c : List Int}, lexLt a b = true → lexLt b c = true → lexLt a c = true
  | _, _, [], _, h => by cases ‹List Int› <;> cases h
  | [], _, _ :: _, _, _ => rfl
  | _ :: _, [], _ :: _, h, _ => by cases h
  | x :: a, y :: b, z :: c, h1, h2 => by
    unfold lexLt at h1 h2 ⊢
    by_cases e1 : x = y
    · subst e1
      rw [if_neg (fun h => h rfl)] at h1
      by_cases e2 : x = z
      · subst e2
        rw [if_neg (fun h => h rfl)] at h2 ⊢
        exact lex_trans h1 h2
      · rw [if_pos e2] at h2 ⊢; exact h2
    · rw [if_pos e1] at h1
      have h3 := of_decide_eq_true h1
      by_cases e2 : y = z
      · subst e2
        rw [if_pos e1]; exact h1
      · rw [if_pos e2] at h2
        have h4 := of_decide_eq_true h2
        rw [if_pos (by omega)]
        exact decide_eq_true (by omega)
theorem cel_trans {a b c : Cel} (h1 : celLt a b = true) (h2 : celLt b c = true) : celLt a c = true := lex_trans h1 h2
theorem cel_irrefl (a : Cel) : celLt a a = false := lex_self _
theorem cel_tri {a b : Cel} (h1 : celLt a b = false) (h2 : celLt b a = false) : a = b := nums_inj (lex_no h1 h2)

def insE (x n : Int) : Bool := decide (0 ≤ x ∧ x < n)
structure Sch where
  len : Int
  off : Int
  cells : List Cel
def placedE (s : Sch) (c : Cel) : Bool := insE c.1 s.len && insE c.2.1 s.off
def formedE (s : Sch) (c : Cel) : Bool := placedE s c && insE c.2.2.1 32 && insE c.2.2.2.1 32 && insE c.2.2.2.2 256
def sizedE (s : Sch) : Bool := decide (1 ≤ s.len ∧ s.len ≤ 512 ∧ 1 ≤ s.off ∧ s.off ≤ 16)
def celAt (s : Sch) (i : Nat) : Cel := s.cells.getD i (0, 0, 0, 0, 0)
/-- The cell with an index has its form, and stands behind the one before. -/
def celOk (s : Sch) (i : Nat) : Bool := formedE s (celAt s i) && (decide (i = 0) || celLt (celAt s (i - 1)) (celAt s i))
def formE (s : Sch) : Bool := sizedE s && decide (s.cells.length ≤ 512) && (List.range s.cells.length).all (celOk s)

theorem all_range_step {p : Nat → Bool} {k : Nat} : (List.range (k + 1)).all p = ((List.range k).all p && p k) := by
  rw [List.range_succ, List.all_append]; simp
theorem all_range_no {p : Nat → Bool} {i k : Nat} (hi : i < k) (h : p i = false) : (List.range k).all p = false := by
  rw [List.all_eq_false]
  exact ⟨i, List.mem_range.2 hi, by rw [h]; decide⟩
theorem all_range_at {p : Nat → Bool} {i k : Nat} (h : (List.range k).all p = true) (hi : i < k) : p i = true := List.all_eq_true.1 h i (List.mem_range.2 hi)

theorem celAt_get {s : Sch} {i : Nat} {c : Cel} (h : s.cells[i]? = some c) : celAt s i = c := by
  unfold celAt; rw [List.getD_eq_getElem?_getD, h]; rfl
theorem celAt_some {s : Sch} {i : Nat} (h : i < s.cells.length) : s.cells[i]? = some (celAt s i) := by
  unfold celAt; rw [List.getD_eq_getElem?_getD, List.getElem?_eq_getElem h]; rfl
theorem celAt_mem {s : Sch} {i : Nat} (h : i < s.cells.length) : celAt s i ∈ s.cells := List.mem_of_getElem? (celAt_some h)

structure Frm (s : Sch) : Prop where
  sized : sizedE s = true
  few : s.cells.length ≤ 512
  formed : ∀ c ∈ s.cells, formedE s c = true
  ord : s.cells.Pairwise fun a b => celLt a b = true
/-- Consecutive elements in order are all in order. -/
theorem ord_of_steps {α : Type} {lt : α → α → Bool} (htr : ∀ {a b c}, lt a b = true → lt b c = true → lt a c = true) {l : List α} (h : ∀ i, ∀ a b, l[i]? = some a → l[i + 1]? = some b → lt a b = true) : l.Pairwise fun a b => lt a b = true := by
  induction l with
  | nil => exact .nil
  | cons x l ih =>
    have h1 := ih fun i a b ha hb => h (i + 1) a b (by simpa using ha) (by simpa using hb)
    refine .cons (fun y hy => ?_) h1
    cases l with
    | nil => cases hy
    | cons z l =>
      have hz := h 0 x z rfl rfl
      rcases List.mem_cons.1 hy with rfl | hy
      · exact hz
      · exact htr hz ((List.pairwise_cons.1 h1).1 y hy)
theorem form_iff {s : Sch} : formE s = true ↔ Frm s := by
  unfold formE
  simp only [Bool.and_eq_true, decide_eq_true_eq]
  constructor
  · rintro ⟨⟨h1, h2⟩, h3⟩
    have hc : ∀ i, i < s.cells.length → celOk s i = true := fun i hi => all_range_at h3 hi
    refine ⟨h1, h2, fun c hc2 => ?_, ?_⟩
    · obtain ⟨i, hi⟩ := List.mem_iff_getElem?.1 hc2
      have := hc i (List.getElem?_eq_some_iff.1 hi).1
      unfold celOk at this
      rw [celAt_get hi] at this
      simp only [Bool.and_eq_true] at this
      exact this.1
    · refine ord_of_steps (lt := celLt) (fun h1 h2 => cel_trans h1 h2) fun i a b ha hb => ?_
      have := hc (i + 1) (List.getElem?_eq_some_iff.1 hb).1
      unfold celOk at this
      rw [celAt_get hb, Nat.add_sub_cancel, celAt_get ha] at this
      simp only [Bool.and_eq_true, Bool.or_eq_true, decide_eq_true_eq] at this
      rcases this.2 with h | h
      · omega
      · exact h
  · intro h
    refine ⟨⟨h.sized, h.few⟩, List.all_eq_true.2 fun i hi => ?_⟩
    have hi := List.mem_range.1 hi
    unfold celOk
    rw [h.formed _ (celAt_mem hi), Bool.true_and, Bool.or_eq_true, decide_eq_true_eq]
    rcases Nat.eq_zero_or_pos i with h0 | h0
    · exact .inl h0
    · right
      obtain ⟨h1, h2⟩ := List.getElem?_eq_some_iff.1 (celAt_some (s := s) (i := i - 1) (by omega))
      obtain ⟨h3, h4⟩ := List.getElem?_eq_some_iff.1 (celAt_some (s := s) hi)
      have := List.pairwise_iff_getElem.1 h.ord (i - 1) i h1 h3 (by omega)
      rw [h2, h4] at this
      exact this

/-- A flow: ID, from, to, period, phase, deadline. -/
abbrev Flw := Int × Int × Int × Int × Int × Int
def flowE (nodes : Int) (f : Flw) : Int :=
  if f.1 < 0 ∨ 255 < f.1 ∨ insE f.2.1 nodes = false ∨ insE f.2.2.1 nodes = false then 2
  else if f.2.2.2.1 < 1 ∨ 512 < f.2.2.2.1 ∨ f.2.2.2.2.1 < 0 ∨ f.2.2.2.1 ≤ f.2.2.2.2.1 ∨ f.2.2.2.2.2 < 1 ∨ f.2.2.2.1 < f.2.2.2.2.2 then 2
  else if f.2.1 = f.2.2.1 then 1 else 0
def flwAt (l : List Flw) (i : Nat) : Flw := l.getD i (0, 0, 0, 0, 0, 0)
/-- The first index from i on, of r ones, with a fault, and the fault; -1 if there is none. -/
def firstF (f : Nat → Int) : Nat → Nat → Int × Int
  | 0, _ => (-1, 0)
  | r + 1, i => if f i = 0 then firstF f r (i + 1) else ((i : Int), f i)
theorem firstF_ok {f : Nat → Int} : ∀ {r i : Nat}, (firstF f r i).2 = 0 ↔ ∀ k, i ≤ k → k < i + r → f k = 0
  | 0, i => by simp [firstF]; intro k h1 h2; omega
  | r + 1, i => by
    unfold firstF
    split
    · rename_i h
      rw [firstF_ok]
      constructor
      · intro h1 k hk1 hk2
        rcases Nat.eq_or_lt_of_le hk1 with rfl | h2
        · exact h
        · exact h1 k (by omega) (by omega)
      · intro h1 k hk1 hk2
        exact h1 k (by omega) (by omega)
    · rename_i h
      constructor
      · intro h1; exact absurd h1 h
      · intro h1; exact absurd (h1 i (Nat.le_refl _) (by omega)) h
theorem firstF_neg {f : Nat → Int} : ∀ {r i : Nat}, (firstF f r i).2 = 0 → (firstF f r i).1 = -1
  | 0, i, _ => rfl
  | r + 1, i, h => by
    unfold firstF at h ⊢
    split at h
    · rw [if_pos ‹_›]; exact firstF_neg h
    · exact absurd h ‹_›
theorem firstF_bd {f : Nat → Int} : ∀ {r i : Nat}, -1 ≤ (firstF f r i).1 ∧ (firstF f r i).1 < i + r
  | 0, i => by simp only [firstF]; omega
  | r + 1, i => by
    unfold firstF
    split
    · have := @firstF_bd f r (i + 1); omega
    · simp only; omega
def flowAtE (nodes : Int) (l : List Flw) (i : Nat) : Int := if flowE nodes (flwAt l i) ≠ 0 then flowE nodes (flwAt l i) else if 0 < i ∧ (flwAt l i).1 ≤ (flwAt l (i - 1)).1 then 5 else 0
def flowsE (nodes : Int) (l : List Flw) : Int × Int :=
  if nodes < 2 ∨ 32 < nodes then (-1, 2) else if 16 < l.length then (-1, 8) else firstF (flowAtE nodes l) l.length 0
def findF (l : List Flw) (id : Int) : Int := idxFrom (fun f => decide (f.1 = id)) l 0
end Go.Proofs.YtmalhidldgfeoaaGreatDoor

/- Walks: Check of the program. -/
namespace Go.Proofs.YtmalhidldgfeoaaGreatDoor
open Go.RowKit Go.Eng Go.Nw

theorem cp1_spec (xs : List Int) {A : Option Addr} {cap : Nat} (n : NetM) (g : Nat) {B : Nat} {w0 : World} {H : List HP} {w : World} (hw : St B w0 (blk g (.cells #[.int .i64 n.nodes, .slice n.pA n.rows.length n.pcap, .int .i64 n.noise, .int .i64 n.thr, .slice n.lA n.links.length n.lcap, .slice n.mA n.margin.length n.mcap] 26 (0, 0)) :: H) w) :
    Calls Tryz.prog 161 [.slice A xs.length cap, .pointer (some ⟨g, 0, none⟩)].toArray w (Post B w0 fun v K => v = .bool (wide n.nodes xs) ∧ K = blk g (.cells #[.int .i64 n.nodes, .slice n.pA n.rows.length n.pcap, .int .i64 n.noise, .int .i64 n.thr, .slice n.lA n.links.length n.lcap, .slice n.mA n.margin.length n.mcap] 26 (0, 0)) :: H) := by
  refine Calls_of_VC Tryz.func161 Tryz.ntmps161 rfl rfl hw ?_
  unfold wide
  repeat' (first | apply (zs1 ?_) | apply (zs2 ?_) | (apply zg2; refine zs6 ?_) | (apply zg3; refine zs7 ?_) | (apply zg4; refine zs9 ?_) | (apply zg8; (refine zs16 ?_ ?_ <;> intro _ <;> try (exfalso; omega))) | apply (zs65 ?_) | apply (zs68 ?_) | apply (zs69 ?_) | apply (zs70 ?_) | apply (zs74 ?_) | fail)
  · rename_i h
    apply VQ_ret1; exact rfl; exact rfl
    exact ⟨by rw [decide_eq_true h], rfl⟩
  · rename_i h
    apply VQ_ret1; exact rfl; exact rfl
    exact ⟨by rw [decide_eq_false (by omega)], rfl⟩

theorem cp2_spec (p : Int) {B : Nat} {w0 : World} {H : List HP} {w : World} (hw : St B w0 H w) : Calls Tryz.prog 162 [.int .i64 p].toArray w (Post B w0 fun v K => v = .bool (outside p) ∧ K = H) := by
  refine Calls_of_VC Tryz.func162 Tryz.ntmps162 rfl rfl hw ?_
  unfold outside
  repeat' (first | apply (zs1 ?_) | apply (zs2 ?_) | (apply zg1; first | refine zs3 ?_ | refine zs4 ?_) | (apply zg6; first | refine zs11 ?_ | refine zs12 ?_) | (apply (zs17 ?_ ?_) <;> intro _ <;> try (exfalso; omega)) | (apply (zs19 ?_ ?_) <;> intro _ <;> try (exfalso; omega)) | apply (zs65 ?_) | apply (zs68 ?_) | apply (zs69 ?_) | apply (zs70 ?_) | apply (zs74 ?_) | fail)
  · apply VQ_ret1; exact rfl; exact rfl
    exact ⟨by rw [decide_eq_true (by omega)], rfl⟩
  · apply VQ_ret1; exact rfl; exact rfl
    exact ⟨by rw [decide_eq_true (by omega)], rfl⟩
  · apply VQ_ret1; exact rfl; exact rfl
    exact ⟨by rw [decide_eq_false (by omega)], rfl⟩

theorem cp3_spec (xs : List Int) (hl : xs.length ≤ 9223372036854775807) {A : Option Addr} {cap : Nat} (g : Nat) {B : Nat} {w0 : World} {H : List HP} {w : World} (hr : Rd B w0 H A (xs.flatMap numF)) (hw : St B w0 (blk g (.cells #[.func (.func 162) #[] #[]] 195 (0, 0)) :: H) w) :
    Calls Tryz.prog 163 [.slice A xs.length cap, .pointer (some ⟨g, 0, none⟩)].toArray w (Post B w0 fun v K => v = .bool (xs.any outside) ∧ K = blk g (.cells #[.func (.func 162) #[] #[]] 195 (0, 0)) :: H) := by
  refine Calls_of_VC Tryz.func163 Tryz.ntmps163 rfl rfl hw ?_
  repeat' (first | ((first | apply VL_callt en164 | apply VL_callq en164); (repeat (first | exact args_nil | (apply args_cons; exact rfl))); exact rfl; exact fun _ hw => (containsFuncInts (fun z : Int => .int .i64 z) outside xs 162 [] en162 hl hr.cons (fun a _ _ hw => cp2_spec a hw) hw)) | apply (zs1 ?_) | apply (zs2 ?_) | (apply zg3; refine zs7 ?_) | apply (zs65 ?_) | apply (zs68 ?_) | apply (zs69 ?_) | apply (zs70 ?_) | apply (zs74 ?_) | fail)
  apply VQ_ret1; exact rfl; exact rfl
  exact ⟨rfl, rfl⟩

theorem any_rows (n : NetM) (p : List Int → Bool) : (n.rows.any fun r => p r.xs) = n.net.power.any p := by simp [NetM.net, List.any_map, Function.comp_def]

theorem checkPower_spec (n : NetM) {B : Nat} {w0 : World} {H : List HP} {w : World} (hin : n.In B w0 H) (hw : St B w0 H w) :
    Calls Tryz.prog 108 [n.val].toArray w (Post B w0 fun v K => v = .int .i64 (tableE n.net) ∧ K = H) := by
  refine Calls_of_VC Tryz.func108 Tryz.ntmps108 rfl rfl hw ?_
  obtain ⟨hpw, hrw, hlk, hmg, hs1, hs2, hs3, hs4⟩ := hin
  have e1 : n.net.power.length = n.rows.length := by simp [NetM.net]
  have e2 : n.net.nodes = n.nodes := rfl
  unfold tableE
  rw [e1, e2, ← any_rows, ← any_rows n (fun r => r.any outside)]
  repeat' (first | apply (zs1 ?_) | apply (zs2 ?_) | (apply zg1; first | refine zs3 ?_ | refine zs4 ?_) | (apply zg2; refine zs6 ?_) | (apply zg3; refine zs7 ?_) | (apply zg4; refine zs9 ?_) | (apply zg6; refine zs11 ?_) | (apply zg8; (refine zs16 ?_ ?_ <;> intro _ <;> try (exfalso; omega))) | (apply zg23; (refine zs52 ?_; intro _)) | apply (zs65 ?_) | apply (zs68 ?_) | apply (zs69 ?_) | apply (zs70 ?_) | (apply zg27; refine zs71 ?_) | apply (zs74 ?_) | apply (zs77 ?_) | (apply zg29; (apply VL_makeFunc; (repeat (first | exact args_nil | (apply args_cons; exact rfl))) ; exact rfl)) | fail)
  · ((repeat apply VQ_tail); apply VQ_ret1; exact rfl; exact rfl; refine ⟨congrArg _ ?_, rfl⟩)
    (repeat (first | refine eq_ite_neg (by omega) ?_ | refine eq_ite_pos (by omega) ?_))
    rfl
  rename_i g _
  repeat' (first | ((first | apply VL_callt en160 | apply VL_callq en160); (repeat (first | exact args_nil | (apply args_cons; exact rfl))); exact rfl; exact fun _ hw => (containsFuncRows (fun r : RowM => .slice r.A r.xs.length r.cap) (fun r => wide n.nodes r.xs) n.rows 161 [.pointer (some ⟨g, 0, none⟩)] en161 hs1 hpw.cons (fun a _ _ hw => cp1_spec a.xs n g hw) hw)) | (apply zg6; refine zs12 ?_) | apply (zs65 ?_) | apply (zs68 ?_) | fail)
  cases hc : (n.rows.any fun r => wide n.nodes r.xs)
  rotate_left
  · repeat' (first | apply (zs2 ?_) | apply (zs65 ?_) | apply (zs68 ?_) | apply (zs69 ?_) | apply (zs70 ?_) | (apply zg27; refine zs71 ?_) | apply (zs74 ?_) | apply (zs77 ?_) | fail)
    ((repeat apply VQ_tail); apply VQ_ret1; exact rfl; exact rfl; refine ⟨congrArg _ ?_, rfl⟩)
    rw [if_neg (by omega)]; rfl
  repeat' (first | (apply zg2; refine zs6 ?_) | (apply zg3; refine zs7 ?_) | (apply zg22; refine zs50 ?_) | (apply zg24; (refine zs54 ?_; intro _)) | apply (zs65 ?_) | apply (zs68 ?_) | apply (zs69 ?_) | apply (zs70 ?_) | (apply zg27; refine zs72 ?_) | apply (zs76 ?_) | (apply zg29; (apply VL_makeFunc; (repeat (first | exact args_nil | (apply args_cons; exact rfl))) ; exact rfl)) | fail)
  rename_i g2
  apply VL_callt en160
  (repeat (first | exact args_nil | (apply args_cons; exact rfl)))
  exact rfl
  exact fun _ hw => containsFuncRows (fun r : RowM => .slice r.A r.xs.length r.cap) (fun r => r.xs.any outside) n.rows 163 [.pointer (some ⟨g2, 0, none⟩)] en163 hs1 hpw.cons.cons (fun a ha _ hw => cp3_spec a.xs (hs2 a ha) g2 (hrw a ha).cons hw) hw
  cases hd : (n.rows.any fun r => r.xs.any outside)
  · repeat' (first | apply (zs2 ?_) | apply (zs65 ?_) | apply (zs68 ?_) | apply (zs69 ?_) | apply (zs70 ?_) | (apply zg27; refine zs72 ?_) | apply (zs74 ?_) | apply (zs76 ?_) | fail)
    ((repeat apply VQ_tail); apply VQ_ret1; exact rfl; exact rfl; refine ⟨congrArg _ ?_, rfl⟩)
    rw [if_neg (by omega)]; rfl
  · repeat' (first | apply (zs2 ?_) | apply (zs65 ?_) | apply (zs68 ?_) | apply (zs69 ?_) | apply (zs70 ?_) | (apply zg27; refine zs71 ?_) | apply (zs74 ?_) | apply (zs77 ?_) | fail)
    ((repeat apply VQ_tail); apply VQ_ret1; exact rfl; exact rfl; refine ⟨congrArg _ ?_, rfl⟩)
    rw [if_neg (by omega)]; rfl
end Go.Proofs.YtmalhidldgfeoaaGreatDoor

/- Networks of chapter 31, plain: valid networks, their links in order, where a link is. -/
namespace Go.Nw

theorem cmpI_neg {x y : Int} : cmpI x y < 0 ↔ x < y := by unfold cmpI; split <;> (try split) <;> omega
theorem cmpI_zero {x y : Int} : cmpI x y = 0 ↔ x = y := by unfold cmpI; split <;> (try split) <;> omega
theorem cmpL_neg {a b : Lk} : cmpL a b < 0 ↔ a.1 < b.1 ∨ (a.1 = b.1 ∧ a.2.1 < b.2.1) := by
  have h1 := @cmpI_neg a.1 b.1
  have h2 := @cmpI_zero a.1 b.1
  have h3 := @cmpI_neg a.2.1 b.2.1
  unfold cmpL; split <;> omega
theorem cmpL_zero {a b : Lk} : cmpL a b = 0 ↔ a.1 = b.1 ∧ a.2.1 = b.2.1 := by
  have h2 := @cmpI_zero a.1 b.1
  have h3 := @cmpI_zero a.2.1 b.2.1
  unfold cmpL; split <;> omega

structure OkL (n : Net) (i : Nat) : Prop where
  f0 : 0 ≤ (lnk n i).1
  f1 : (lnk n i).1 < n.nodes
  t0 : 0 ≤ (lnk n i).2.1
  t1 : (lnk n i).2.1 < n.nodes
  ne : (lnk n i).1 ≠ (lnk n i).2.1
  l0 : 0 ≤ (lnk n i).2.2
  l1 : (lnk n i).2.2 ≤ 7
  ord : 0 < i → cmpL (lnk n (i - 1)) (lnk n i) < 0
  m0 : 0 ≤ mar n i
  m1 : mar n i ≤ powr n (lnk n i).1 (lnk n i).2.1

theorem link_ok {n : Net} {i : Nat} (h : linkE n i = 0) : OkL n i := by
  unfold linkE at h
  by_cases h1 : ¬ (0 ≤ (lnk n i).1 ∧ (lnk n i).1 < n.nodes) ∨ ¬ (0 ≤ (lnk n i).2.1 ∧ (lnk n i).2.1 < n.nodes) ∨ (lnk n i).1 = (lnk n i).2.1 ∨ (lnk n i).2.2 < 0 ∨ 7 < (lnk n i).2.2
  · rw [if_pos h1] at h; omega
  rw [if_neg h1] at h
  by_cases h2 : 0 < i ∧ 0 ≤ cmpL (lnk n (i - 1)) (lnk n i)
  · rw [if_pos h2] at h; omega
  rw [if_neg h2] at h
  by_cases h3 : mar n i < 0 ∨ powr n (lnk n i).1 (lnk n i).2.1 < mar n i
  · rw [if_pos h3] at h; omega
  constructor <;> omega

structure Ok (n : Net) : Prop where
  n0 : 2 ≤ n.nodes
  n1 : n.nodes ≤ 32
  p0 : (n.power.length : Int) = n.nodes
  p1 : ∀ r ∈ n.power, (r.length : Int) = n.nodes
  p2 : ∀ r ∈ n.power, ∀ p ∈ r, 0 ≤ p ∧ p ≤ 68719476736
  z0 : 0 ≤ n.noise
  z1 : n.noise ≤ 68719476736
  t0 : 1000 ≤ n.thr
  t1 : n.thr ≤ 100000
  k0 : n.links.length ≤ 128
  k1 : n.margin.length = n.links.length
  lk : ∀ i, i < n.links.length → OkL n i

theorem links_ok {n : Net} : ∀ (r i : Nat), linksE n r i = 0 → ∀ j, i ≤ j → j < i + r → OkL n j
  | 0, _, _, j, h1, h2 => by omega
  | r + 1, i, h, j, h1, h2 => by
    unfold linksE at h
    by_cases h0 : linkE n i = 0
    · rw [if_pos h0] at h
      by_cases e : i = j
      · subst e; exact link_ok h0
      · exact links_ok r (i + 1) h j (by omega) (by omega)
    · rw [if_neg h0] at h; exact absurd h h0

theorem check_ok {n : Net} (h : checkE n = 0) : Ok n := by
  unfold checkE at h
  by_cases h1 : n.nodes < 2 ∨ 32 < n.nodes
  · rw [if_pos h1] at h; omega
  rw [if_neg h1] at h
  by_cases h2 : tableE n ≠ 0
  · rw [if_pos h2] at h; exact absurd h h2
  rw [if_neg h2] at h
  by_cases h3 : n.noise < 0 ∨ 68719476736 < n.noise ∨ n.thr < 1000 ∨ 100000 < n.thr
  · rw [if_pos h3] at h; omega
  rw [if_neg h3] at h
  by_cases h4 : 128 < n.links.length
  · rw [if_pos h4] at h; omega
  rw [if_neg h4] at h
  by_cases h5 : n.margin.length ≠ n.links.length
  · rw [if_pos h5] at h; omega
  rw [if_neg h5] at h
  obtain ⟨t1, t2, t3⟩ := table_ok (Classical.not_not.1 h2)
  exact ⟨by omega, by omega, t1, t2, t3, by omega, by omega, by omega, by omega, by omega, Classical.not_not.1 h5, fun i hi => links_ok _ _ h i (Nat.zero_le _) (by omega)⟩

theorem sorted {n : Net} (h : Ok n) : ∀ (i j : Nat), i < j → j < n.links.length → cmpL (lnk n i) (lnk n j) < 0 := by
  intro i j
  induction j with
  | zero => intro h1; omega
  | succ j ih =>
    intro h1 h2
    have h3 := (h.lk (j + 1) h2).ord (by omega)
    rw [Nat.add_sub_cancel] at h3
    by_cases e : i = j
    · subst e; exact h3
    · have h4 := ih (by omega) (by omega)
      rw [cmpL_neg] at *
      omega

def isKey (a b : Int) (l : Lk) : Bool := decide (l.1 = a) && decide (l.2.1 = b)
def findE (n : Net) (a b : Int) : Int := idxFrom (isKey a b) n.links 0

theorem idxFrom_none {α : Type} {p : α → Bool} : ∀ {l : List α} {k : Int}, (∀ a ∈ l, p a = false) → idxFrom p l k = -1
  | [], _, _ => rfl
  | a :: l, k, h => by
    rw [idxFrom, h a List.mem_cons_self, if_neg (by simp)]
    exact idxFrom_none fun b hb => h b (List.mem_cons_of_mem _ hb)
theorem idxFrom_at {α : Type} {p : α → Bool} : ∀ {l : List α} {k : Int} {i : Nat} {a : α}, l[i]? = some a → p a = true → (∀ j b, j < i → l[j]? = some b → p b = false) → idxFrom p l k = k + i
  | [], _, _, _, h, _, _ => by simp at h
  | b :: l, k, 0, a, h, hp, _ => by
    obtain rfl : b = a := by simpa using h
    rw [idxFrom, if_pos hp]; simp
  | b :: l, k, i + 1, a, h, hp, hn => by
    have hb := hn 0 b (by omega) (by simp)
    rw [idxFrom, if_neg (by rw [hb]; simp), idxFrom_at (i := i) (a := a) (by simpa using h) hp fun j c hj hc => hn (j + 1) c (by omega) (by simpa using hc)]
    omega
theorem idxFrom_ge {α : Type} {p : α → Bool} : ∀ {l : List α} {k : Int}, 0 ≤ k → idxFrom p l k = -1 ∨ (k ≤ idxFrom p l k ∧ idxFrom p l k < k + l.length)
  | [], _, _ => .inl rfl
  | a :: l, k, h => by
    unfold idxFrom
    by_cases hp : p a = true
    · rw [if_pos hp]; simp only [List.length_cons]; omega
    · rw [if_neg hp]
      rcases @idxFrom_ge _ p l (k + 1) (by omega) with h1 | h1
      · exact .inl h1
      · simp only [List.length_cons]; omega
theorem idxFrom_spec {α : Type} {p : α → Bool} : ∀ {l : List α} {k : Int} {i : Nat}, 0 ≤ k → idxFrom p l k = k + i → ∃ a, l[i]? = some a ∧ p a = true
  | [], k, i, h0, h => by simp [idxFrom] at h; omega
  | a :: l, k, i, h0, h => by
    unfold idxFrom at h
    by_cases hp : p a = true
    · rw [if_pos hp] at h
      obtain rfl : i = 0 := by omega
      exact ⟨a, by simp, hp⟩
    · rw [if_neg hp] at h
      cases i with
      | zero =>
        rcases @idxFrom_ge _ p l (k + 1) (by omega) with h1 | h1 <;> omega
      | succ i =>
        obtain ⟨b, h1, h2⟩ := idxFrom_spec (p := p) (i := i) (l := l) (k := k + 1) (by omega) (by omega)
        exact ⟨b, by simpa using h1, h2⟩

theorem lnk_get {n : Net} {i : Nat} {l : Lk} (h : n.links[i]? = some l) : lnk n i = l := by simp [lnk, List.getD, h]
theorem mar_get {n : Net} {i : Nat} {z : Int} (h : n.margin[i]? = some z) : mar n i = z := by simp [mar, List.getD, h]
theorem lnk_some (n : Net) {i : Nat} (h : i < n.links.length) : n.links[i]? = some (lnk n i) := by simp [lnk, List.getD, h]

/-- What a search in the ordered links finds. -/
theorem find_pos {n : Net} (h : Ok n) {a b c : Int} {k : Nat} (hk : k ≤ n.links.length) (h1 : ∀ j, j < k → cmpL (lnk n j) (a, b, c) < 0) (h2 : ∀ j, k ≤ j → j < n.links.length → 0 ≤ cmpL (lnk n j) (a, b, c)) :
    findE n a b = if k < n.links.length ∧ cmpL (lnk n k) (a, b, c) = 0 then (k : Int) else -1 := by
  unfold findE
  have hlow : ∀ j l, j < k → n.links[j]? = some l → isKey a b l = false := fun j l hj hl => by
    have := h1 j hj
    rw [lnk_get hl, cmpL_neg] at this
    simp only [isKey, Bool.and_eq_false_iff, decide_eq_false_iff_not]
    simp only at this
    omega
  by_cases hc : k < n.links.length ∧ cmpL (lnk n k) (a, b, c) = 0
  · rw [if_pos hc, idxFrom_at (lnk_some n hc.1) (by have := cmpL_zero.1 hc.2; simp only at this; simp [isKey, this]) hlow]
    omega
  · rw [if_neg hc]
    refine idxFrom_none fun l hl => ?_
    obtain ⟨j, hj, rfl⟩ := List.mem_iff_getElem.1 hl
    by_cases hjk : j < k
    · exact hlow j _ hjk (List.getElem?_eq_getElem hj)
    · have e : lnk n j = n.links[j] := lnk_get (List.getElem?_eq_getElem hj)
      have h3 : cmpL (lnk n j) (a, b, c) ≠ 0 := by
        by_cases ejk : j = k
        · subst ejk; exact fun e => hc ⟨hj, e⟩
        · intro e0
          have h4 := sorted h k j (by omega) hj
          have h5 := h2 k (Nat.le_refl _) (by omega)
          rw [cmpL_zero] at e0
          rw [cmpL_neg] at h4
          have h6 : ¬ cmpL (lnk n k) (a, b, c) < 0 := by omega
          rw [cmpL_neg] at h6
          simp only at *
          omega
      rw [e, Ne, cmpL_zero] at h3
      simp only at h3
      simp only [isKey, Bool.and_eq_false_iff, decide_eq_false_iff_not]
      omega

def heardE (n : Net) (s d : Int) : Bool := decide (n.thr * (n.noise + d) ≤ s * 1000)
def usableE (n : Net) (i : Nat) : Bool := decide (0 ≤ findE n (lnk n i).2.1 (lnk n i).1) && (heardE n (mar n i) 0 && heardE n (mar n (findE n (lnk n i).2.1 (lnk n i).1).toNat) 0)
theorem hear_bd {n : Net} (h : Ok n) {d : Int} (h0 : 0 ≤ d) (h1 : d ≤ 8796093022208) : -9223372036854775808 ≤ n.thr * (n.noise + d) ∧ n.thr * (n.noise + d) ≤ 9223372036854775807 := by
  have h2 := h.t0; have h3 := h.t1; have h4 := h.z0; have h5 := h.z1
  have h6 : 0 ≤ n.thr * (n.noise + d) := Int.mul_nonneg (by omega) (by omega)
  have h7 : n.thr * (n.noise + d) ≤ 100000 * (n.noise + d) := Int.mul_le_mul_of_nonneg_right h3 (by omega)
  omega
theorem mar_bd {n : Net} (h : Ok n) {i : Nat} (hi : i < n.links.length) : 0 ≤ mar n i ∧ mar n i ≤ 68719476736 := by
  have hl := h.lk i hi
  refine ⟨hl.m0, Int.le_trans hl.m1 ?_⟩
  unfold powr
  have e1 : (lnk n i).1.toNat < n.power.length := by have := h.p0; have := hl.f1; have := hl.f0; omega
  rw [show n.power.getD (lnk n i).1.toNat [] = n.power[(lnk n i).1.toNat] by simp [List.getD, e1]]
  have hm := List.getElem_mem e1
  have e2 : (lnk n i).2.1.toNat < (n.power[(lnk n i).1.toNat]).length := by have := h.p1 _ hm; have := hl.t1; have := hl.t0; omega
  rw [show (n.power[(lnk n i).1.toNat]).getD (lnk n i).2.1.toNat 0 = (n.power[(lnk n i).1.toNat])[(lnk n i).2.1.toNat] by simp [List.getD, e2]]
  exact (h.p2 _ hm _ (List.getElem_mem e2)).2

theorem find_lt {n : Net} {a b : Int} (h : 0 ≤ findE n a b) : (findE n a b).toNat < n.links.length := by
  rcases @idxFrom_ge _ (isKey a b) n.links 0 (by omega) with h1 | h1 <;> unfold findE at h ⊢ <;> omega
theorem find_key {n : Net} {a b : Int} (h : 0 ≤ findE n a b) : (lnk n (findE n a b).toNat).1 = a ∧ (lnk n (findE n a b).toNat).2.1 = b := by
  obtain ⟨l, h1, h2⟩ := @idxFrom_spec _ (isKey a b) n.links 0 (findE n a b).toNat (by omega) (by unfold findE at *; omega)
  rw [lnk_get h1]
  simpa [isKey] using h2
end Go.Nw

/- Walks: comparing links, Check, and looking for a link. -/
namespace Go.Proofs.YtmalhidldgfeoaaGreatDoor
open Go.RowKit Go.Eng Go.Nw

abbrev netB (g : Nat) (n : NetM) : HP := blk g (.cells #[.int .i64 n.nodes, .slice n.pA n.rows.length n.pcap, .int .i64 n.noise, .int .i64 n.thr, .slice n.lA n.links.length n.lcap, .slice n.mA n.margin.length n.mcap] 26 (0, 0))

def firstNZ : List Int → Int
  | [] => 0
  | a :: l => if a ≠ 0 then a else firstNZ l
theorem firstNZ_drop (l : List Int) {k : Nat} {a : Int} (h : l[k]? = some a) : firstNZ (l.drop k) = if a ≠ 0 then a else firstNZ (l.drop (k + 1)) := by
  obtain ⟨hk, rfl⟩ := List.getElem?_eq_some_iff.1 h
  rw [List.drop_eq_getElem_cons hk, firstNZ]

theorem or_ints (l : List Int) (hlen : l.length ≤ 1000) {A : Option Addr} {cap B : Nat} {w0 : World} {H : List HP} {w : World} (hr : Rd B w0 H A (l.flatMap numF)) (hw : St B w0 H w) :
    Calls Tryz.prog 98 [.slice A l.length cap].toArray w (Post B w0 fun v K => v = .int .i64 (firstNZ l) ∧ K = H) := by
  refine Calls_of_VC Tryz.func98 Tryz.ntmps98 rfl rfl hw ?_
  repeat' (first | apply (zs1 ?_) | apply (zs2 ?_) | (apply zg4; refine zs9 ?_) | apply (zs65 ?_) | apply (zs68 ?_) | apply (zs69 ?_) | apply (zs70 ?_) | apply (zs73 ?_) | fail)
  refine VC_loop1 (fun (k : Nat) => [(8, .int .i64 k), (7, .int .i64 l.length), (6, .slice A l.length cap), (3, .int .i64 0)]) (fun _ => H) (fun k => k ≤ l.length ∧ firstNZ l = firstNZ (l.drop k)) (fun k => l.length - k) 0 ⟨Nat.zero_le _, by simp⟩ ?_ (fun w hw => hw) ?_
  · (repeat (first | exact sub_nil _ | (apply sub_cons; first | exact rfl | exact congrArg (fun z : Int => some (Value.int .i64 z)) (by omega))))
  rintro k ⟨hk, hi⟩ K hK
  by_cases hlt : k < l.length
  · obtain ⟨a, ha⟩ : ∃ a, l[k]? = some a := ⟨_, List.getElem?_eq_getElem hlt⟩
    rw [firstNZ_drop l ha] at hi
    repeat' (first | apply (zs1 ?_) | apply (zs2 ?_) | (apply zg3; refine zs60 ?_) | (apply zg5; refine zs57 ?_) | (apply zg8; (refine zs16 ?_ ?_ <;> intro _ <;> try (exfalso; omega))) | (apply (zs17 ?_ ?_) <;> intro _ <;> try (exfalso; omega)) | (apply zg13; refine zs30 ?_) | apply (zs65 ?_) | apply (zs68 ?_) | apply (zs69 ?_) | apply (zs70 ?_) | (apply zg27; first | refine zs71 ?_ | refine zs72 ?_) | apply (zs73 ?_) | apply (zs74 ?_) | apply (zs76 ?_) | apply (zs77 ?_) | apply (zs78 ?_) | apply (zs79 ?_) | fail)
    · rename_i h
      rw [if_pos h] at hi
      ((repeat apply VQ_tail); apply VQ_ret1; exact rfl; exact rfl; refine ⟨congrArg _ ?_, rfl⟩)
      rw [hi]
    · rename_i h
      rw [if_neg (by omega)] at hi
      repeat' (first | fail)
      apply hK (k + 1)
      · exact ⟨by omega, hi⟩
      · omega
      · (repeat (first | exact sub_nil _ | (apply sub_cons; first | exact rfl | exact congrArg (fun z : Int => some (Value.int .i64 z)) (by omega))))
      · exact fun w hw => hw
  · repeat' (first | apply (zs1 ?_) | apply (zs2 ?_) | (apply (zs17 ?_ ?_) <;> intro _ <;> try (exfalso; omega)) | apply (zs65 ?_) | apply (zs68 ?_) | apply (zs69 ?_) | apply (zs70 ?_) | (apply zg27; refine zs72 ?_) | apply (zs74 ?_) | apply (zs75 ?_) | apply (zs80 ?_) | apply (zs81 ?_) | fail)
    ((repeat apply VQ_tail); apply VQ_ret1; exact rfl; exact rfl; refine ⟨congrArg _ ?_, rfl⟩)
    rw [hi, List.drop_eq_nil_of_le (by omega)]; rfl

theorem or_two (x y : Int) : firstNZ [x, y] = if x = 0 then y else x := by
  simp only [firstNZ]
  by_cases h : x = 0
  · by_cases h2 : y = 0 <;> simp [h, h2]
  · simp [h]

theorem compare_spec (a b : Lk) {B : Nat} {w0 : World} {H : List HP} {w : World} (hw : St B w0 H w) : Calls Tryz.prog 166 [lkV a, lkV b].toArray w (Post B w0 fun v K => v = .int .i64 (cmpL a b) ∧ K = H) := by
  refine Calls_of_VC Tryz.func166 Tryz.ntmps166 rfl rfl hw ?_
  repeat' (first | apply (zs2 ?_) | (apply zg23; (refine zs52 ?_; intro _)) | apply (zs65 ?_) | apply (zs68 ?_) | apply (zs69 ?_) | apply (zs70 ?_) | fail)
  apply VC_held [0, 1, 2, 3, 5, 6, 7, 8, 4, 9, 10, 11, 12] [] [true, true]
  kernel_rfl
  kernel_rfl
  (repeat (first | with_reducible exact split_nil | with_reducible apply split_t | with_reducible apply split_f))
  (simp only [pickOps, nthO]; rfl)
  exact rfl
  repeat' (first | ((first | apply VL_callt en99 | apply VL_callq en99); (repeat (first | exact args_nil | (apply args_cons; exact rfl))); exact rfl; exact fun _ hw => (compare_int _ _ hw)) | (apply zg2; refine zs6 ?_) | (apply zg3; refine zs7 ?_) | (apply zg26; (refine zs56 ?_; intro _)) | apply (zs65 ?_) | apply (zs87 ?_) | (apply VQ_heldq; (repeat (first | with_reducible exact pull_nil | (with_reducible apply pull_cons; (repeat (first | with_reducible exact rem_here | with_reducible apply rem_there)))))) | fail)
  rename_i g
  first | apply VL_callt en98 | apply VL_callq en98
  (repeat (first | exact args_nil | (apply args_cons; exact rfl)))
  exact rfl
  exact fun _ hw => (or_ints [cmpI a.1 b.1, cmpI a.2.1 b.2.1] (by simp) (Rd.blk (g := g) (cs := #[.int .i64 (cmpI a.1 b.1), .int .i64 (cmpI a.2.1 b.2.1)]) (by (focus repeat (first | with_reducible exact List.mem_cons_self | with_reducible apply List.mem_cons_of_mem | assumption)))) hw)
  repeat' (first | apply (zs2 ?_) | apply (zs65 ?_) | (apply VL_nilh; (repeat (first | with_reducible exact app_nil | with_reducible apply app_cons | exact app_niln _))) | apply (zs68 ?_) | apply (zs74 ?_) | (apply VQ_heldq; (repeat (first | with_reducible exact pull_nil | (with_reducible apply pull_cons; (repeat (first | with_reducible exact rem_here | with_reducible apply rem_there)))))) | apply (zs93 ?_) | apply (zs94 ?_) | fail)
  ((repeat apply VQ_tail); apply VQ_ret1; exact rfl; exact rfl; refine ⟨congrArg _ ?_, rfl⟩)
  rw [or_two]; rfl

theorem cl1_spec (n : NetM) (g : Nat) (a : Int) {B : Nat} {w0 : World} {H : List HP} {w : World} (hm : netB g n ∈ H) (hw : St B w0 H w) :
    Calls Tryz.prog 165 [.int .i64 a, .pointer (some ⟨g, 0, none⟩)].toArray w (Post B w0 fun v K => v = .bool (decide (0 ≤ a ∧ a < n.nodes)) ∧ K = H) := by
  refine Calls_of_VC Tryz.func165 Tryz.ntmps165 rfl rfl hw ?_
  repeat' (first | apply (zs1 ?_) | apply (zs2 ?_) | (apply zg1; first | refine zs3 ?_ | refine zs4 ?_) | (apply zg2; refine zs6 ?_) | (apply zg3; refine zs7 ?_) | (apply zg6; first | refine zs11 ?_ | refine zs12 ?_) | (apply (zs17 ?_ ?_) <;> intro _ <;> try (exfalso; omega)) | (apply (zs20 ?_ ?_) <;> intro _ <;> try (exfalso; omega)) | apply (zs65 ?_) | apply (zs68 ?_) | apply (zs69 ?_) | apply (zs70 ?_) | apply (zs74 ?_) | fail)
  · apply VQ_ret1; exact rfl; exact rfl
    exact ⟨by rw [decide_eq_true (by omega)], rfl⟩
  · apply VQ_ret1; exact rfl; exact rfl
    exact ⟨by rw [decide_eq_false (by omega)], rfl⟩
  · apply VQ_ret1; exact rfl; exact rfl
    exact ⟨by rw [decide_eq_false (by omega)], rfl⟩
end Go.Proofs.YtmalhidldgfeoaaGreatDoor

/- Walks: Check of the program, and looking for a link. -/
namespace Go.Proofs.YtmalhidldgfeoaaGreatDoor
open Go.RowKit Go.Eng Go.Nw

theorem powr_get {n : Net} {a b : Int} {r : List Int} {p : Int} (h1 : n.power[a.toNat]? = some r) (h2 : r[b.toNat]? = some p) : powr n a b = p := by simp [powr, List.getD, h1, h2]

theorem checkLink_spec (n : NetM) (i : Nat) {B : Nat} {w0 : World} {H : List HP} {w : World} (hin : n.In B w0 H) (hi : i < n.links.length) (hml : n.margin.length = n.links.length) (ht : tableE n.net = 0) (hw : St B w0 H w) :
    Calls Tryz.prog 109 [n.val, .int .i64 i].toArray w (Post B w0 fun v K => v = .int .i64 (linkE n.net i) ∧ K = H) := by
  refine Calls_of_VC Tryz.func109 Tryz.ntmps109 rfl rfl hw ?_
  obtain ⟨hpw, hrw, hlk, hmg, hs1, hs2, hs3, hs4⟩ := hin
  obtain ⟨t1, t2, t3⟩ := table_ok ht
  obtain ⟨l, hl⟩ : ∃ l, n.links[i]? = some l := ⟨_, List.getElem?_eq_getElem hi⟩
  obtain ⟨z, hz⟩ : ∃ z, n.margin[i]? = some z := ⟨_, List.getElem?_eq_getElem (by omega)⟩
  have e1 : lnk n.net i = l := lnk_get hl
  have e2 : mar n.net i = z := mar_get hz
  have e3 : n.net.nodes = n.nodes := rfl
  have e4 : n.net.power.length = n.rows.length := by simp [NetM.net]
  rw [e4, e3] at t1
  unfold linkE
  rw [e1, e2, e3]
  by_cases h1 : 0 ≤ l.1 ∧ l.1 < n.nodes
  rotate_left
  · skip
    repeat' (first | ((first | apply VL_callvtb (cs := [_]) | apply VL_callvqb (cs := [_])); exact rfl; exact en165; (repeat (first | exact args_nil | (apply args_cons; exact rfl))); exact rfl; exact fun _ hw => (cl1_spec n _ _ (by (focus repeat (first | with_reducible exact List.mem_cons_self | with_reducible apply List.mem_cons_of_mem | assumption))) hw); all_goals (intro hB; (try simp only [decide_eq_true_eq, decide_eq_false_iff_not] at hB); try (exfalso; omega))) | apply (zs1 ?_) | apply (zs2 ?_) | (apply zg1; refine zs3 ?_) | (apply zg2; refine zs6 ?_) | (apply zg3; first | refine zs7 ?_ | refine zs61 ?_) | (apply zg5; refine zs57 ?_) | (apply zg6; refine zs11 ?_) | (apply zg20; refine zs48 ?_) | (apply zg22; refine zs51 ?_) | (apply zg23; (refine zs52 ?_; intro _)) | (apply zg24; (refine zs54 ?_; intro _)) | apply (zs65 ?_) | apply (zs68 ?_) | apply (zs69 ?_) | apply (zs70 ?_) | (apply zg27; refine zs71 ?_) | apply (zs73 ?_) | apply (zs74 ?_) | apply (zs77 ?_) | apply (zs78 ?_) | (apply zg29; (apply VL_makeFunc; (repeat (first | exact args_nil | (apply args_cons; exact rfl))) ; exact rfl)) | fail)
    all_goals (((repeat apply VQ_tail); apply VQ_ret1; exact rfl; exact rfl; refine ⟨congrArg _ ?_, rfl⟩); (repeat (first | refine eq_ite_neg (by omega) ?_ | refine eq_ite_pos (by omega) ?_)); rfl)
  by_cases h2 : 0 ≤ l.2.1 ∧ l.2.1 < n.nodes
  rotate_left
  · skip
    repeat' (first | ((first | apply VL_callvtb (cs := [_]) | apply VL_callvqb (cs := [_])); exact rfl; exact en165; (repeat (first | exact args_nil | (apply args_cons; exact rfl))); exact rfl; exact fun _ hw => (cl1_spec n _ _ (by (focus repeat (first | with_reducible exact List.mem_cons_self | with_reducible apply List.mem_cons_of_mem | assumption))) hw); all_goals (intro hB; (try simp only [decide_eq_true_eq, decide_eq_false_iff_not] at hB); try (exfalso; omega))) | apply (zs1 ?_) | apply (zs2 ?_) | (apply zg1; first | refine zs3 ?_ | refine zs4 ?_) | (apply zg2; refine zs6 ?_) | (apply zg3; first | refine zs7 ?_ | refine zs61 ?_) | (apply zg5; refine zs57 ?_) | (apply zg6; first | refine zs11 ?_ | refine zs12 ?_) | (apply zg20; first | refine zs47 ?_ | refine zs48 ?_) | (apply zg22; refine zs51 ?_) | (apply zg23; (refine zs52 ?_; intro _)) | (apply zg24; (refine zs54 ?_; intro _)) | apply (zs65 ?_) | apply (zs68 ?_) | apply (zs69 ?_) | apply (zs70 ?_) | (apply zg27; refine zs71 ?_) | apply (zs73 ?_) | apply (zs74 ?_) | apply (zs77 ?_) | apply (zs78 ?_) | (apply zg29; (apply VL_makeFunc; (repeat (first | exact args_nil | (apply args_cons; exact rfl))) ; exact rfl)) | fail)
    all_goals (((repeat apply VQ_tail); apply VQ_ret1; exact rfl; exact rfl; refine ⟨congrArg _ ?_, rfl⟩); (repeat (first | refine eq_ite_neg (by omega) ?_ | refine eq_ite_pos (by omega) ?_)); rfl)
  obtain ⟨r, hr⟩ : ∃ r, n.rows[l.1.toNat]? = some r := ⟨_, List.getElem?_eq_getElem (by omega)⟩
  have hrm : r ∈ n.rows := List.mem_of_getElem? hr
  have hrr := hrw r hrm
  have hrs := hs2 r hrm
  have hrl : (r.xs.length : Int) = n.nodes := t2 r.xs (List.mem_map.2 ⟨r, hrm, rfl⟩)
  obtain ⟨p, hp⟩ : ∃ p, r.xs[l.2.1.toNat]? = some p := ⟨_, List.getElem?_eq_getElem (by omega)⟩
  rw [powr_get (n := n.net) (r := r.xs) (by simp [NetM.net, hr]) hp]
  by_cases h0 : 0 < i
  · obtain ⟨q, hq⟩ : ∃ q, n.links[((i : Int) - 1).toNat]? = some q := ⟨_, List.getElem?_eq_getElem (by omega)⟩
    rw [show lnk n.net (i - 1) = q from lnk_get (by rw [show i - 1 = ((i : Int) - 1).toNat by omega]; exact hq)]
    repeat' (first | ((first | apply VL_callvtb (cs := [_]) | apply VL_callvqb (cs := [_])); exact rfl; exact en165; (repeat (first | exact args_nil | (apply args_cons; exact rfl))); exact rfl; exact fun _ hw => (cl1_spec n _ _ (by (focus repeat (first | with_reducible exact List.mem_cons_self | with_reducible apply List.mem_cons_of_mem | assumption))) hw); all_goals (intro hB; (try simp only [decide_eq_true_eq, decide_eq_false_iff_not] at hB); try (exfalso; omega))) | ((first | apply VL_callt en166 | apply VL_callq en166); (repeat (first | exact args_nil | (apply args_cons; exact rfl))); exact rfl; exact fun _ hw => (compare_spec q l hw)) | apply (zs1 ?_) | apply (zs2 ?_) | (apply zg1; first | refine zs3 ?_ | refine zs4 ?_) | (apply zg2; refine zs6 ?_) | (apply zg3; first | refine zs7 ?_ | refine zs8 ?_ | refine zs60 ?_ | refine zs61 ?_) | (apply zg5; refine zs57 ?_) | (apply zg6; first | refine zs11 ?_ | refine zs12 ?_) | (apply zg7; (refine zs15 ?_ ?_ <;> intro _ <;> try (exfalso; omega))) | (apply (zs17 ?_ ?_) <;> intro _ <;> try (exfalso; omega)) | (apply (zs19 ?_ ?_) <;> intro _ <;> try (exfalso; omega)) | (apply (zs20 ?_ ?_) <;> intro _ <;> try (exfalso; omega)) | (apply zg14; refine zs31 ?_) | (apply zg20; refine zs47 ?_) | (apply zg22; refine zs51 ?_) | (apply zg23; (refine zs52 ?_; intro _)) | (apply zg24; (refine zs54 ?_; intro _)) | apply (zs65 ?_) | apply (zs66 ?_) | apply (zs68 ?_) | apply (zs69 ?_) | apply (zs70 ?_) | (apply zg27; first | refine zs71 ?_ | refine zs72 ?_) | apply (zs73 ?_) | apply (zs74 ?_) | apply (zs76 ?_) | apply (zs77 ?_) | apply (zs78 ?_) | apply (zs79 ?_) | (apply zg28; first | refine zs83 ?_ | refine zs84 ?_) | (apply zg29; (apply VL_makeFunc; (repeat (first | exact args_nil | (apply args_cons; exact rfl))) ; exact rfl)) | fail)
    all_goals (((repeat apply VQ_tail); apply VQ_ret1; exact rfl; exact rfl; refine ⟨congrArg _ ?_, rfl⟩); (repeat (first | refine eq_ite_neg (by omega) ?_ | refine eq_ite_pos (by omega) ?_)); rfl)
  · skip
    repeat' (first | ((first | apply VL_callvtb (cs := [_]) | apply VL_callvqb (cs := [_])); exact rfl; exact en165; (repeat (first | exact args_nil | (apply args_cons; exact rfl))); exact rfl; exact fun _ hw => (cl1_spec n _ _ (by (focus repeat (first | with_reducible exact List.mem_cons_self | with_reducible apply List.mem_cons_of_mem | assumption))) hw); all_goals (intro hB; (try simp only [decide_eq_true_eq, decide_eq_false_iff_not] at hB); try (exfalso; omega))) | ((first | apply VL_callt en166 | apply VL_callq en166); (repeat (first | exact args_nil | (apply args_cons; exact rfl))); exact rfl; exact fun _ hw => (compare_spec _ _ hw)) | apply (zs1 ?_) | apply (zs2 ?_) | (apply zg1; first | refine zs3 ?_ | refine zs4 ?_) | (apply zg2; refine zs6 ?_) | (apply zg3; first | refine zs7 ?_ | refine zs60 ?_ | refine zs61 ?_) | (apply zg5; refine zs57 ?_) | (apply zg6; first | refine zs11 ?_ | refine zs12 ?_) | (apply zg7; (refine zs15 ?_ ?_ <;> intro _ <;> try (exfalso; omega))) | (apply (zs17 ?_ ?_) <;> intro _ <;> try (exfalso; omega)) | (apply (zs19 ?_ ?_) <;> intro _ <;> try (exfalso; omega)) | (apply zg20; refine zs47 ?_) | (apply zg22; refine zs51 ?_) | (apply zg23; (refine zs52 ?_; intro _)) | (apply zg24; (refine zs54 ?_; intro _)) | apply (zs65 ?_) | apply (zs66 ?_) | apply (zs68 ?_) | apply (zs69 ?_) | apply (zs70 ?_) | (apply zg27; first | refine zs71 ?_ | refine zs72 ?_) | apply (zs73 ?_) | apply (zs74 ?_) | apply (zs76 ?_) | apply (zs77 ?_) | apply (zs78 ?_) | apply (zs79 ?_) | (apply zg28; first | refine zs83 ?_ | refine zs84 ?_) | (apply zg29; (apply VL_makeFunc; (repeat (first | exact args_nil | (apply args_cons; exact rfl))) ; exact rfl)) | fail)
    all_goals (((repeat apply VQ_tail); apply VQ_ret1; exact rfl; exact rfl; refine ⟨congrArg _ ?_, rfl⟩); (repeat (first | refine eq_ite_neg (by omega) ?_ | refine eq_ite_pos (by omega) ?_)); rfl)

theorem check_spec (n : NetM) {B : Nat} {w0 : World} {H : List HP} {w : World} (hin : n.In B w0 H) (hw : St B w0 H w) :
    Calls Tryz.prog 50 [n.val].toArray w (Post B w0 fun v K => v = .int .i64 (checkE n.net) ∧ K = H) := by
  refine Calls_of_VC Tryz.func50 Tryz.ntmps50 rfl rfl hw ?_
  have e3 : n.net.nodes = n.nodes := rfl
  have e5 : n.net.noise = n.noise := rfl
  have e6 : n.net.thr = n.thr := rfl
  have e7 : n.net.links = n.links := rfl
  have e8 : n.net.margin = n.margin := rfl
  have hs1 := hin.s1
  have hs3 := hin.s3
  have hs4 := hin.s4
  unfold checkE
  rw [e3, e5, e6, e7, e8]
  (apply VC_seq; apply VC_region; apply VL_box_agg; exact rfl; exact rfl; intro g)
  repeat' (first | ((first | apply VL_callt en108 | apply VL_callq en108); (repeat (first | exact args_nil | (apply args_cons; exact rfl))); exact rfl; exact fun _ hw => (checkPower_spec n hin.cons hw)) | apply (zs1 ?_) | apply (zs2 ?_) | (apply zg1; first | refine zs3 ?_ | refine zs4 ?_) | (apply zg2; refine zs6 ?_) | (apply zg3; first | refine zs7 ?_ | refine zs8 ?_) | (apply zg4; refine zs9 ?_) | (apply zg6; first | refine zs11 ?_ | refine zs12 ?_) | (apply zg8; (refine zs16 ?_ ?_ <;> intro _ <;> try (exfalso; omega))) | (apply (zs17 ?_ ?_) <;> intro _ <;> try (exfalso; omega)) | (apply (zs19 ?_ ?_) <;> intro _ <;> try (exfalso; omega)) | apply (zs65 ?_) | apply (zs68 ?_) | apply (zs69 ?_) | apply (zs70 ?_) | (apply zg27; first | refine zs71 ?_ | refine zs72 ?_) | apply (zs73 ?_) | apply (zs74 ?_) | apply (zs76 ?_) | apply (zs77 ?_) | apply (zs78 ?_) | apply (zs79 ?_) | fail)
  any_goals (((repeat apply VQ_tail); apply VQ_ret1; exact rfl; exact rfl; refine ⟨congrArg _ ?_, rfl⟩); (repeat (first | refine eq_ite_neg (by omega) ?_ | refine eq_ite_pos (by omega) ?_)); rfl)
  have ht : tableE n.net = 0 := by assumption
  refine VC_loop1 (fun (k : Nat) => [(54, .int .i64 k), (53, .int .i64 n.links.length), (1, .pointer (some ⟨g, 0, none⟩))]) (fun _ => netB g n :: H) (fun k => k ≤ n.links.length ∧ linksE n.net n.links.length 0 = linksE n.net (n.links.length - k) k) (fun k => n.links.length - k) 0 ⟨Nat.zero_le _, rfl⟩ ?_ (fun w hw => hw) ?_
  · (repeat (first | exact sub_nil _ | (apply sub_cons; first | exact rfl | exact congrArg (fun z : Int => some (Value.int .i64 z)) (by omega))))
  rintro k ⟨hk, hi⟩ K hK
  by_cases hlt : k < n.links.length
  · skip
    repeat' (first | ((first | apply VL_callt en109 | apply VL_callq en109); (repeat (first | exact args_nil | (apply args_cons; exact rfl))); exact rfl; exact fun _ hw => (checkLink_spec n k hin.cons hlt (by omega) ht hw)) | apply (zs1 ?_) | apply (zs2 ?_) | (apply zg3; refine zs8 ?_) | (apply zg8; (refine zs16 ?_ ?_ <;> intro _ <;> try (exfalso; omega))) | (apply (zs17 ?_ ?_) <;> intro _ <;> try (exfalso; omega)) | (apply zg13; refine zs30 ?_) | apply (zs65 ?_) | apply (zs68 ?_) | apply (zs69 ?_) | apply (zs70 ?_) | (apply zg27; first | refine zs71 ?_ | refine zs72 ?_) | apply (zs73 ?_) | apply (zs74 ?_) | apply (zs76 ?_) | apply (zs77 ?_) | apply (zs78 ?_) | apply (zs79 ?_) | fail)
    · ((repeat apply VQ_tail); apply VQ_ret1; exact rfl; exact rfl; refine ⟨congrArg _ ?_, rfl⟩)
      (repeat (first | refine eq_ite_neg (by omega) ?_ | refine eq_ite_pos (by omega) ?_))
      rw [hi]; exact (linksE_stop n.net hlt (by assumption)).symm
    · apply hK (k + 1)
      · exact ⟨by omega, by rw [hi]; exact linksE_step n.net hlt (by assumption)⟩
      · omega
      · (repeat (first | exact sub_nil _ | (apply sub_cons; first | exact rfl | exact congrArg (fun z : Int => some (Value.int .i64 z)) (by omega))))
      · exact fun w hw => hw
  · repeat' (first | apply (zs2 ?_) | (apply (zs17 ?_ ?_) <;> intro _ <;> try (exfalso; omega)) | apply (zs65 ?_) | apply (zs68 ?_) | apply (zs69 ?_) | apply (zs70 ?_) | (apply zg27; refine zs72 ?_) | apply (zs74 ?_) | apply (zs75 ?_) | apply (zs80 ?_) | apply (zs81 ?_) | fail)
    ((repeat apply VQ_tail); apply VQ_ret1; exact rfl; exact rfl; refine ⟨congrArg _ ?_, rfl⟩)
    (repeat (first | refine eq_ite_neg (by omega) ?_ | refine eq_ite_pos (by omega) ?_))
    rw [hi, show n.links.length - k = 0 by omega]; rfl
end Go.Proofs.YtmalhidldgfeoaaGreatDoor

/- Walks: looking for a link in a valid network; what is heard, and usable. -/
namespace Go.Proofs.YtmalhidldgfeoaaGreatDoor
open Go.RowKit Go.Eng Go.Nw

theorem search_spec (n : NetM) (t : Lk) {B : Nat} {w0 : World} {H : List HP} {w : World} (hin : n.In B w0 H) (hok : Ok n.net) (hw : St B w0 H w) :
    Calls Tryz.prog 214 [.slice n.lA n.links.length n.lcap, lkV t, .func (.func 166) #[] #[]].toArray w (Post B w0 fun v K => ∃ k : Nat,
      v = .tuple #[.int .i64 k, .bool (decide (k < n.links.length ∧ cmpL (lnk n.net k) t = 0))] ∧ k ≤ n.links.length ∧ (∀ j, j < k → cmpL (lnk n.net j) t < 0) ∧ (∀ j, k ≤ j → j < n.links.length → 0 ≤ cmpL (lnk n.net j) t) ∧ K = H) := by
  refine Calls_of_VC Tryz.func214 Tryz.ntmps214 rfl rfl hw ?_
  obtain ⟨hpw, hrw, hlk, hmg, hs1, hs2, hs3, hs4⟩ := hin
  have hl8 : n.links.length ≤ 128 := hok.k0
  (apply VC_seq; apply VC_region; apply VL_box_agg; exact rfl; exact rfl; intro g)
  repeat' (first | apply (zs1 ?_) | apply (zs2 ?_) | (apply zg4; refine zs9 ?_) | apply (zs65 ?_) | apply (zs68 ?_) | apply (zs69 ?_) | apply (zs70 ?_) | apply (zs73 ?_) | fail)
  refine VC_loop2 (fun (lo hi : Nat) => [(9, .int .i64 lo), (10, .int .i64 hi), (8, .int .i64 n.links.length), (0, .slice n.lA n.links.length n.lcap), (2, .func (.func 166) #[] #[]), (4, .pointer (some ⟨g, 0, none⟩))]) (fun _ _ => blk g (.cells #[.int .i64 t.1, .int .i64 t.2.1, .int .i64 t.2.2] 172 (0, 0)) :: H)
    (fun lo hi => lo ≤ hi ∧ hi ≤ n.links.length ∧ (∀ j, j < lo → cmpL (lnk n.net j) t < 0) ∧ (∀ j, hi ≤ j → j < n.links.length → 0 ≤ cmpL (lnk n.net j) t)) (fun lo hi => hi - lo) 0 n.links.length ⟨by omega, by omega, fun j hj => by omega, fun j h1 h2 => by omega⟩ ?_ (fun w hw => hw) ?_
  · (repeat (first | exact sub_nil _ | (apply sub_cons; first | exact rfl | exact congrArg (fun z : Int => some (Value.int .i64 z)) (by omega))))
  rintro lo hi ⟨h1, h2, h3, h4⟩ K hK
  by_cases hlt : lo < hi
  · obtain ⟨b, hb⟩ : ∃ b, n.links[(((lo : Int) + hi) / 2).toNat]? = some b := ⟨_, List.getElem?_eq_getElem (by omega)⟩
    have hm : (((lo : Int) + hi) / 2).toNat = (lo + hi) / 2 := by omega
    have eb : lnk n.net ((lo + hi) / 2) = b := by rw [← hm]; exact lnk_get hb
    repeat' (first | ((first | apply VL_callvt (cs := []) | apply VL_callvq (cs := [])); exact rfl; exact en166; (repeat (first | exact args_nil | (apply args_cons; exact rfl))); exact rfl; exact fun _ hw => (compare_spec b t hw)) | apply (zs1 ?_) | apply (zs2 ?_) | (apply zg3; first | refine zs8 ?_ | refine zs61 ?_) | (apply zg5; refine zs57 ?_) | (apply (zs17 ?_ ?_) <;> intro _ <;> try (exfalso; omega)) | (apply zg13; refine zs30 ?_) | (apply zg18; refine zs38 ?_) | (apply zg19; first | refine zs44 ?_ | refine zs45 ?_) | apply (zs65 ?_) | apply (zs66 ?_) | apply (zs68 ?_) | apply (zs69 ?_) | apply (zs70 ?_) | (apply zg27; first | refine zs71 ?_ | refine zs72 ?_) | apply (zs73 ?_) | apply (zs76 ?_) | apply (zs79 ?_) | (apply zg28; refine zs84 ?_) | fail)
    · rename_i hc
      apply hK ((lo + hi) / 2 + 1) hi
      · refine ⟨by omega, by omega, fun j hj => ?_, h4⟩
        by_cases e : j = (lo + hi) / 2
        · rw [e, eb]; exact hc
        · have h5 := sorted hok j ((lo + hi) / 2) (by omega) (by show _ < n.links.length; omega)
          rw [eb] at h5
          rw [cmpL_neg] at *
          omega
      · omega
      · (repeat (first | exact sub_nil _ | (apply sub_cons; first | exact rfl | exact congrArg (fun z : Int => some (Value.int .i64 z)) (by omega))))
      · exact fun w hw => hw
    · rename_i hc
      apply hK lo ((lo + hi) / 2)
      · refine ⟨by omega, by omega, h3, fun j hj hjl => ?_⟩
        by_cases e : j = (lo + hi) / 2
        · rw [e, eb]; exact hc
        · have h5 := sorted hok ((lo + hi) / 2) j (by omega) hjl
          rw [eb] at h5
          have h6 : ¬ cmpL b t < 0 := by omega
          have h7 : ¬ cmpL (lnk n.net j) t < 0 := by
            rw [cmpL_neg] at *
            omega
          omega
      · omega
      · (repeat (first | exact sub_nil _ | (apply sub_cons; first | exact rfl | exact congrArg (fun z : Int => some (Value.int .i64 z)) (by omega))))
      · exact fun w hw => hw
  · obtain rfl : lo = hi := by omega
    by_cases hl : lo < n.links.length
    · obtain ⟨b, hb⟩ : ∃ b, n.links[lo]? = some b := ⟨_, List.getElem?_eq_getElem hl⟩
      have eb : lnk n.net lo = b := lnk_get hb
      repeat' (first | ((first | apply VL_callvt (cs := []) | apply VL_callvq (cs := [])); exact rfl; exact en166; (repeat (first | exact args_nil | (apply args_cons; exact rfl))); exact rfl; exact fun _ hw => (compare_spec b t hw)) | apply (zs1 ?_) | apply (zs2 ?_) | (apply zg1; refine zs4 ?_) | (apply zg3; first | refine zs8 ?_ | refine zs61 ?_) | (apply zg5; refine zs57 ?_) | (apply zg6; refine zs11 ?_) | (apply zg7; (refine zs15 ?_ ?_ <;> intro _ <;> try (exfalso; omega))) | (apply (zs17 ?_ ?_) <;> intro _ <;> try (exfalso; omega)) | apply (zs65 ?_) | apply (zs66 ?_) | apply (zs68 ?_) | apply (zs69 ?_) | apply (zs70 ?_) | (apply zg27; refine zs72 ?_) | apply (zs74 ?_) | apply (zs75 ?_) | apply (zs80 ?_) | apply (zs81 ?_) | (apply zg28; refine zs84 ?_) | fail)
      all_goals (apply VQ_tail; apply VQ_ret2; exact rfl; exact rfl; exact rfl; refine ⟨lo, ?_, h2, h3, h4, rfl⟩; rw [eb])
      · rw [decide_eq_true ⟨hl, by assumption⟩]
      · rw [decide_eq_false fun hc => absurd hc.2 (by assumption)]
    · repeat' (first | apply (zs1 ?_) | apply (zs2 ?_) | (apply zg1; refine zs3 ?_) | (apply zg6; refine zs12 ?_) | (apply (zs17 ?_ ?_) <;> intro _ <;> try (exfalso; omega)) | apply (zs65 ?_) | apply (zs66 ?_) | apply (zs68 ?_) | apply (zs69 ?_) | apply (zs70 ?_) | (apply zg27; refine zs72 ?_) | apply (zs74 ?_) | apply (zs75 ?_) | apply (zs80 ?_) | apply (zs81 ?_) | (apply zg28; refine zs84 ?_) | fail)
      apply VQ_tail; apply VQ_ret2; exact rfl; exact rfl; exact rfl
      refine ⟨lo, ?_, h2, h3, h4, rfl⟩
      rw [decide_eq_false fun hc => hl hc.1]

theorem find_spec (n : NetM) (a b : Int) {B : Nat} {w0 : World} {H : List HP} {w : World} (hin : n.In B w0 H) (hok : Ok n.net) (hw : St B w0 H w) :
    Calls Tryz.prog 155 [n.val, .int .i64 a, .int .i64 b].toArray w (Post B w0 fun v K => v = .int .i64 (findE n.net a b) ∧ K = H) := by
  refine Calls_of_VC Tryz.func155 Tryz.ntmps155 rfl rfl hw ?_
  (apply VC_seq; apply VC_region; apply VL_box_agg; exact rfl; exact rfl; intro g)
  repeat' (first | apply (zs1 ?_) | apply (zs2 ?_) | (apply zg2; refine zs6 ?_) | (apply zg3; refine zs7 ?_) | (apply zg25; refine zs55 ?_) | apply (zs65 ?_) | apply (zs68 ?_) | apply (zs69 ?_) | apply (zs70 ?_) | fail)
  apply VL_call _ en214
  (repeat (first | exact args_nil | (apply args_cons; exact rfl)))
  exact rfl
  exact fun _ hw => (search_spec n (a, b, 0) hin.cons hok (hw))
  rintro _ _ ⟨k, rfl, hk, h1, h2, rfl⟩
  have hf := find_pos hok hk h1 h2
  rw [hf]
  by_cases hc : k < n.links.length ∧ cmpL (lnk n.net k) (a, b, 0) = 0
  · rw [decide_eq_true hc]
    repeat' (first | apply (zs1 ?_) | apply (zs2 ?_) | apply (zs13 ?_) | (apply zg20; refine zs47 ?_) | apply (zs65 ?_) | apply (zs68 ?_) | apply (zs69 ?_) | apply (zs70 ?_) | (apply zg27; refine zs72 ?_) | apply (zs74 ?_) | apply (zs76 ?_) | fail)
    ((repeat apply VQ_tail); apply VQ_ret1; exact rfl; exact rfl; refine ⟨congrArg _ ?_, rfl⟩)
    exact (if_pos hc).symm
  · rw [decide_eq_false hc]
    repeat' (first | apply (zs1 ?_) | apply (zs2 ?_) | apply (zs13 ?_) | (apply zg20; refine zs48 ?_) | apply (zs65 ?_) | apply (zs68 ?_) | apply (zs69 ?_) | apply (zs70 ?_) | (apply zg27; refine zs71 ?_) | apply (zs74 ?_) | apply (zs77 ?_) | fail)
    ((repeat apply VQ_tail); apply VQ_ret1; exact rfl; exact rfl; refine ⟨congrArg _ ?_, rfl⟩)
    exact (if_neg hc).symm

def indexE (n : Net) (a b : Int) : Int := if checkE n ≠ 0 then -1 else findE n a b
theorem index_spec (n : NetM) (a b : Int) {B : Nat} {w0 : World} {H : List HP} {w : World} (hin : n.In B w0 H) (hw : St B w0 H w) :
    Calls Tryz.prog 95 [n.val, .int .i64 a, .int .i64 b].toArray w (Post B w0 fun v K => v = .int .i64 (indexE n.net a b) ∧ K = H) := by
  refine Calls_of_VC Tryz.func95 Tryz.ntmps95 rfl rfl hw ?_
  unfold indexE
  repeat' (first | ((first | apply VL_callt en50 | apply VL_callq en50); (repeat (first | exact args_nil | (apply args_cons; exact rfl))); exact rfl; exact fun _ hw => (check_spec n hin.cons hw)) | ((first | apply VL_callt en155 | apply VL_callq en155); (repeat (first | exact args_nil | (apply args_cons; exact rfl))); exact rfl; exact fun _ hw => (find_spec n _ _ hin.cons (check_ok (by assumption)) hw)) | apply (zs1 ?_) | apply (zs2 ?_) | (apply zg3; refine zs8 ?_) | (apply zg8; (refine zs16 ?_ ?_ <;> intro _ <;> try (exfalso; omega))) | (apply zg23; (refine zs52 ?_; intro _)) | apply (zs65 ?_) | apply (zs68 ?_) | apply (zs69 ?_) | apply (zs70 ?_) | (apply zg27; first | refine zs71 ?_ | refine zs72 ?_) | apply (zs74 ?_) | apply (zs76 ?_) | apply (zs77 ?_) | fail)
  all_goals (((repeat apply VQ_tail); apply VQ_ret1; exact rfl; exact rfl; refine ⟨congrArg _ ?_, rfl⟩); (repeat (first | refine eq_ite_neg (by omega) ?_ | refine eq_ite_pos (by omega) ?_)); rfl)

theorem hears_spec (n : NetM) (s d : Int) {B : Nat} {w0 : World} {H : List HP} {w : World} (hok : Ok n.net) (hs : 0 ≤ s ∧ s ≤ 8796093022208) (hd : 0 ≤ d ∧ d ≤ 8796093022208) (hw : St B w0 H w) :
    Calls Tryz.prog 171 [n.val, .int .i64 s, .int .i64 d].toArray w (Post B w0 fun v K => v = .bool (heardE n.net s d) ∧ K = H) := by
  refine Calls_of_VC Tryz.func171 Tryz.ntmps171 rfl rfl hw ?_
  have hb : -9223372036854775808 ≤ n.thr * (n.noise + d) ∧ n.thr * (n.noise + d) ≤ 9223372036854775807 := hear_bd hok hd.1 hd.2
  have hz0 : 0 ≤ n.noise := hok.z0
  have hz1 : n.noise ≤ 68719476736 := hok.z1
  unfold heardE
  show VC Tryz.prog _ B w0 _ (bodyPost Tryz.prog _ (Post B w0 fun v K => v = .bool (decide (n.thr * (n.noise + d) ≤ s * 1000)) ∧ K = H)) _ _
  repeat' (first | apply (zs1 ?_) | apply (zs2 ?_) | (apply zg2; refine zs6 ?_) | (apply zg3; refine zs7 ?_) | (apply (zs20 ?_ ?_) <;> intro _ <;> try (exfalso; omega)) | (apply zg13; refine zs30 ?_) | (apply zg15; refine zs32 ?_) | (apply zg23; (refine zs52 ?_; intro _)) | apply (zs65 ?_) | apply (zs68 ?_) | apply (zs69 ?_) | apply (zs70 ?_) | apply (zs74 ?_) | fail)
  · (repeat apply VQ_tail); apply VQ_ret1; exact rfl; exact rfl
    exact ⟨by rw [decide_eq_true (by assumption)], rfl⟩
  · (repeat apply VQ_tail); apply VQ_ret1; exact rfl; exact rfl
    exact ⟨by rw [decide_eq_false (by omega)], rfl⟩

def hearsE (n : Net) (s d : Int) : Bool := decide (checkE n = 0) && (decide (0 ≤ s ∧ 0 ≤ d ∧ s ≤ 8796093022208 ∧ d ≤ 8796093022208) && heardE n s d)
theorem Hears_spec (n : NetM) (s d : Int) {B : Nat} {w0 : World} {H : List HP} {w : World} (hin : n.In B w0 H) (hw : St B w0 H w) :
    Calls Tryz.prog 115 [n.val, .int .i64 s, .int .i64 d].toArray w (Post B w0 fun v K => v = .bool (hearsE n.net s d) ∧ K = H) := by
  refine Calls_of_VC Tryz.func115 Tryz.ntmps115 rfl rfl hw ?_
  unfold hearsE
  by_cases h0 : checkE n.net = 0
  rotate_left
  · rw [decide_eq_false h0]
    repeat' (first | ((first | apply VL_callt en50 | apply VL_callq en50); (repeat (first | exact args_nil | (apply args_cons; exact rfl))); exact rfl; exact fun _ hw => (check_spec n hin.cons hw)) | apply (zs1 ?_) | apply (zs2 ?_) | (apply zg1; refine zs3 ?_) | (apply zg3; refine zs8 ?_) | (apply zg6; refine zs11 ?_) | (apply zg8; (refine zs16 ?_ ?_ <;> intro _ <;> try (exfalso; omega))) | (apply zg23; (refine zs52 ?_; intro _)) | apply (zs65 ?_) | apply (zs68 ?_) | apply (zs69 ?_) | apply (zs70 ?_) | (apply zg27; refine zs71 ?_) | apply (zs74 ?_) | apply (zs77 ?_) | fail)
    (repeat apply VQ_tail); apply VQ_ret1; exact rfl; exact rfl
    exact ⟨rfl, rfl⟩
  rw [decide_eq_true h0]
  by_cases h1 : 0 ≤ s ∧ 0 ≤ d ∧ s ≤ 8796093022208 ∧ d ≤ 8796093022208
  rotate_left
  · rw [decide_eq_false h1]
    repeat' (first | ((first | apply VL_callt en50 | apply VL_callq en50); (repeat (first | exact args_nil | (apply args_cons; exact rfl))); exact rfl; exact fun _ hw => (check_spec n hin.cons hw)) | apply (zs1 ?_) | apply (zs2 ?_) | (apply zg1; first | refine zs3 ?_ | refine zs4 ?_) | (apply zg3; refine zs8 ?_) | (apply zg6; first | refine zs11 ?_ | refine zs12 ?_) | (apply zg8; (refine zs16 ?_ ?_ <;> intro _ <;> try (exfalso; omega))) | (apply (zs17 ?_ ?_) <;> intro _ <;> try (exfalso; omega)) | (apply (zs19 ?_ ?_) <;> intro _ <;> try (exfalso; omega)) | (apply (zs25 ?_ ?_) <;> intro _ <;> try (exfalso; omega)) | (apply zg23; (refine zs52 ?_; intro _)) | (apply (zs62 ?_ ?_) <;> intro _ <;> try (exfalso; omega)) | apply (zs65 ?_) | apply (zs68 ?_) | apply (zs69 ?_) | apply (zs70 ?_) | (apply zg27; refine zs71 ?_) | apply (zs74 ?_) | apply (zs77 ?_) | fail)
    all_goals ((repeat apply VQ_tail); apply VQ_ret1; exact rfl; exact rfl; exact ⟨rfl, rfl⟩)
  rw [decide_eq_true h1]
  repeat' (first | ((first | apply VL_callt en50 | apply VL_callq en50); (repeat (first | exact args_nil | (apply args_cons; exact rfl))); exact rfl; exact fun _ hw => (check_spec n hin.cons hw)) | ((first | apply VL_callt en171 | apply VL_callq en171); (repeat (first | exact args_nil | (apply args_cons; exact rfl))); exact rfl; exact fun _ hw => (hears_spec n _ _ (check_ok h0) (by omega) (by omega) hw)) | apply (zs1 ?_) | apply (zs2 ?_) | (apply zg1; refine zs4 ?_) | (apply zg3; refine zs8 ?_) | (apply zg6; refine zs12 ?_) | (apply zg8; (refine zs16 ?_ ?_ <;> intro _ <;> try (exfalso; omega))) | (apply (zs17 ?_ ?_) <;> intro _ <;> try (exfalso; omega)) | (apply (zs19 ?_ ?_) <;> intro _ <;> try (exfalso; omega)) | (apply (zs25 ?_ ?_) <;> intro _ <;> try (exfalso; omega)) | (apply zg23; (refine zs52 ?_; intro _)) | (apply (zs62 ?_ ?_) <;> intro _ <;> try (exfalso; omega)) | apply (zs65 ?_) | apply (zs68 ?_) | apply (zs69 ?_) | apply (zs70 ?_) | (apply zg27; refine zs72 ?_) | apply (zs74 ?_) | apply (zs76 ?_) | fail)
  all_goals ((repeat apply VQ_tail); apply VQ_ret1; exact rfl; exact rfl; exact ⟨rfl, rfl⟩)

theorem usable_spec (n : NetM) (i : Nat) {B : Nat} {w0 : World} {H : List HP} {w : World} (hin : n.In B w0 H) (hok : Ok n.net) (hi : i < n.links.length) (hw : St B w0 H w) :
    Calls Tryz.prog 169 [n.val, .int .i64 i].toArray w (Post B w0 fun v K => v = .bool (usableE n.net i) ∧ K = H) := by
  refine Calls_of_VC Tryz.func169 Tryz.ntmps169 rfl rfl hw ?_
  obtain ⟨hpw, hrw, hlk, hmg, hs1, hs2, hs3, hs4⟩ := id hin
  have hml : n.margin.length = n.links.length := hok.k1
  obtain ⟨l, hl⟩ : ∃ l, n.links[i]? = some l := ⟨_, List.getElem?_eq_getElem hi⟩
  obtain ⟨z, hz⟩ : ∃ z, n.margin[i]? = some z := ⟨_, List.getElem?_eq_getElem (by omega)⟩
  have e1 : lnk n.net i = l := lnk_get hl
  have e2 : mar n.net i = z := mar_get hz
  have hzb := mar_bd hok hi
  unfold usableE
  rw [e2] at hzb
  rw [e1, e2]
  by_cases hb : 0 ≤ findE n.net l.2.1 l.1
  · have hlt : (findE n.net l.2.1 l.1).toNat < n.links.length := find_lt hb
    obtain ⟨y, hy⟩ : ∃ y, n.margin[(findE n.net l.2.1 l.1).toNat]? = some y := ⟨_, List.getElem?_eq_getElem (by omega)⟩
    have e3 : mar n.net (findE n.net l.2.1 l.1).toNat = y := mar_get hy
    have hyb := mar_bd hok hlt
    rw [e3] at hyb
    rw [e3, decide_eq_true hb]
    repeat' (first | ((first | apply VL_callt en155 | apply VL_callq en155); (repeat (first | exact args_nil | (apply args_cons; exact rfl))); exact rfl; exact fun _ hw => (find_spec n _ _ hin.cons hok hw)) | ((first | apply VL_calltb en171 | apply VL_callqb en171); (repeat (first | exact args_nil | (apply args_cons; exact rfl))); exact rfl; exact fun _ hw => (hears_spec n _ _ hok (by omega) (by omega) hw); all_goals (intro hB; (try simp only [decide_eq_true_eq, decide_eq_false_iff_not] at hB); try (exfalso; omega))) | apply (zs1 ?_) | apply (zs2 ?_) | (apply zg1; first | refine zs3 ?_ | refine zs4 ?_) | (apply zg2; first | refine zs6 ?_ | refine zs58 ?_) | (apply zg3; first | refine zs7 ?_ | refine zs8 ?_ | refine zs59 ?_ | refine zs60 ?_) | (apply zg5; refine zs57 ?_) | (apply zg6; first | refine zs11 ?_ | refine zs12 ?_) | (apply (zs20 ?_ ?_) <;> intro _ <;> try (exfalso; omega)) | (apply zg23; (refine zs52 ?_; intro _)) | apply (zs65 ?_) | apply (zs66 ?_) | apply (zs68 ?_) | apply (zs69 ?_) | apply (zs70 ?_) | apply (zs74 ?_) | (apply zg28; refine zs84 ?_) | fail)
    all_goals ((repeat apply VQ_tail); apply VQ_ret1; exact rfl; exact rfl; refine ⟨?_, rfl⟩; simp_all)
  · rw [decide_eq_false hb]
    repeat' (first | ((first | apply VL_callt en155 | apply VL_callq en155); (repeat (first | exact args_nil | (apply args_cons; exact rfl))); exact rfl; exact fun _ hw => (find_spec n _ _ hin.cons hok hw)) | apply (zs1 ?_) | apply (zs2 ?_) | (apply zg1; refine zs3 ?_) | (apply zg2; first | refine zs6 ?_ | refine zs58 ?_) | (apply zg3; first | refine zs7 ?_ | refine zs8 ?_ | refine zs59 ?_) | (apply zg5; refine zs57 ?_) | (apply zg6; refine zs12 ?_) | (apply (zs20 ?_ ?_) <;> intro _ <;> try (exfalso; omega)) | (apply zg23; (refine zs52 ?_; intro _)) | apply (zs65 ?_) | apply (zs66 ?_) | apply (zs68 ?_) | apply (zs69 ?_) | apply (zs70 ?_) | apply (zs74 ?_) | (apply zg28; refine zs84 ?_) | fail)
    all_goals ((repeat apply VQ_tail); apply VQ_ret1; exact rfl; exact rfl; exact ⟨rfl, rfl⟩)

def UsableE (n : Net) (i : Int) : Bool := decide (checkE n = 0) && (decide (0 ≤ i ∧ i < n.links.length) && usableE n i.toNat)
theorem Usable_spec (n : NetM) (i : Int) {B : Nat} {w0 : World} {H : List HP} {w : World} (hin : n.In B w0 H) (hw : St B w0 H w) :
    Calls Tryz.prog 113 [n.val, .int .i64 i].toArray w (Post B w0 fun v K => v = .bool (UsableE n.net i) ∧ K = H) := by
  refine Calls_of_VC Tryz.func113 Tryz.ntmps113 rfl rfl hw ?_
  have hs3 := hin.s3
  have e7 : n.net.links = n.links := rfl
  unfold UsableE
  rw [e7]
  by_cases h0 : checkE n.net = 0
  rotate_left
  · rw [decide_eq_false h0]
    repeat' (first | ((first | apply VL_callt en50 | apply VL_callq en50); (repeat (first | exact args_nil | (apply args_cons; exact rfl))); exact rfl; exact fun _ hw => (check_spec n hin.cons hw)) | apply (zs1 ?_) | apply (zs2 ?_) | (apply zg1; refine zs3 ?_) | (apply zg3; refine zs8 ?_) | (apply zg6; refine zs12 ?_) | (apply zg7; (refine zs15 ?_ ?_ <;> intro _ <;> try (exfalso; omega))) | (apply zg23; (refine zs52 ?_; intro _)) | apply (zs65 ?_) | apply (zs68 ?_) | apply (zs69 ?_) | apply (zs70 ?_) | apply (zs74 ?_) | fail)
    all_goals ((repeat apply VQ_tail); apply VQ_ret1; exact rfl; exact rfl; exact ⟨rfl, rfl⟩)
  rw [decide_eq_true h0]
  by_cases h1 : 0 ≤ i ∧ i < n.links.length
  rotate_left
  · rw [decide_eq_false h1]
    repeat' (first | ((first | apply VL_callt en50 | apply VL_callq en50); (repeat (first | exact args_nil | (apply args_cons; exact rfl))); exact rfl; exact fun _ hw => (check_spec n hin.cons hw)) | apply (zs1 ?_) | apply (zs2 ?_) | (apply zg1; first | refine zs3 ?_ | refine zs4 ?_) | (apply zg2; refine zs6 ?_) | (apply zg3; first | refine zs7 ?_ | refine zs8 ?_) | (apply zg4; refine zs9 ?_) | (apply zg6; first | refine zs11 ?_ | refine zs12 ?_) | (apply zg7; (refine zs15 ?_ ?_ <;> intro _ <;> try (exfalso; omega))) | (apply (zs17 ?_ ?_) <;> intro _ <;> try (exfalso; omega)) | (apply (zs20 ?_ ?_) <;> intro _ <;> try (exfalso; omega)) | (apply zg23; (refine zs52 ?_; intro _)) | apply (zs65 ?_) | apply (zs68 ?_) | apply (zs69 ?_) | apply (zs70 ?_) | apply (zs74 ?_) | fail)
    all_goals ((repeat apply VQ_tail); apply VQ_ret1; exact rfl; exact rfl; exact ⟨rfl, rfl⟩)
  rw [decide_eq_true h1]
  obtain ⟨k, rfl⟩ : ∃ k : Nat, i = k := ⟨i.toNat, by omega⟩
  repeat' (first | ((first | apply VL_callt en50 | apply VL_callq en50); (repeat (first | exact args_nil | (apply args_cons; exact rfl))); exact rfl; exact fun _ hw => (check_spec n hin.cons hw)) | ((first | apply VL_callt en169 | apply VL_callq en169); (repeat (first | exact args_nil | (apply args_cons; exact rfl))); exact rfl; exact fun _ hw => (usable_spec n _ hin.cons (check_ok h0) (by omega) hw)) | apply (zs1 ?_) | apply (zs2 ?_) | (apply zg1; refine zs4 ?_) | (apply zg2; refine zs6 ?_) | (apply zg3; first | refine zs7 ?_ | refine zs8 ?_) | (apply zg4; refine zs9 ?_) | (apply zg6; refine zs11 ?_) | (apply zg7; (refine zs15 ?_ ?_ <;> intro _ <;> try (exfalso; omega))) | (apply (zs17 ?_ ?_) <;> intro _ <;> try (exfalso; omega)) | (apply (zs20 ?_ ?_) <;> intro _ <;> try (exfalso; omega)) | (apply zg23; (refine zs52 ?_; intro _)) | apply (zs65 ?_) | apply (zs68 ?_) | apply (zs69 ?_) | apply (zs70 ?_) | apply (zs74 ?_) | fail)
  all_goals ((repeat apply VQ_tail); apply VQ_ret1; exact rfl; exact rfl; exact ⟨rfl, rfl⟩)
end Go.Proofs.YtmalhidldgfeoaaGreatDoor

/- Walks: the reference's Heard, Hears, Good, Usable. -/
namespace Go.Proofs.YtmalhidldgfeoaaGreatDoor
open Go.RowKit Go.Eng Go.Nw

def goodE (n : Net) (a b : Int) : Bool := decide (0 ≤ findE n a b) && (decide (0 ≤ findE n b a) && (heardE n (mar n (findE n a b).toNat) 0 && heardE n (mar n (findE n b a).toNat) 0))
theorem find_self {n : Net} (h : Ok n) {i : Nat} (hi : i < n.links.length) : findE n (lnk n i).1 (lnk n i).2.1 = i := by
  have h1 : ∀ j, j < i → cmpL (lnk n j) ((lnk n i).1, (lnk n i).2.1, (lnk n i).2.2) < 0 := fun j hj => sorted h j i hj hi
  have h2 : ∀ j, i ≤ j → j < n.links.length → 0 ≤ cmpL (lnk n j) ((lnk n i).1, (lnk n i).2.1, (lnk n i).2.2) := fun j hj hl => by
    by_cases e : i = j
    · subst e
      have : cmpL (lnk n i) ((lnk n i).1, (lnk n i).2.1, (lnk n i).2.2) = 0 := cmpL_zero.2 ⟨rfl, rfl⟩
      omega
    · have h3 := sorted h i j (by omega) hl
      have h4 : ¬ cmpL (lnk n j) ((lnk n i).1, (lnk n i).2.1, (lnk n i).2.2) < 0 := by
        rw [cmpL_neg] at *
        simp only
        omega
      omega
  rw [find_pos h (Nat.le_of_lt hi) h1 h2, if_pos ⟨hi, cmpL_zero.2 ⟨rfl, rfl⟩⟩]
theorem usable_good {n : Net} (h : Ok n) {i : Nat} (hi : i < n.links.length) : usableE n i = goodE n (lnk n i).1 (lnk n i).2.1 := by
  unfold usableE goodE
  rw [find_self h hi]
  simp

end Go.Proofs.YtmalhidldgfeoaaGreatDoor

/- Networks of chapter 31, plain: which nodes can be reached. -/
namespace Go.Nw

theorem nodup_len : ∀ (N : Nat) (l : List Int), l.Nodup → (∀ x ∈ l, 0 ≤ x ∧ x < N) → l.length ≤ N
  | 0, l, _, h => by
    cases l with
    | nil => simp
    | cons a l => have := h a List.mem_cons_self; omega
  | N + 1, l, hn, h => by
    have h1 := nodup_len N (l.erase (N : Int)) (hn.erase _) (fun x hx => by
      have h2 := h x (List.mem_of_mem_erase hx)
      have h3 : x ≠ (N : Int) := fun e => by subst e; exact (List.Nodup.not_mem_erase hn) hx
      omega)
    have h4 : l.length - 1 ≤ (l.erase (N : Int)).length := by rw [List.length_erase]; split <;> omega
    omega

end Go.Nw

/- Schedules, plain: the first fault of a schedule, as the program and as the reference find it. -/
namespace Go.Proofs.YtmalhidldgfeoaaGreatDoor
open Go.RowKit Go.Eng Go.Nw

def fromC (c : Cel) : Int := c.2.2.1
def toC (c : Cel) : Int := c.2.2.2.1
def flowC (c : Cel) : Int := c.2.2.2.2
def touchE (a b : Cel) : Bool := decide (fromC a = fromC b ∨ fromC a = toC b ∨ toC a = fromC b ∨ toC a = toC b)
theorem touch_comm (a b : Cel) : touchE a b = touchE b a := by
  unfold touchE
  rw [decide_eq_decide]
  omega
def cellF (n : Net) (l : List Flw) (s : Sch) (i : Nat) : Int :=
  if placedE s (celAt s i) = false then 2
  else if goodE n (fromC (celAt s i)) (toC (celAt s i)) = false ∨ findF l (flowC (celAt s i)) < 0 then 7
  else if 0 < i ∧ celLt (celAt s (i - 1)) (celAt s i) = false then 5 else 0
def twiceB (s : Sch) (i : Nat) : Bool := (List.range i).any fun k => decide ((celAt s k).1 = (celAt s i).1) && touchE (celAt s i) (celAt s k)
def placeB (c d : Cel) : Bool := decide (d.1 = c.1 ∧ d.2.1 = c.2.1)
def shareE (s : Sch) (i : Nat) : List Cel := s.cells.filter (placeB (celAt s i))
def shareAt (s : Sch) (i : Nat) : Nat := ((s.cells.take i).filter (placeB (celAt s i))).length
def celL (l : List Cel) (i : Nat) : Cel := l.getD i (0, 0, 0, 0, 0)
def powN (n : Net) (a b : Int) : Int := if insE a n.nodes = true ∧ insE b n.nodes = true then powr n a b else 0
def distTo (n : Net) (l : List Cel) (j : Nat) (node : Int) : Nat → Int
  | 0 => 0
  | k + 1 => distTo n l j node k + if k = j then 0 else powN n (fromC (celL l k)) node + powN n (toC (celL l k)) node
def noNode (n : Net) (c : Cel) : Bool := !(insE (fromC c) n.nodes) || !(insE (toC c) n.nodes)
def distE (n : Net) (l : List Cel) (i node : Int) : Int :=
  if checkE n ≠ 0 ∨ i < 0 ∨ l.length ≤ i ∨ insE node n.nodes = false ∨ l.any (noNode n) = true then 0 else distTo n l i.toNat node l.length
def disturbB (n : Net) (s : Sch) (i : Nat) : Bool :=
  !(hearsE n (mar n (findE n (fromC (celAt s i)) (toC (celAt s i))).toNat) (distE n (shareE s i) (shareAt s i) (toC (celAt s i)))) || !(hearsE n (mar n (findE n (toC (celAt s i)) (fromC (celAt s i))).toNat) (distE n (shareE s i) (shareAt s i) (fromC (celAt s i))))
def wholeE (n : Net) (l : List Flw) (s : Sch) : Int :=
  if checkE n ≠ 0 then 1 else if (flowsE n.nodes l).2 ≠ 0 then 1 else if sizedE s = false then 2
  else if (l.any fun f => decide (s.len.tmod f.2.2.2.1 ≠ 0)) = true then 11 else if 512 < s.cells.length then 8 else 0
def cellsF (n : Net) (l : List Flw) (s : Sch) : Int × Int := firstF (cellF n l s) s.cells.length 0
def twiceF (s : Sch) : Int × Int := firstF (fun i => if twiceB s i = true then 6 else 0) s.cells.length 0
def distF (n : Net) (s : Sch) : Int × Int := firstF (fun i => if disturbB n s i = true then 16 else 0) s.cells.length 0
/-- What Check returns. -/
def schE (n : Net) (l : List Flw) (s : Sch) : Int × Int :=
  if wholeE n l s ≠ 0 then (-1, wholeE n l s) else if (cellsF n l s).2 ≠ 0 then cellsF n l s else if (twiceF s).2 ≠ 0 then twiceF s else distF n s

/-- What the reference's Fault says of cells. -/
def rfaultB (n : Net) (l : List Cel) (i : Nat) : Bool :=
  !(goodE n (fromC (celL l i)) (toC (celL l i))) || ((List.range l.length).any fun k => decide (k ≠ i) && touchE (celL l i) (celL l k))
    || (!(heardE n (mar n (findE n (fromC (celL l i)) (toC (celL l i))).toNat) (distTo n l i (toC (celL l i)) l.length)) || !(heardE n (mar n (findE n (toC (celL l i)) (fromC (celL l i))).toNat) (distTo n l i (fromC (celL l i)) l.length)))
theorem good_nodes {n : Net} (h : Ok n) {u v : Int} (hg : goodE n u v = true) : (0 ≤ u ∧ u < n.nodes) ∧ (0 ≤ v ∧ v < n.nodes) ∧ u ≠ v ∧ 0 ≤ findE n u v ∧ 0 ≤ findE n v u := by
  unfold goodE at hg
  simp only [Bool.and_eq_true, decide_eq_true_eq] at hg
  obtain ⟨h1, h2, _⟩ := hg
  obtain ⟨k1, k2⟩ := find_key h1
  have := h.lk _ (find_lt h1)
  have a1 := this.f0; have a2 := this.f1; have a3 := this.t0; have a4 := this.t1; have a5 := this.ne
  rw [k1] at a1 a2 a5
  rw [k2] at a3 a4 a5
  exact ⟨⟨a1, a2⟩, ⟨a3, a4⟩, a5, h1, h2⟩
theorem use_good {n : Net} (h : checkE n = 0) (a b : Int) : UsableE n (indexE n a b) = goodE n a b := by
  have hok := check_ok h
  unfold UsableE indexE
  rw [if_neg (by omega), decide_eq_true h, Bool.true_and]
  by_cases h0 : 0 ≤ findE n a b
  · have hl := find_lt h0
    rw [usable_good hok hl, (find_key h0).1, (find_key h0).2, decide_eq_true (by omega), Bool.true_and]
  · rw [decide_eq_false (by omega), Bool.false_and]
    unfold goodE
    rw [decide_eq_false h0, Bool.false_and]

theorem share_at {s : Sch} {i : Nat} (h : i < s.cells.length) : (shareE s i)[shareAt s i]? = some (celAt s i) := by
  have h1 := celAt_some h
  obtain ⟨h2, h3⟩ := List.getElem?_eq_some_iff.1 h1
  have hsp : s.cells = s.cells.take i ++ celAt s i :: s.cells.drop (i + 1) := by
    rw [← h3, List.getElem_cons_drop, List.take_append_drop]
  unfold shareE shareAt
  have hp : placeB (celAt s i) (celAt s i) = true := by unfold placeB; simp
  have hf : s.cells.filter (placeB (celAt s i)) = (s.cells.take i).filter (placeB (celAt s i)) ++ celAt s i :: (s.cells.drop (i + 1)).filter (placeB (celAt s i)) := by
    conv => lhs; rw [hsp]
    rw [List.filter_append, List.filter_cons, if_pos hp]
  rw [hf, List.getElem?_append_right (Nat.le_refl _), Nat.sub_self]
  rfl

/-- All cells are good, and no node is twice in a slot. -/
structure Fine (n : Net) (s : Sch) : Prop where
  good : ∀ c ∈ s.cells, goodE n (fromC c) (toC c) = true
  once : s.cells.Pairwise fun a b => a.1 = b.1 → touchE a b = false
theorem fine_of {n : Net} {l : List Flw} {s : Sch} (h1 : (cellsF n l s).2 = 0) (h2 : (twiceF s).2 = 0) : Fine n s := by
  have k1 := firstF_ok.1 h1
  have k2 := firstF_ok.1 h2
  constructor
  · intro c hc
    obtain ⟨i, hi⟩ := List.mem_iff_getElem?.1 hc
    have hl := (List.getElem?_eq_some_iff.1 hi).1
    have := k1 i (Nat.zero_le _) (by omega)
    unfold cellF at this
    rw [celAt_get hi] at this
    cases hg : goodE n (fromC c) (toC c) with
    | true => rfl
    | false =>
      rw [hg] at this
      split at this
      · omega
      · rw [if_pos (.inl rfl)] at this; omega
  · refine List.pairwise_iff_getElem.2 fun i j hi hj hij hs => ?_
    have := k2 j (Nat.zero_le _) (by omega)
    have e1 : celAt s i = s.cells[i] := celAt_get (List.getElem?_eq_getElem hi)
    have e2 : celAt s j = s.cells[j] := celAt_get (List.getElem?_eq_getElem hj)
    cases ht : touchE s.cells[i] s.cells[j] with
    | false => rfl
    | true =>
      have hb : twiceB s j = true := by
        unfold twiceB
        rw [List.any_eq_true]
        refine ⟨i, List.mem_range.2 hij, ?_⟩
        rw [e1, e2, decide_eq_true hs, Bool.true_and, touch_comm]
        exact ht
      simp only [hb, if_true] at this
      omega

theorem pow_bd {n : Net} (h : Ok n) {a b : Int} (ha : 0 ≤ a ∧ a < n.nodes) (hb : 0 ≤ b ∧ b < n.nodes) : 0 ≤ powr n a b ∧ powr n a b ≤ 68719476736 := by
  have hp := h.p0
  obtain ⟨r, hr⟩ : ∃ r, n.power[a.toNat]? = some r := ⟨_, List.getElem?_eq_getElem (by omega)⟩
  have hrm := List.mem_of_getElem? hr
  have hl := h.p1 r hrm
  obtain ⟨p, hpe⟩ : ∃ p, r[b.toNat]? = some p := ⟨_, List.getElem?_eq_getElem (by omega)⟩
  have := h.p2 r hrm p (List.mem_of_getElem? hpe)
  have e1 : n.power.getD a.toNat [] = r := by rw [List.getD_eq_getElem?_getD, hr]; rfl
  have e2 : r.getD b.toNat 0 = p := by rw [List.getD_eq_getElem?_getD, hpe]; rfl
  unfold powr
  rw [e1, e2]
  exact this
theorem powN_bd {n : Net} (h : Ok n) (a b : Int) : 0 ≤ powN n a b ∧ powN n a b ≤ 68719476736 := by
  unfold powN
  split
  · rename_i hc
    unfold insE at hc
    simp only [decide_eq_true_eq] at hc
    exact pow_bd h hc.1 hc.2
  · omega
theorem dist_bd {n : Net} (h : Ok n) (l : List Cel) (j : Nat) (node : Int) : ∀ k : Nat, 0 ≤ distTo n l j node k ∧ distTo n l j node k ≤ (k : Int) * 137438953472
  | 0 => by simp [distTo]
  | k + 1 => by
    have h1 := dist_bd h l j node k
    have h2 := powN_bd h (fromC (celL l k)) node
    have h3 := powN_bd h (toC (celL l k)) node
    unfold distTo
    split <;> omega
theorem share_len {n : Net} (h : Ok n) {s : Sch} (hf : Fine n s) (i : Nat) : (shareE s i).length ≤ 16 := by
  have hsub : (shareE s i).Sublist s.cells := List.filter_sublist
  have hpw : (shareE s i).Pairwise fun a b => touchE a b = false := by
    refine (hf.once.sublist hsub).imp_of_mem fun {a b} ha hb hab => hab ?_
    have h1 := (List.mem_filter.1 ha).2
    have h2 := (List.mem_filter.1 hb).2
    unfold placeB at h1 h2
    simp only [decide_eq_true_eq] at h1 h2
    rw [h1.1, h2.1]
  have hnd : ((shareE s i).flatMap fun c => [fromC c, toC c]).Nodup := by
    refine List.pairwise_flatMap.2 ⟨fun c hc => ?_, hpw.imp fun {a b} hab x hx y hy => ?_⟩
    · have := good_nodes h (hf.good c (hsub.subset hc))
      simp [this.2.2.1]
    · unfold touchE at hab
      have hab := of_decide_eq_false hab
      simp only [List.mem_cons, List.not_mem_nil, or_false] at hx hy
      omega
  have hlen := Go.Nw.nodup_len n.nodes.toNat _ hnd (fun x hx => by
    obtain ⟨c, hc, hx⟩ := List.mem_flatMap.1 hx
    have := good_nodes h (hf.good c (hsub.subset hc))
    have := h.n0
    simp only [List.mem_cons, List.not_mem_nil, or_false] at hx
    omega)
  have h2 : ((shareE s i).flatMap fun c => [fromC c, toC c]).length = (shareE s i).length * 2 := by
    induction shareE s i with
    | nil => rfl
    | cons c l ih => rw [List.flatMap_cons, List.length_append, ih]; simp only [List.length_cons, List.length_nil]; omega
  have := h.n1
  omega

theorem dist_ref {n : Net} (hck : checkE n = 0) {s : Sch} (hf : Fine n s) {i : Nat} (hi : i < s.cells.length) : disturbB n s i = rfaultB n (shareE s i) (shareAt s i) := by
  have hok := check_ok hck
  have hat := share_at hi
  have hlt := (List.getElem?_eq_some_iff.1 hat).1
  have hc : celL (shareE s i) (shareAt s i) = celAt s i := by unfold celL; rw [List.getD_eq_getElem?_getD, hat]; rfl
  have hsub : (shareE s i).Sublist s.cells := List.filter_sublist
  have hg := hf.good _ (celAt_mem hi)
  have hgn := good_nodes hok hg
  have hle := share_len hok hf i
  have hpw : (shareE s i).Pairwise fun a b => touchE a b = false := by
    refine (hf.once.sublist hsub).imp_of_mem fun {a b} ha hb hab => hab ?_
    have h1 := (List.mem_filter.1 ha).2
    have h2 := (List.mem_filter.1 hb).2
    unfold placeB at h1 h2
    simp only [decide_eq_true_eq] at h1 h2
    rw [h1.1, h2.1]
  have hto : ((List.range (shareE s i).length).any fun k => decide (k ≠ shareAt s i) && touchE (celL (shareE s i) (shareAt s i)) (celL (shareE s i) k)) = false := by
    rw [List.any_eq_false]
    intro k hk
    have hk := List.mem_range.1 hk
    by_cases e : k = shareAt s i
    · rw [decide_eq_false (fun h => h e)]; simp
    · have hpk := List.pairwise_iff_getElem.1 hpw
      have e1 : celL (shareE s i) k = (shareE s i)[k] := by unfold celL; rw [List.getD_eq_getElem?_getD, List.getElem?_eq_getElem hk]; rfl
      have e2 : celL (shareE s i) (shareAt s i) = (shareE s i)[shareAt s i] := by unfold celL; rw [List.getD_eq_getElem?_getD, List.getElem?_eq_getElem hlt]; rfl
      rw [decide_eq_true e, Bool.true_and, e1, e2]
      rcases Nat.lt_or_gt_of_ne e with h | h
      · rw [touch_comm, hpk k _ hk hlt h]; simp
      · rw [hpk _ k hlt hk h]; simp
  have hno : (shareE s i).any (noNode n) = false := by
    rw [List.any_eq_false]
    intro c hcm
    have := good_nodes hok (hf.good c (hsub.subset hcm))
    unfold noNode insE
    rw [decide_eq_true this.1, decide_eq_true this.2.1]
    simp
  have hde : ∀ node, 0 ≤ node → node < n.nodes → distE n (shareE s i) (shareAt s i) node = distTo n (shareE s i) (shareAt s i) node (shareE s i).length := fun node h0 h1 => by
    unfold distE
    rw [if_neg]
    · rfl
    · rintro (h | h | h | h | h)
      · exact h hck
      · omega
      · omega
      · unfold insE at h
        have := of_decide_eq_false h
        omega
      · rw [hno] at h; cases h
  have hhe : ∀ (a b node : Int), 0 ≤ findE n a b → hearsE n (mar n (findE n a b).toNat) (distTo n (shareE s i) (shareAt s i) node (shareE s i).length) = heardE n (mar n (findE n a b).toNat) (distTo n (shareE s i) (shareAt s i) node (shareE s i).length) := fun a b node h0 => by
    have h1 := mar_bd hok (find_lt h0)
    have h2 := dist_bd hok (shareE s i) (shareAt s i) node (shareE s i).length
    unfold hearsE
    rw [decide_eq_true hck, decide_eq_true (by omega)]
    rfl
  unfold disturbB rfaultB
  rw [hc] at hto ⊢
  rw [hto, hg, hde _ hgn.2.1.1 hgn.2.1.2, hde _ hgn.1.1 hgn.1.2, hhe _ _ _ hgn.2.2.2.1, hhe _ _ _ hgn.2.2.2.2]
  rfl

end Go.Proofs.YtmalhidldgfeoaaGreatDoor
