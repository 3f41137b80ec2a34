/- Lemmas for the claim, part 1. -/
import Derived.WalkKit
import Derived.Lib.Hide
import Derived.Deep.LoopGhost
import Derived.Deep.Quiet
import Derived.OrdersHeld
import Derived.OrdersIn
import Derived.TacticsIn
import Derived.RangeFuncCalls
import Derived.Sort.LoopGhostIn
import Derived.KernelRfl
import Derived.Maps.AppendAt
import Derived.Laws.StructEq
import Derived.ChangeKeysEq
import Derived.MapKept
import Derived.Maps.RangeRun
import Derived.Laws.IdiomCopy
import Derived.Laws.ResultCell
import Derived.Laws.Tables
import Derived.Great.BuildSlice
import Derived.Laws.CopyRow

/- An engine for walks: what is known of a frame is a list of slots, what is known of memory a list of separate pieces; one lemma an operation. Part 1: the notions, code, loops, calls. -/
namespace Go.Eng
open Go.RowKit

theorem eq_ite_pos {α : Type} {c : Prop} [Decidable c] {x a b : α} (hc : c) (h : x = a) : x = if c then a else b := by rw [if_pos hc]; exact h
theorem eq_ite_neg {α : Type} {c : Prop} [Decidable c] {x a b : α} (hc : ¬ c) (h : x = b) : x = if c then a else b := by rw [if_neg hc]; exact h
theorem mul_bd {a b : Int} (h0 : 0 ≤ a) (h1 : a ≤ 1000000) (h2 : 0 ≤ b) (h3 : b ≤ 1000000000000) : -9223372036854775808 ≤ a * b ∧ a * b ≤ 9223372036854775807 := by
  have h4 : 0 ≤ a * b := Int.mul_nonneg h0 h2
  have h5 : a * b ≤ 1000000 * b := Int.mul_le_mul_of_nonneg_right h1 h2
  omega
theorem mul_bd' {a b : Int} (h0 : 0 ≤ b) (h1 : b ≤ 1000000) (h2 : 0 ≤ a) (h3 : a ≤ 1000000000000) : -9223372036854775808 ≤ a * b ∧ a * b ≤ 9223372036854775807 := by
  rw [Int.mul_comm]; exact mul_bd h0 h1 h2 h3

/-! ### Pieces of memory -/

structure HP where
  holds : (Nat → Prop) → World → Prop
  loc : ∀ {S : Nat → Prop} {w w' : World}, (∀ b, S b → w'.heap[b]? = w.heap[b]?) → holds S w → holds S w'

/-- Block g is just o. -/
def blk (g : Nat) (o : Obj) : HP := ⟨fun S w => S g ∧ w.heap[g]? = some o, fun h ⟨hs, hg⟩ => ⟨hs, (h _ hs).trans hg⟩⟩

def sepL : List HP → (Nat → Prop) → World → Prop
  | [], _, _ => True
  | A :: L, S, w => ∃ S1 S2 : Nat → Prop, (∀ b, S1 b → S b) ∧ (∀ b, S2 b → S b) ∧ (∀ b, S1 b → ¬ S2 b) ∧ A.holds S1 w ∧ sepL L S2 w

theorem sepL_mono {L : List HP} {S T : Nat → Prop} {w : World} (h : sepL L S w) (hs : ∀ b, S b → T b) : sepL L T w := by
  cases L with
  | nil => trivial
  | cons A L =>
    obtain ⟨S1, S2, h1, h2, h3, h4, h5⟩ := h
    exact ⟨S1, S2, fun b hb => hs b (h1 b hb), fun b hb => hs b (h2 b hb), h3, h4, h5⟩

theorem sepL_loc {L : List HP} : ∀ {S : Nat → Prop} {w w' : World}, sepL L S w → (∀ b, S b → w'.heap[b]? = w.heap[b]?) → sepL L S w' := by
  induction L with
  | nil => intros; trivial
  | cons A L ih =>
    intro S w w' h hs
    obtain ⟨S1, S2, h1, h2, h3, h4, h5⟩ := h
    exact ⟨S1, S2, h1, h2, h3, A.loc (fun b hb => hs b (h1 b hb)) h4, ih h5 (fun b hb => hs b (h2 b hb))⟩

theorem sepL_swap {A B : HP} {L : List HP} {S : Nat → Prop} {w : World} (h : sepL (A :: B :: L) S w) : sepL (B :: A :: L) S w := by
  obtain ⟨S1, S2, h1, h2, h3, h4, T1, T2, k1, k2, k3, k4, k5⟩ := h
  refine ⟨T1, fun b => S1 b ∨ T2 b, fun b hb => h2 b (k1 b hb), fun b hb => hb.elim (h1 b) (fun hb => h2 b (k2 b hb)), fun b hb hc => ?_, k4, S1, T2, fun b hb => .inl hb, fun b hb => .inr hb, fun b hb hc => h3 b hb (k2 b hc), h4, k5⟩
  rcases hc with hc | hc
  · exact h3 b hc (k1 b hb)
  · exact k3 b hb hc

theorem sepL_tail {A : HP} {L : List HP} {S : Nat → Prop} {w : World} (h : sepL (A :: L) S w) : sepL L S w := by
  obtain ⟨S1, S2, _, h2, _, _, h5⟩ := h
  exact sepL_mono h5 h2

/-- M follows from L, by an exchange of pieces. -/
structure Perm (L M : List HP) : Prop where
  go : ∀ (S : Nat → Prop) (w : World), sepL L S w → sepL M S w

theorem Perm.refl (L : List HP) : Perm L L := ⟨fun _ _ h => h⟩
theorem Perm.cons (A : HP) {L M : List HP} (p : Perm L M) : Perm (A :: L) (A :: M) := by
  refine ⟨fun S w h => ?_⟩
  obtain ⟨S1, S2, h1, h2, h3, h4, h5⟩ := h
  exact ⟨S1, S2, h1, h2, h3, h4, p.go _ _ h5⟩
theorem Perm.swap (A B : HP) (L : List HP) : Perm (A :: B :: L) (B :: A :: L) := ⟨fun _ _ => sepL_swap⟩
theorem Perm.trans {L M N : List HP} (p : Perm L M) (q : Perm M N) : Perm L N := ⟨fun _ _ h => q.go _ _ (p.go _ _ h)⟩

/-! ### The state of memory: below B as it was in w0; above it, the pieces. -/

structure St (B : Nat) (w0 : World) (H : List HP) (w : World) : Prop where
  below : Below B w0 w
  le : B ≤ w.heap.size
  sep : sepL H (fun b => B ≤ b ∧ b < w.heap.size) w

theorem St.start (w : World) : St w.heap.size w [] w := ⟨Below.refl _ _, Nat.le_refl _, trivial⟩
theorem St.perm {B : Nat} {w0 w : World} {H K : List HP} (h : St B w0 H w) (p : Perm H K) : St B w0 K w := ⟨h.below, h.le, p.go _ _ h.sep⟩
theorem St.tail {B : Nat} {w0 w : World} {A : HP} {H : List HP} (h : St B w0 (A :: H) w) : St B w0 H w := ⟨h.below, h.le, sepL_tail h.sep⟩

theorem sepL_at {L : List HP} {A : HP} (hA : A ∈ L) : ∀ {S : Nat → Prop} {w : World}, sepL L S w → ∃ S1 : Nat → Prop, (∀ b, S1 b → S b) ∧ A.holds S1 w := by
  induction L with
  | nil => cases hA
  | cons B L ih =>
    intro S w h
    obtain ⟨S1, S2, h1, h2, _, h4, h5⟩ := h
    rcases List.mem_cons.1 hA with e | e
    · subst e; exact ⟨S1, h1, h4⟩
    · obtain ⟨S3, h6, h7⟩ := ih e h5
      exact ⟨S3, fun b hb => h2 b (h6 b hb), h7⟩

theorem St.at_ {B : Nat} {w0 w : World} {H : List HP} {A : HP} (h : St B w0 H w) (hA : A ∈ H) : ∃ S1 : Nat → Prop, (∀ b, S1 b → B ≤ b ∧ b < w.heap.size) ∧ A.holds S1 w := sepL_at hA h.sep

theorem St.blk {B : Nat} {w0 w : World} {H : List HP} {g : Nat} {o : Obj} (h : St B w0 H w) (hA : blk g o ∈ H) : w.heap[g]? = some o ∧ B ≤ g ∧ g < w.heap.size := by
  obtain ⟨S1, h1, h2, h3⟩ := h.at_ hA
  exact ⟨h3, h1 g h2⟩

/-- Another world, in which nothing of memory has changed but that blocks came. -/
theorem St.grow {B : Nat} {w0 w w' : World} {H : List HP} (h : St B w0 H w) (k : Below w.heap.size w w') : St B w0 H w' :=
  ⟨h.below.trans (k.mono h.le), Nat.le_trans h.le k.size, sepL_mono (sepL_loc h.sep fun b hb => k.block b hb.2) fun _ hb => ⟨hb.1, Nat.lt_of_lt_of_le hb.2 k.size⟩⟩

theorem St.drew {B : Nat} {w0 w : World} {H : List HP} (h : St B w0 H w) : St B w0 H w.drew := h.grow (Below.refl _ _).drew

/-- A new block. -/
theorem St.alloc {B : Nat} {w0 w : World} {H : List HP} (h : St B w0 H w) (o : Obj) : St B w0 (Eng.blk w.heap.size o :: H) (w.alloc o) := by
  refine ⟨h.below.alloc h.le o, by have := h.le; simp; omega, fun b => b = w.heap.size, fun b => B ≤ b ∧ b < w.heap.size, ?_, ?_, ?_, ?_, ?_⟩
  · rintro b rfl; exact ⟨h.le, by simp⟩
  · rintro b ⟨h1, h2⟩; exact ⟨h1, by simp; omega⟩
  · rintro b rfl ⟨_, h2⟩; omega
  · exact ⟨rfl, heap_alloc_new w o⟩
  · exact sepL_loc h.sep fun b hb => Below.heap_alloc w o b hb.2

/-- M is L with one piece replaced. -/
def Upd (A A' : HP) (L M : List HP) : Prop := ∃ L1 L2, L = L1 ++ A :: L2 ∧ M = L1 ++ A' :: L2

theorem Upd.here {A A' : HP} (L : List HP) : Upd A A' (A :: L) (A' :: L) := ⟨[], L, rfl, rfl⟩
theorem Upd.there {A A' : HP} (X : HP) {L M : List HP} (u : Upd A A' L M) : Upd A A' (X :: L) (X :: M) := by
  obtain ⟨L1, L2, rfl, rfl⟩ := u
  exact ⟨X :: L1, L2, rfl, rfl⟩

theorem sepL_upd {A A' : HP} {w w' : World}
    (hA : ∀ S1 : Nat → Prop, A.holds S1 w → (∃ S' : Nat → Prop, A'.holds S' w' ∧ ∀ b, S' b → S1 b ∨ (w.heap.size ≤ b ∧ b < w'.heap.size)) ∧ ∀ b, ¬ S1 b → b < w.heap.size → w'.heap[b]? = w.heap[b]?) (L2 : List HP) :
    ∀ (L1 : List HP) {S : Nat → Prop}, (∀ b, S b → b < w.heap.size) → sepL (L1 ++ A :: L2) S w →
      ∃ S1 : Nat → Prop, (∀ b, S1 b → S b) ∧ A.holds S1 w ∧ sepL (L1 ++ A' :: L2) (fun b => S b ∨ (w.heap.size ≤ b ∧ b < w'.heap.size)) w'
  | [], S, hS, h => by
    obtain ⟨S1, S2, h1, h2, h3, h4, h5⟩ := h
    obtain ⟨⟨S', k1, k3⟩, k2⟩ := hA S1 h4
    refine ⟨S1, h1, h4, S', S2, fun b hb => (k3 b hb).elim (fun h => .inl (h1 b h)) .inr, fun b hb => .inl (h2 b hb), fun b hb hc => ?_, k1, sepL_loc h5 fun b hb => k2 b (fun hc => h3 b hc hb) (hS b (h2 b hb))⟩
    rcases k3 b hb with h | h
    · exact h3 b h hc
    · have := hS b (h2 b hc); omega
  | X :: L1, S, hS, h => by
    obtain ⟨S1, S2, h1, h2, h3, h4, h5⟩ := h
    obtain ⟨T, t1, t2, t3⟩ := sepL_upd hA L2 L1 (fun b hb => hS b (h2 b hb)) h5
    obtain ⟨_, k2⟩ := hA T t2
    refine ⟨T, fun b hb => h2 b (t1 b hb), t2, S1, _, fun b hb => .inl (h1 b hb), fun b hb => hb.elim (fun h => .inl (h2 b h)) .inr, fun b hb hc => ?_, X.loc (fun b hb => k2 b (fun hc => h3 b hb (t1 b hc)) (hS b (h1 b hb))) h4, t3⟩
    rcases hc with hc | hc
    · exact h3 b hb hc
    · have := hS b (h1 b hb); omega

/-- One piece is changed in its own blocks and in new ones. -/
theorem St.updN {B : Nat} {w0 w w' : World} {A A' : HP} {H K : List HP} (h : St B w0 H w) (u : Upd A A' H K)
    (hos : w'.os = w.os) (ht : w'.tape = w.tape) (hout : w'.output = w.output) (hsz : w.heap.size ≤ w'.heap.size)
    (hA : ∀ S1 : Nat → Prop, A.holds S1 w → (∃ S' : Nat → Prop, A'.holds S' w' ∧ ∀ b, S' b → S1 b ∨ (w.heap.size ≤ b ∧ b < w'.heap.size)) ∧ ∀ b, ¬ S1 b → b < w.heap.size → w'.heap[b]? = w.heap[b]?) : St B w0 K w' := by
  obtain ⟨L1, L2, rfl, rfl⟩ := u
  obtain ⟨S1, h1, h2, h3⟩ := sepL_upd hA L2 L1 (S := fun b => B ≤ b ∧ b < w.heap.size) (fun b hb => hb.2) h.sep
  obtain ⟨_, k2⟩ := hA S1 h2
  have hle := h.le
  refine ⟨⟨hos.trans h.below.os, ht.trans h.below.tape, hout.trans h.below.output, Nat.le_trans h.below.size hsz, fun b hb => ?_⟩, Nat.le_trans h.le hsz, sepL_mono h3 fun b hb => ?_⟩
  · rw [k2 b (fun hc => by have := (h1 b hc).1; omega) (Nat.lt_of_lt_of_le hb h.le), h.below.block b hb]
  · rcases hb with hb | hb
    · exact ⟨hb.1, Nat.lt_of_lt_of_le hb.2 hsz⟩
    · exact ⟨by omega, hb.2⟩

/-- One piece is changed in its own blocks alone, the world else only grows. -/
theorem St.upd {B : Nat} {w0 w w' : World} {A A' : HP} {H K : List HP} (h : St B w0 H w) (u : Upd A A' H K)
    (hos : w'.os = w.os) (ht : w'.tape = w.tape) (hout : w'.output = w.output) (hsz : w.heap.size ≤ w'.heap.size)
    (hA : ∀ S1 : Nat → Prop, A.holds S1 w → A'.holds S1 w' ∧ ∀ b, ¬ S1 b → b < w.heap.size → w'.heap[b]? = w.heap[b]?) : St B w0 K w' :=
  h.updN u hos ht hout hsz fun S1 hS => let ⟨k1, k2⟩ := hA S1 hS; ⟨⟨S1, k1, fun _ hb => .inl hb⟩, k2⟩

theorem St.setCell {B : Nat} {w0 w : World} {H K : List HP} {g i : Nat} {cs : Array Value} {t : TypeId} {fr : Nat × Nat} {v : Value} (h : St B w0 H w)
    (u : Upd (Eng.blk g (.cells cs t fr)) (Eng.blk g (.cells (cs.setIfInBounds i v) t fr)) H K) : St B w0 K (w.setCell ⟨g, i, none⟩ v) := by
  refine h.upd u rfl rfl rfl (by simp) fun S1 ⟨h1, h2⟩ => ⟨⟨h1, ?_⟩, fun b hb _ => Below.heap_setCell w _ v b (fun e => hb (e ▸ h1))⟩
  simp [World.setCell, Array.getElem?_modify, h2]

/-! ### Frames -/

abbrev Env := List (Nat × Value)

def get : Env → Nat → Option Value
  | [], _ => none
  | (s, v) :: e, t => if s = t then some v else get e t

def evo (env : Env) : Operand → Option Value
  | .tmp t => get env t
  | .const v => some v
  | .global g => some (.pointer (some ⟨g, 0, none⟩))
  | .func f => some (.func (.func f) #[] #[])

/-- The shape of a frame: how many slots, what is deferred, and the round of a range over a function in which it goes. -/
structure Shp where
  k : Nat
  ds : List Deferred
  r : Option Nat
structure Fits (n : Shp) (a : Act) (env : Env) : Prop where
  defers : a.defers = n.ds
  size : a.tmps.size = n.k
  slot : ∀ t v, get env t = some v → a.tmps[t]? = some v

theorem Fits.eval {n : Shp} {a : Act} {env : Env} (h : Fits n a env) {x : Operand} {v : Value} (hx : evo env x = some v) : a.eval x = v := by
  cases x with
  | tmp t => have := h.slot t v hx; simp [Act.eval, Array.getD_eq_getD_getElem?, this]
  | const c => exact Option.some.inj hx
  | global g => exact Option.some.inj hx
  | func f => exact Option.some.inj hx

theorem Fits.put {n : Shp} {a : Act} {env : Env} (h : Fits n a env) {d : Nat} (hd : d < n.k) (v : Value) : Fits n (a.put (some d) v) ((d, v) :: env) := by
  refine ⟨h.defers, by simp [Act.put, h.size], fun t u ht => ?_⟩
  by_cases e : d = t
  · subst e
    simp only [get, if_true, Option.some.injEq] at ht
    subst ht
    simp [Act.put, h.size, hd]
  · rw [get, if_neg e] at ht
    simp [Act.put, e, h.slot t u ht]

theorem Fits.sub {n : Shp} {a : Act} {env env' : Env} (h : Fits n a env) (hs : ∀ t v, get env' t = some v → get env t = some v) : Fits n a env' :=
  ⟨h.defers, h.size, fun t v ht => h.slot t v (hs t v ht)⟩

/-! ### Code in a plain frame, and in a round -/

def plainOp (o : Oper) : Bool :=
  match o.op with
  | .defer _ => false
  | _ => true
/-- No defer statement, no scope with labels. -/
def calm : Code → Bool
  | .seq x y => calm x && calm y
  | .cond _ x y => calm x && calm y
  | .loop c => calm c
  | .block _ c => calm c
  | .region _ ops _ => ops.toList.all plainOp
  | .rangeFunc _ _ x y => calm x && calm y
  | .scope _ => false
  | _ => true
/-- What code comes to, in a frame of its own or in a round. -/
def wpR (P : Program) (r : Option Nat) (c : Code) (Q : Exit → Act → World → Prop) (a : Act) (w : World) : Prop :=
  match r with
  | none => c.wp P Q a w
  | some l => ¬ LetsOut Q → calm c = true → c.wpIn (Fence.wide.inRound l) 0 P Q a w

section
variable {P : Program} {r : Option Nat} {Q : Exit → Act → World → Prop} {a : Act} {w : World}
theorem wpR_mono {c : Code} {Q' : Exit → Act → World → Prop} (h : wpR P r c Q a w) (hq : ∀ e a w, Q e a w → Q' e a w) : wpR P r c Q' a w := by
  cases r with
  | none => exact wp_mono h hq
  | some l => exact fun hlo hc => wpIn_mono (h (fun ⟨a, w, hl⟩ => hlo ⟨a, w, hq _ _ _ hl⟩) hc) hq
theorem wpR_seq {x y : Code} (h : wpR P r x (Exit.then (wpR P r y Q) Q) a w) : wpR P r (.seq x y) Q a w := by
  cases r with
  | none => exact wp_seq h
  | some l =>
    intro hlo hc
    simp only [calm, Bool.and_eq_true] at hc
    refine wpIn_seq (wpIn_mono (h (fun ⟨a, w, hl⟩ => hlo ⟨a, w, hl⟩) hc.1) fun e a w hq => ?_)
    cases e <;> first | exact hq | exact hq hlo hc.2
theorem wpR_block {id : Nat} {c : Code} (h : wpR P r c (Exit.inBlock id Q) a w) : wpR P r (.block id c) Q a w := by
  cases r with
  | none => exact wp_block h
  | some l => exact fun hlo hc => wpIn_block (h (fun ⟨a, w, hl⟩ => hlo ⟨a, w, hl⟩) hc)
theorem wpR_skip (h : Q .normal a w) : wpR P r .skip Q a w := by
  cases r with
  | none => exact wp_skip h
  | some l => exact fun _ _ => wpIn_skip h
theorem wpR_ret (h : Q .ret a w) : wpR P r .ret Q a w := by
  cases r with
  | none => exact wp_ret h
  | some l => exact fun _ _ => wpIn_ret h
theorem wpR_exit {id : Nat} (h : Q (.exit id) a w) : wpR P r (.exit id) Q a w := by
  cases r with
  | none => exact wp_exit h
  | some l => exact fun _ _ => wpIn_exit h
theorem wpR_cond {c : Operand} {x y : Code} {t : Bool} (hc : a.eval c = .bool t) (ht : t = true → wpR P r x Q a w) (hf : t = false → wpR P r y Q a w) : wpR P r (.cond c x y) Q a w := by
  cases r with
  | none => exact wp_cond_split hc ht hf
  | some l =>
    intro hlo hca
    simp only [calm, Bool.and_eq_true] at hca
    exact wpIn_cond_split hc (fun e => ht e hlo hca.1) (fun e => hf e hlo hca.2)
theorem rowsIn_wide {n l : Nat} {row : String} {args : Array Value} {R : Value → World → Prop} (h : Rows P row args w R) : RowsIn (Fence.wide.inRound l) n P row args w R := fun c cs _ => by
  obtain ⟨v, w', h1, h2⟩ := h c cs
  exact ⟨v, w', h1, stepsIn_wide.2 h2⟩
/-- What an operation comes to holds in a round, too. -/
theorem operIn_of {l n : Nat} {o : Oper} {K : Act → World → Prop} (hp : plainOp o = true) (h : o.wp P a w K Q) : o.wpIn (Fence.wide.inRound l) n P a w K Q := by
  have hs : Oper.semAt (some l) a.eval o = execOp a.eval o := Oper.semAt_some l _ o fun c e => by
    unfold plainOp at hp
    rw [e] at hp
    cases hp
  refine ⟨fun f _ => trivial, ?_⟩
  rw [Fence.inRound_round, hs]
  unfold Oper.wp at h
  generalize (execOp a.eval o).run P w = res at h ⊢
  cases res with
  | ok x w' =>
    cases x <;> simp only [Oper.upon, Oper.uponIn] at h ⊢ <;> first
      | exact h
      | (refine ⟨fun hd => by simp [Fence.wide] at hd, ?_⟩
         refine CallsIn.mono (CallsIn.inRound l (callsIn_wide.2 h)) fun e w'' he => ?_
         cases e <;> exact he)
      | exact ⟨fun hd => by simp [Fence.wide] at hd, rowsIn_wide h⟩
      | exact h.elim
  | halt x w' => cases x <;> simp only [Oper.upon, Oper.uponIn] at h ⊢ <;> first | exact h | exact h.elim
theorem listIn_of {l n : Nat} {ops : Array Oper} (hlo : ¬ LetsOut Q) : ∀ (os : List Oper) (a : Act) (w : World), os.all plainOp = true → wpList P ops Q os a w → wpListIn (Fence.wide.inRound l) n P ops Q os a w
  | [], _, _, _, h => h
  | o :: os, a, w, hc, h => by
    simp only [List.all_cons, Bool.and_eq_true] at hc
    unfold wpList at h
    unfold wpListIn
    split
    · rename_i hw
      rw [if_pos hw] at h
      rcases h with h | ⟨_, h⟩
      · exact operIn_of hc.1 (Oper.wp_mono (fun a w h => listIn_of hlo os a w hc.2 h) h)
      · exact (hlo h).elim
    · rename_i hw
      rw [if_neg hw] at h
      exact ⟨fun f _ => trivial, listIn_of hlo os _ w hc.2 h⟩
theorem anyIn_of {l n : Nat} {ops : Array Oper} (hlo : ¬ LetsOut Q) (hc : ops.toList.all plainOp = true) : ∀ (fuel : Nat) (listed : Array Bool) (a : Act) (w : World), wpAny P .any ops Q fuel listed a w → wpAnyIn (Fence.wide.inRound l) n P .any ops Q fuel listed a w
  | 0, _, _, _, h => h
  | fuel + 1, listed, a, w, h => by
    refine ⟨h.1, fun i hi => ?_⟩
    have h2 := h.2 i hi
    unfold wpOp at h2
    unfold wpOpIn
    cases ho : ops[i]? with
    | none => rw [ho] at h2; exact anyIn_of hlo hc fuel _ a w h2
    | some o =>
      rw [ho] at h2
      have hpl : plainOp o = true := by
        have := Array.getElem?_eq_some_iff.1 ho
        exact List.all_eq_true.1 hc o (by rw [← this.2]; simp)
      simp only at h2 ⊢
      split
      · rename_i hw
        rw [if_pos hw] at h2
        rcases h2 with h2 | ⟨_, h2⟩
        · exact operIn_of hpl (Oper.wp_mono (fun a w h => anyIn_of hlo hc fuel _ a w h) h2)
        · exact (hlo h2).elim
      · rename_i hw
        rw [if_neg hw] at h2
        exact ⟨fun f _ => trivial, anyIn_of hlo hc fuel _ _ w h2⟩
theorem wpR_region {id : Nat} {l : List Oper} (h : wpList P l.toArray Q l a w) : wpR P r (.region id l.toArray false) Q a w := by
  cases r with
  | none => exact wp_region_lit h
  | some k => exact fun hlo hc => wpIn_region_lit (listIn_of hlo l a w (by simpa [calm] using hc) h)
theorem wpR_any {id : Nat} {ops : Array Oper} (hm : P.follows .mixedOrders = true) (h : wpAny P .any ops Q ops.size (Array.replicate ops.size false) a w.drew) : wpR P r (.region id ops true) Q a w := by
  cases r with
  | none => exact wp_region_any hm h
  | some k => exact fun hlo hc => wpIn_region_any hm (anyIn_of hlo (by simpa [calm] using hc) _ _ a _ h)
theorem wpR_quiet {id : Nat} {ops : Array Oper} {C : World → Prop} (hm : P.follows .mixedOrders = true) (hB : Region.lexB .any ops = true) (hC : C w.drew)
    (h : wpQuiet P ops C (fun a' => ∀ w', C w' → Q .normal a' w') ops.toList a) : wpR P r (.region id ops true) Q a w := by
  simp only [Region.lexB, Bool.and_eq_true] at hB
  refine wpR_any hm (wpAny_of_quiet (Q := fun a' => ∀ w', C w' → Q .normal a' w') (fun _ w' hw' h => h w' hw') _ _ _ _ hC ?_)
  have := wpAnyQ_lex (C := C) (md := .any) hB.1 ops.toList 0 (Array.replicate ops.size false) a (by simp) (by simpa using hB.2) h
  simpa using this
theorem wpR_loop {c : Code} (I : Nat → Act → World → Prop) (n₀ : Nat) (h₀ : I n₀ a w)
    (round : ∀ n a w, I n a w → wpR P r c (Exit.then (fun a' w' => ∃ n', n' < n ∧ I n' a' w') Q) a w) : wpR P r (.loop c) Q a w := by
  cases r with
  | none => exact wp_loop_ghost I n₀ h₀ round
  | some l => exact fun hlo hc => wpIn_loop_ghost I n₀ h₀ fun n a w hI => round n a w hI (fun ⟨a, w, hl⟩ => hlo ⟨a, w, hl⟩) hc
end

/-! ### What is to be shown of code -/

structure VQ (n : Shp) (B : Nat) (w0 : World) (Q : Exit → Act → World → Prop) (e : Exit) (env : Env) (H : List HP) : Prop where
  run : ∀ a w, Fits n a env → St B w0 H w → Q e a w

structure VC (P : Program) (n : Shp) (B : Nat) (w0 : World) (c : Code) (Q : Exit → Act → World → Prop) (env : Env) (H : List HP) : Prop where
  run : ∀ a w, Fits n a env → St B w0 H w → wpR P n.r c Q a w

/-- Operations that may change memory, or run other code. -/
def eff (o : Oper) : Bool :=
  match o.op with
  | .move _ | .assign _ | .pick _ _ _ | .build _ _ | .load _ _ | .nilCheck _ | .binOp _ _ _ _ _ | .unOp _ _ _ | .slice _ _ _ _ _ | .fieldAddr _ _ _ | .field _ _ _ | .indexAddr _ _ _ | .index _ _ _ | .lookup _ _ _ _ | .extract _ _ => false
  | .call ⟨.builtin .len, _, _⟩ | .call ⟨.builtin .min, _, _⟩ | .call ⟨.builtin .max, _, _⟩ | .call ⟨.builtin .cap, _, _⟩ => false
  | .convert _ _ _ => false
  | _ => true

/-- A walk through a region that draws its order: what only reads is taken as soon as it may come up; S holds behind each operation. -/
def wpHeld (P : Program) (ops : Array Oper) (Q : Exit → Act → World → Prop) (S : World → Prop) : List Oper → Act → World → Prop
  | [], a, w => Q .normal a w
  | o :: rest, a, w =>
    if eff o then
      (if Region.wanted o (yielded ops a.tmps) then o.wp P a w (fun a' w' => S w' ∧ wpHeld P ops Q S rest a' w') Q else wpHeld P ops Q S rest (a.put o.dst undef) w)
    else ∃ v, YieldsIf P ops S o v a ∧ wpHeld P ops Q S rest (a.put o.dst v) w

/-- How a region's operations are walked: none: in the order of the text; some none: in every order, nothing being written; some (some F): in every order, the pieces F beside being written. -/
abbrev Mode := Option (Option (List HP))

/-- What one walk of a region's operations shows. -/
def VLrun (P : Program) (m : Mode) (B : Nat) (w0 : World) (ops : Array Oper) (Q : Exit → Act → World → Prop) (l : List Oper) (a : Act) (H : List HP) : Prop :=
  match m with
  | none => ∀ w, St B w0 H w → wpList P ops Q l a w
  | some none => wpQuiet P ops (St B w0 H) (fun a' => ∀ w, St B w0 H w → Q .normal a' w) l a
  | some (some F) => ∀ w, St B w0 (H ++ F) w → wpHeld P ops Q (St B w0 H) l a w

structure VL (P : Program) (m : Mode) (n : Shp) (B : Nat) (w0 : World) (ops : Array Oper) (Q : Exit → Act → World → Prop) (l : List Oper) (env : Env) (H : List HP) : Prop where
  run : ∀ a, Fits n a env → VLrun P m B w0 ops Q l a H

/-- How a call ends: it returns v and leaves the pieces H', of which Φ holds. -/
def Post (B : Nat) (w0 : World) (Φ : Value → List HP → Prop) (e : Ending) (w : World) : Prop := ∃ v H, e = .returned v ∧ St B w0 H w ∧ Φ v H

section
variable {P : Program} {n : Shp} {B : Nat} {w0 : World} {Q : Exit → Act → World → Prop} {env : Env} {H : List HP}

theorem VC_seq {x y : Code} (h : VC P n B w0 x (Exit.then (wpR P n.r y Q) Q) env H) : VC P n B w0 (.seq x y) Q env H := ⟨fun a w ha hw => wpR_seq (h.run a w ha hw)⟩
theorem VC_block {id : Nat} {c : Code} (h : VC P n B w0 c (Exit.inBlock id Q) env H) : VC P n B w0 (.block id c) Q env H := ⟨fun a w ha hw => wpR_block (h.run a w ha hw)⟩
theorem VC_skip (h : VQ n B w0 Q .normal env H) : VC P n B w0 .skip Q env H := ⟨fun a w ha hw => wpR_skip (h.run a w ha hw)⟩
theorem VC_ret (h : VQ n B w0 Q .ret env H) : VC P n B w0 .ret Q env H := ⟨fun a w ha hw => wpR_ret (h.run a w ha hw)⟩
theorem VC_exit {id : Nat} (h : VQ n B w0 Q (.exit id) env H) : VC P n B w0 (.exit id) Q env H := ⟨fun a w ha hw => wpR_exit (h.run a w ha hw)⟩
theorem VC_cond_true {c : Operand} {x y : Code} (hc : evo env c = some (.bool true)) (h : VC P n B w0 x Q env H) : VC P n B w0 (.cond c x y) Q env H :=
  ⟨fun a w ha hw => wpR_cond (ha.eval hc) (fun _ => h.run a w ha hw) (fun e => by cases e)⟩
theorem VC_cond_false {c : Operand} {x y : Code} (hc : evo env c = some (.bool false)) (h : VC P n B w0 y Q env H) : VC P n B w0 (.cond c x y) Q env H :=
  ⟨fun a w ha hw => wpR_cond (ha.eval hc) (fun e => by cases e) (fun _ => h.run a w ha hw)⟩
theorem VC_region {id : Nat} {l : List Oper} (h : VL P none n B w0 l.toArray Q l env H) : VC P n B w0 (.region id l.toArray false) Q env H := ⟨fun a w ha hw => wpR_region (h.run a ha w hw)⟩
/-- A region that draws its order, and writes nothing. -/
theorem VC_draw {id : Nat} {l : List Oper} (hm : P.follows .mixedOrders = true) (hB : Region.lexB .any l.toArray = true) (h : VL P (some none) n B w0 l.toArray Q l env H) : VC P n B w0 (.region id l.toArray true) Q env H :=
  ⟨fun a _ ha hw => wpR_quiet (C := St B w0 H) hm hB (hw.drew) (by rw [List.toList_toArray]; exact h.run a ha)⟩

theorem VQ_then {y : Code} (h : VC P n B w0 y Q env H) : VQ n B w0 (Exit.then (wpR P n.r y Q) Q) .normal env H := ⟨fun a w ha hw => h.run a w ha hw⟩
theorem VQ_then_ret {K : Act → World → Prop} (h : VQ n B w0 Q .ret env H) : VQ n B w0 (Exit.then K Q) .ret env H := ⟨fun a w ha hw => h.run a w ha hw⟩
theorem VQ_then_exit {K : Act → World → Prop} {id : Nat} (h : VQ n B w0 Q (.exit id) env H) : VQ n B w0 (Exit.then K Q) (.exit id) env H := ⟨fun a w ha hw => h.run a w ha hw⟩
theorem VQ_block_normal {id : Nat} (h : VQ n B w0 Q .normal env H) : VQ n B w0 (Exit.inBlock id Q) .normal env H := ⟨fun a w ha hw => h.run a w ha hw⟩
theorem VQ_block_ret {id : Nat} (h : VQ n B w0 Q .ret env H) : VQ n B w0 (Exit.inBlock id Q) .ret env H := ⟨fun a w ha hw => h.run a w ha hw⟩
theorem VQ_block_exit {id : Nat} (h : VQ n B w0 Q .normal env H) : VQ n B w0 (Exit.inBlock id Q) (.exit id) env H :=
  ⟨fun a w ha hw => by simp only [Exit.inBlock, if_true]; exact h.run a w ha hw⟩
/-- What a round hands on. -/
def Next {α : Type} (n : Shp) (B : Nat) (w0 : World) (E : α → Env) (HH : α → List HP) (I : α → Prop) (μ : α → Nat) (x : α) (a : Act) (w : World) : Prop :=
  ∃ y, I y ∧ μ y < μ x ∧ Fits n a (E y) ∧ St B w0 (HH y) w

/-- A loop: x is what changes from round to round. -/
theorem VC_loop {α : Type} (E : α → Env) (HH : α → List HP) (I : α → Prop) (μ : α → Nat) {c : Code} (x0 : α) (h0 : I x0)
    (he : ∀ t v, get (E x0) t = some v → get env t = some v) (hH : ∀ w, St B w0 H w → St B w0 (HH x0) w)
    (round : ∀ x, I x → VC P n B w0 c (Exit.then (Next n B w0 E HH I μ x) Q) (E x) (HH x)) : VC P n B w0 (.loop c) Q env H := by
  refine ⟨fun a w ha hw => wpR_loop (fun k a w => ∃ x, μ x = k ∧ I x ∧ Fits n a (E x) ∧ St B w0 (HH x) w) (μ x0) ⟨x0, rfl, h0, ha.sub he, hH w hw⟩ ?_⟩
  rintro k a w ⟨x, rfl, hx, ha, hw⟩
  refine wpR_mono ((round x hx).run a w ha hw) ?_
  intro e a w hq
  cases e with
  | normal => obtain ⟨y, h1, h2, h3, h4⟩ := hq; exact ⟨μ y, h2, y, rfl, h1, h3, h4⟩
  | exit id => exact hq
  | goto l => exact hq
  | ret => exact hq
  | panic ch => exact hq
  | outgrown => exact hq

theorem VQ_round {α : Type} {E : α → Env} {HH : α → List HP} {I : α → Prop} {μ : α → Nat} {x : α} (y : α) (hI : I y) (hμ : μ y < μ x)
    (he : ∀ t v, get (E y) t = some v → get env t = some v) (hH : ∀ w, St B w0 H w → St B w0 (HH y) w) : VQ n B w0 (Exit.then (Next n B w0 E HH I μ x) Q) .normal env H :=
  ⟨fun _ w ha hw => ⟨y, hI, hμ, ha.sub he, hH w hw⟩⟩

theorem sub_nil (env : Env) : ∀ t v, get [] t = some v → get env t = some v := fun _ _ h => by cases h
theorem sub_cons {env e : Env} {t : Nat} {v : Value} (h : get env t = some v) (he : ∀ t v, get e t = some v → get env t = some v) : ∀ t' v', get ((t, v) :: e) t' = some v' → get env t' = some v' := by
  intro t' v' h'
  by_cases e' : t = t'
  · subst e'; rw [get, if_pos rfl] at h'; rw [← h']; exact h
  · rw [get, if_neg e'] at h'; exact he _ _ h'

/-- Other pieces. -/
theorem VC_st {c : Code} (H' : List HP) (hH : ∀ w, St B w0 H w → St B w0 H' w) (h : VC P n B w0 c Q env H') : VC P n B w0 c Q env H := ⟨fun a w ha hw => h.run a w ha (hH w hw)⟩
theorem VL_st {ops : Array Oper} {l : List Oper} (H' : List HP) (hH : ∀ w, St B w0 H w → St B w0 H' w) (h : VL P none n B w0 ops Q l env H') : VL P none n B w0 ops Q l env H := ⟨fun a ha w hw => h.run a ha w (hH w hw)⟩

theorem VQ_tail {e : Exit} {A : HP} (h : VQ n B w0 Q e env H) : VQ n B w0 Q e env (A :: H) := ⟨fun a w ha hw => h.run a w ha hw.tail⟩
theorem VQ_st {e : Exit} (H' : List HP) (hH : ∀ w, St B w0 H w → St B w0 H' w) (h : VQ n B w0 Q e env H') : VQ n B w0 Q e env H := ⟨fun a w ha hw => h.run a w ha (hH w hw)⟩

/-! ### Entering and leaving a function -/

def argEnv : Nat → List Value → Env
  | _, [] => []
  | i, v :: l => (i, v) :: argEnv (i + 1) l

theorem get_argEnv : ∀ (l : List Value) (i t : Nat) (v : Value), get (argEnv i l) t = some v → i ≤ t ∧ l[t - i]? = some v
  | [], i, t, v, h => by cases h
  | u :: l, i, t, v, h => by
    by_cases e : i = t
    · subst e; rw [argEnv, get, if_pos rfl] at h; simp at h; simp [h]
    · rw [argEnv, get, if_neg e] at h
      obtain ⟨h1, h2⟩ := get_argEnv l (i + 1) t v h
      refine ⟨by omega, ?_⟩
      rw [show t - i = (t - (i + 1)) + 1 by omega]
      simpa using h2

theorem Calls_of_VC {n : Nat} {f : FuncId} {fn : Func} {c : Code} {args : List Value} {w : World} {Φ : Value → List HP → Prop} (hf : P.funcs[f]? = some fn) (hn : fn.ntmps = n) (hb : fn.body = some c)
    (hle : Nat.ble args.length n = true) (hw : St B w0 H w) (h : VC P ⟨n, [], none⟩ B w0 c (bodyPost P fn (Post B w0 Φ)) (argEnv 0 args) H) : Calls P f args.toArray w (Post B w0 Φ) := by
  refine calls_of_wp hf hb (h.run _ w ⟨rfl, ?_, fun t v ht => ?_⟩ hw)
  · have := Nat.le_of_ble_eq_true hle; simp; omega
  · obtain ⟨_, h2⟩ := get_argEnv args 0 t v ht
    rw [Nat.sub_zero] at h2
    have hlt : t < args.length := by
      rcases Nat.lt_or_ge t args.length with h | h
      · exact h
      · rw [List.getElem?_eq_none h] at h2; cases h2
    rw [Array.getElem?_append_left (by simpa using hlt)]
    simpa using h2

theorem VQ_ret1 {n : Nat} {fn : Func} {Φ : Value → List HP → Prop} {t : Nat} {v : Value} (hr : fn.results = #[.tmp t]) (hv : get env t = some v) (h : Φ v H) : VQ ⟨n, [], none⟩ B w0 (bodyPost P fn (Post B w0 Φ)) .ret env H :=
  ⟨fun a w ha hw => bodyPost_ret (results_tmp hr _ _ _) ha.defers ⟨v, H, by rw [Array.getD_eq_getD_getElem?, ha.slot t v hv]; rfl, hw, h⟩⟩
theorem VQ_ret2 {n : Nat} {fn : Func} {Φ : Value → List HP → Prop} {t u : Nat} {v x : Value} (hr : fn.results = #[.tmp t, .tmp u]) (hv : get env t = some v) (hx : get env u = some x) (h : Φ (.tuple #[v, x]) H) :
    VQ ⟨n, [], none⟩ B w0 (bodyPost P fn (Post B w0 Φ)) .ret env H :=
  ⟨fun a w ha hw => bodyPost_ret (results_tmp2 hr _ _ _) ha.defers ⟨_, H, by rw [Array.getD_eq_getD_getElem?, Array.getD_eq_getD_getElem?, ha.slot t v hv, ha.slot u x hx]; rfl, hw, h⟩⟩
theorem VQ_end0 {n : Nat} {fn : Func} {Φ : Value → List HP → Prop} (hr : fn.results = #[]) (h : Φ (.tuple #[]) H) : VQ ⟨n, [], none⟩ B w0 (bodyPost P fn (Post B w0 Φ)) .normal env H :=
  ⟨fun _ _ ha hw => bodyPost_end (results_none hr _ _ _) ha.defers ⟨_, H, rfl, hw, h⟩⟩
theorem VQ_ret0 {n : Nat} {fn : Func} {Φ : Value → List HP → Prop} (hr : fn.results = #[]) (h : Φ (.tuple #[]) H) : VQ ⟨n, [], none⟩ B w0 (bodyPost P fn (Post B w0 Φ)) .ret env H :=
  ⟨fun _ _ ha hw => bodyPost_ret (results_none hr _ _ _) ha.defers ⟨_, H, rfl, hw, h⟩⟩

/-! ### Operations: the general laws -/

variable {ops : Array Oper} {rest : List Oper}

theorem VL_nil (h : VQ n B w0 Q .normal env H) : VL P none n B w0 ops Q [] env H := ⟨fun a ha w hw => wpList_nil (h.run a w ha hw)⟩
theorem VL_nilq (h : VQ n B w0 Q .normal env H) : VL P (some none) n B w0 ops Q [] env H := ⟨fun a ha => show ∀ w, St B w0 H w → Q .normal a w from fun w hw => h.run a w ha hw⟩

theorem VL_opE {o : Oper} {d : Nat} (Φ : Value → List HP → Prop) (hg : o.guard = none) (hd : o.dst = some d) (hn : Nat.ble (d + 1) n.k = true)
    (hr : ∀ a w, Fits n a env → St B w0 H w → ∃ v H' w', (execOp a.eval o).run P w = .ok (.value v) w' ∧ St B w0 H' w' ∧ Φ v H')
    (h : ∀ v H', Φ v H' → VL P none n B w0 ops Q rest ((d, v) :: env) H') : VL P none n B w0 ops Q (o :: rest) env H := by
  refine ⟨fun a ha w hw => wpList_plain hg fun K hK => ?_⟩
  obtain ⟨v, H', w', hrun, hst, hΦ⟩ := hr a w ha hw
  unfold Oper.wp
  rw [hrun, Oper.upon_value, hd]
  exact hK _ _ ((h v H' hΦ).run _ (ha.put (Nat.le_of_ble_eq_true hn) v) _ hst)

theorem VL_op {o : Oper} {d : Nat} {v : Value} {H' : List HP} (hg : o.guard = none) (hd : o.dst = some d) (hn : Nat.ble (d + 1) n.k = true)
    (hr : ∀ a w, Fits n a env → St B w0 H w → ∃ w', (execOp a.eval o).run P w = .ok (.value v) w' ∧ St B w0 H' w')
    (h : VL P none n B w0 ops Q rest ((d, v) :: env) H') : VL P none n B w0 ops Q (o :: rest) env H :=
  VL_opE (fun u K => u = v ∧ K = H') hg hd hn (fun a w ha hw => let ⟨w', h1, h2⟩ := hr a w ha hw; ⟨v, H', w', h1, h2, rfl, rfl⟩) (by rintro _ _ ⟨rfl, rfl⟩; exact h)

theorem yields_held {o : Oper} {a : Act} {w : World} {v : Value} (hne : eff o = false) (hy : YieldsIf P ops (St B w0 H) o v a) (h : wpHeld P ops Q (St B w0 H) rest (a.put o.dst v) w) :
    wpHeld P ops Q (St B w0 H) (o :: rest) a w := by
  unfold wpHeld
  rw [if_neg (by rw [hne]; simp)]
  exact ⟨v, hy, h⟩

/-- An operation that leaves the world alone. -/
theorem VL_pure {m : Mode} {o : Oper} {d : Nat} {v : Value} (hg : o.guard = none) (hd : o.dst = some d) (hn : Nat.ble (d + 1) n.k = true) (hne : eff o = false)
    (hr : ∀ a w, Fits n a env → St B w0 H w → (execOp a.eval o).run P w = .ok (.value v) w)
    (h : VL P m n B w0 ops Q rest ((d, v) :: env) H) : VL P m n B w0 ops Q (o :: rest) env H := by
  match m with
  | none => exact VL_op hg hd hn (fun a w ha hw => ⟨w, hr a w ha hw, hw⟩) h
  | some none =>
    refine ⟨fun a ha => wpQuiet_step fun K hK => ?_⟩
    rw [if_pos (by simp [Region.wanted, hg])]
    refine ⟨v, fun w hw => ?_, hK _ ?_⟩
    · unfold Oper.quietAt; rw [hr a w ha hw]; exact ⟨rfl, rfl⟩
    · rw [hd]; exact h.run _ (ha.put (Nat.le_of_ble_eq_true hn) v)
  | some (some F) =>
    refine ⟨fun a ha w hw => yields_held hne (.inl ⟨by simp [Region.wanted, hg], fun w' hw' => hr a w' ha hw'⟩) ?_⟩
    rw [hd]; exact h.run _ (ha.put (Nat.le_of_ble_eq_true hn) v) w hw

/-- An operation without a value. -/
theorem VL_skip {o : Oper} {H' : List HP} (hg : o.guard = none) (hd : o.dst = none)
    (hr : ∀ a w, Fits n a env → St B w0 H w → ∃ w', (execOp a.eval o).run P w = .ok .skip w' ∧ St B w0 H' w')
    (h : VL P none n B w0 ops Q rest env H') : VL P none n B w0 ops Q (o :: rest) env H := by
  refine ⟨fun a ha w hw => wpList_plain hg fun K hK => ?_⟩
  obtain ⟨w', hrun, hst⟩ := hr a w ha hw
  unfold Oper.wp
  rw [hrun, Oper.upon_skip, hd]
  exact hK _ _ (h.run _ ha _ hst)

theorem VL_guard_yes {m : Mode} {dst : Option Tmp} {op : Op} {ty : TypeId} {pos : String} {after : Array Edge} {j s : Nat} {b : Bool} {oj : Oper} (hj : ops[j]? = some oj) (hs : oj.dst = some s)
    (hv : get env s = some (.bool b)) (h : VL P m n B w0 ops Q (⟨dst, op, ty, pos, after, none⟩ :: rest) env H) : VL P m n B w0 ops Q (⟨dst, op, ty, pos, after, some (j, b)⟩ :: rest) env H := by
  have hy : ∀ a : Act, Fits n a env → Region.wanted ⟨dst, op, ty, pos, after, some (j, b)⟩ (yielded ops a.tmps) = true := fun a ha => by simp [Region.wanted, yielded, hj, hs, ha.slot s _ hv]
  match m with
  | none =>
    refine ⟨fun a ha w hw => ?_⟩
    have h1 := h.run a ha w hw
    unfold wpList at h1 ⊢
    rw [if_pos (by rfl)] at h1
    rw [if_pos (hy a ha)]
    exact h1
  | some none =>
    refine ⟨fun a ha => ?_⟩
    have h1 := h.run a ha
    unfold VLrun wpQuiet at h1 ⊢
    simp only at h1 ⊢
    rw [if_pos (by rfl)] at h1
    rw [if_pos (hy a ha)]
    exact h1
  | some (some F) =>
    refine ⟨fun a ha w hw => ?_⟩
    have h1 := h.run a ha w hw
    unfold wpHeld at h1 ⊢
    have he : eff ⟨dst, op, ty, pos, after, some (j, b)⟩ = eff ⟨dst, op, ty, pos, after, none⟩ := rfl
    rw [he]
    by_cases hef : eff ⟨dst, op, ty, pos, after, none⟩ = true
    · rw [if_pos hef] at h1 ⊢
      rw [if_pos (by rfl)] at h1
      rw [if_pos (hy a ha)]
      exact h1
    · rw [if_neg hef] at h1 ⊢
      obtain ⟨v, hyi, h2⟩ := h1
      refine ⟨v, ?_, h2⟩
      rcases hyi with ⟨_, h3⟩ | ⟨h3, _⟩
      · exact .inl ⟨hy a ha, h3⟩
      · cases h3

/-- v is not the bool b. -/
def notB (v : Value) (b : Bool) : Bool :=
  match v with
  | .bool c => c != b
  | _ => true

theorem VL_guard_no {m : Mode} {d : Nat} {op : Op} {ty : TypeId} {pos : String} {after : Array Edge} {j s : Nat} {b : Bool} {v : Value} {oj : Oper} (hj : ops[j]? = some oj) (hs : oj.dst = some s)
    (hv : get env s = some v) (hne : notB v b = true) (hn : Nat.ble (d + 1) n.k = true)
    (h : VL P m n B w0 ops Q rest ((d, undef) :: env) H) : VL P m n B w0 ops Q (⟨some d, op, ty, pos, after, some (j, b)⟩ :: rest) env H := by
  have hy : ∀ a : Act, Fits n a env → Region.wanted ⟨some d, op, ty, pos, after, some (j, b)⟩ (yielded ops a.tmps) = false := by
    intro a ha
    have hsl := ha.slot s _ hv
    cases v <;> simp [Region.wanted, yielded, hj, hs, hsl]
    rename_i c
    cases b <;> cases c <;> simp_all [notB]
  match m with
  | none => exact ⟨fun a ha w hw => wpList_skip (hy a ha) (h.run _ (ha.put (Nat.le_of_ble_eq_true hn) _) w hw)⟩
  | some none =>
    refine ⟨fun a ha => ?_⟩
    have h1 := h.run _ (ha.put (Nat.le_of_ble_eq_true hn) undef)
    unfold VLrun wpQuiet at h1 ⊢
    simp only at h1 ⊢
    rw [if_neg (by rw [hy a ha]; simp)]
    unfold wpQuiet
    exact h1
  | some (some F) =>
    refine ⟨fun a ha w hw => ?_⟩
    have h1 := h.run _ (ha.put (Nat.le_of_ble_eq_true hn) undef) w hw
    by_cases hef : eff ⟨some d, op, ty, pos, after, some (j, b)⟩ = true
    · unfold wpHeld
      rw [if_pos hef, if_neg (by rw [hy a ha]; simp)]
      exact h1
    · exact yields_held (by simpa using hef) (.inr ⟨hy a ha, rfl⟩) h1

/-- A region that draws its order, whose operations only read. -/
theorem VC_drawp {id : Nat} {l : List Oper} (hq : (l.all fun o => !eff o) = true) (hm : P.follows .mixedOrders = true) (hB : Region.lexB .any l.toArray = true) (h : VL P (some none) n B w0 l.toArray Q l env H) : VC P n B w0 (.region id l.toArray true) Q env H :=
  VC_draw hm (by have := hq; exact hB) h

/-- The operands are these values. -/
def Args (env : Env) : List Operand → List Value → Prop
  | [], [] => True
  | x :: l, v :: vs => evo env x = some v ∧ Args env l vs
  | _, _ => False
theorem args_nil {env : Env} : Args env [] [] := trivial
theorem args_cons {env : Env} {x : Operand} {v : Value} {l : List Operand} {vs : List Value} (h : evo env x = some v) (hl : Args env l vs) : Args env (x :: l) (v :: vs) := ⟨h, hl⟩

theorem map_evo {n : Shp} {a : Act} {env : Env} (ha : Fits n a env) : ∀ (l : List Operand) (us : List Value), Args env l us → l.map a.eval = us
  | [], [], _ => rfl
  | [], _ :: _, h => h.elim
  | _ :: _, [], h => h.elim
  | x :: l, u :: us, h => by rw [List.map_cons, ha.eval h.1, map_evo ha l us h.2]

theorem run_call {a : Act} (ha : Fits n a env) {d f : Nat} {args : List Operand} {tys : Array TypeId} {ty : TypeId} {pos : String} {after : Array Edge} {vs : List Value}
    (hc : ∀ xs w, (callFunc f xs).run P w = .ok (.enter f xs) w) (hargs : Args env args vs) (w : World) :
    (execOp a.eval ⟨some d, .call ⟨.value (.func f), args.toArray, tys⟩, ty, pos, after, none⟩).run P w = .ok (.enter f vs.toArray) w := by
  have hmap : args.toArray.map a.eval = vs.toArray := by rw [List.map_toArray, map_evo ha _ _ hargs]
  simp only [execOp, resolve, Act.eval, hmap, Deferred.ofValue, Sem.run_bind, Sem.run_pure, Result.andThen_ok, invoke]
  simpa using hc (vs.toArray) w

/-- A call of a Go function by its contract. -/
theorem VL_call {d f : Nat} {args : List Operand} {tys : Array TypeId} {ty : TypeId} {pos : String} {after : Array Edge} {vs : List Value} (Φ : Value → List HP → Prop)
    (hc : ∀ xs w, (callFunc f xs).run P w = .ok (.enter f xs) w) (hargs : Args env args vs) (hn : Nat.ble (d + 1) n.k = true)
    (hcall : ∀ w, St B w0 H w → Calls P f vs.toArray w (Post B w0 Φ))
    (h : ∀ v H', Φ v H' → VL P none n B w0 ops Q rest ((d, v) :: env) H') :
    VL P none n B w0 ops Q (⟨some d, .call ⟨.value (.func f), args.toArray, tys⟩, ty, pos, after, none⟩ :: rest) env H := by
  refine ⟨fun a ha w hw => wpList_plain rfl fun K hK => ?_⟩
  unfold Oper.wp
  rw [run_call ha hc hargs, Oper.upon_enter]
  refine (hcall w hw).mono ?_
  rintro e w' ⟨v, H', rfl, hst, hΦ⟩
  exact hK _ _ ((h v H' hΦ).run _ (ha.put (Nat.le_of_ble_eq_true hn) v) _ hst)

/-- A call that hands back one value, and leaves the pieces as they were. -/
theorem VL_callt {d f : Nat} {args : List Operand} {tys : Array TypeId} {ty : TypeId} {pos : String} {after : Array Edge} {vs : List Value} {v : Value}
    (hc : ∀ xs w, (callFunc f xs).run P w = .ok (.enter f xs) w) (hargs : Args env args vs) (hn : Nat.ble (d + 1) n.k = true)
    (hcall : ∀ w, St B w0 H w → Calls P f vs.toArray w (Post B w0 fun u K => u = v ∧ K = H))
    (h : VL P none n B w0 ops Q rest ((d, v) :: env) H) :
    VL P none n B w0 ops Q (⟨some d, .call ⟨.value (.func f), args.toArray, tys⟩, ty, pos, after, none⟩ :: rest) env H :=
  VL_call _ hc hargs hn hcall (by rintro _ _ ⟨rfl, rfl⟩; exact h)

/-- The same in every order. -/
theorem VL_callq {d f : Nat} {args : List Operand} {tys : Array TypeId} {ty : TypeId} {pos : String} {after : Array Edge} {vs : List Value} {v : Value}
    (hc : ∀ xs w, (callFunc f xs).run P w = .ok (.enter f xs) w) (hargs : Args env args vs) (hn : Nat.ble (d + 1) n.k = true)
    (hcall : ∀ w, St B w0 H w → Calls P f vs.toArray w (Post B w0 fun u K => u = v ∧ K = H))
    (h : VL P (some none) n B w0 ops Q rest ((d, v) :: env) H) :
    VL P (some none) n B w0 ops Q (⟨some d, .call ⟨.value (.func f), args.toArray, tys⟩, ty, pos, after, none⟩ :: rest) env H := by
  refine ⟨fun a ha => wpQuiet_step fun K hK => ?_⟩
  rw [if_pos (by simp [Region.wanted])]
  refine ⟨v, fun w hw => ?_, hK _ ?_⟩
  · unfold Oper.quietAt
    rw [run_call ha hc hargs]
    refine ⟨rfl, (hcall w hw).mono ?_⟩
    rintro e w' ⟨_, _, rfl, hst, rfl, rfl⟩
    exact ⟨rfl, hst⟩
  · exact h.run _ (ha.put (Nat.le_of_ble_eq_true hn) v)

/-! ### Regions that draw their order and write -/

/-- Whether operation i must come before operation j. -/
def ancB (ops : Array Oper) : Nat → Nat → Nat → Bool
  | 0, _, _ => false
  | f + 1, j, i => match ops[j]? with
    | some oj => oj.after.any fun e => Region.binds .any e && (e.on == i || ancB ops f e.on i)
    | none => false

/-- Whatever is listed, what must come before it is listed, too. -/
def Closed (ops : Array Oper) (listed : Array Bool) : Prop :=
  ∀ j oj, ops[j]? = some oj → listed.getD j false = true → ∀ e ∈ oj.after, Region.binds .any e = true → listed.getD e.on false = true

theorem Closed.set {ops : Array Oper} {listed : Array Bool} (h : Closed ops listed) {j : Nat} (hj : j ∈ Region.ready .any ops listed) : Closed ops (listed.setIfInBounds j true) := by
  obtain ⟨_, oj, hoj, hall⟩ := mem_ready.1 hj
  intro k ok hk hl e he hb
  by_cases hkj : j = k
  · subst hkj
    obtain rfl : ok = oj := Option.some.inj (hk.symm.trans hoj)
    exact getD_set_true (hall e he hb)
  · rw [getD_set_ne false hkj] at hl
    exact getD_set_true (h k ok hk hl e he hb)

theorem anc_listed {ops : Array Oper} {listed : Array Bool} (h : Closed ops listed) : ∀ (f j i : Nat), (∀ oj, ops[j]? = some oj → ∀ e ∈ oj.after, Region.binds .any e = true → listed.getD e.on false = true) → ancB ops f j i = true → listed.getD i false = true
  | 0, _, _, _, ha => by cases ha
  | f + 1, j, i, hp, ha => by
    unfold ancB at ha
    cases ho : ops[j]? with
    | none => rw [ho] at ha; cases ha
    | some oj =>
      rw [ho] at ha
      obtain ⟨e, he, hb⟩ := Array.any_eq_true'.1 ha
      simp only [Bool.and_eq_true, Bool.or_eq_true, beq_iff_eq] at hb
      have h1 := hp oj ho e he hb.1
      rcases hb.2 with h2 | h2
      · rw [← h2]; exact h1
      · exact anc_listed h f e.on i (fun ok hk => h e.on ok hk h1) h2

/-- Whatever order is picked from here on; behind each operation that is not among the last ones S holds. -/
def wpAnyN (P : Program) (ops : Array Oper) (Q : Exit → Act → World → Prop) (S : World → Prop) (last : List Nat) : Nat → Array Bool → Act → World → Prop
  | 0, listed, a, w => Region.ready .any ops listed = [] ∧ Q .normal a w
  | fuel + 1, listed, a, w =>
    (Region.ready .any ops listed = [] → Q .normal a w) ∧
    ∀ i ∈ Region.ready .any ops listed, wpOp P ops Q i (fun a' w' => (last.contains i = false → S w') ∧ wpAnyN P ops Q S last fuel (listed.setIfInBounds i true) a' w') a w

theorem wpAny_of_N {S : World → Prop} {last : List Nat} : ∀ (fuel : Nat) (listed : Array Bool) (a : Act) (w : World), wpAnyN P ops Q S last fuel listed a w → wpAny P .any ops Q fuel listed a w
  | 0, _, _, _, h => h
  | fuel + 1, _, _, _, h => ⟨h.1, fun i hi => wpOp_mono (fun a' w' h' => wpAny_of_N fuel _ a' w' h'.2) (h.2 i hi)⟩

theorem wpAnyN_first {S : World → Prop} {last : List Nat} {i : Nat} {oi : Oper} {v : Value} (hi : ops[i]? = some oi) (hsel : ∀ (j : Nat) (o : Oper) cs b, ops[j]? = some o → o.op ≠ .select cs b)
    (hQ : ∀ c (a : Act) (w : World), ¬ Q (.panic c) a w) (hlast : ∀ j, last.contains j = true → ∃ f, ancB ops f j i = true) (hil : last.contains i = false) :
    ∀ (fuel : Nat) (listed : Array Bool) (a : Act) (w : World), Closed ops listed →
      (∀ j oj, ops[j]? = some oj → j ≠ i → listed.getD j true = false → (∀ e ∈ oj.after, Region.binds .any e = true → e.on ≠ i) → oi.apart ops oj = true) →
      i ∈ Region.ready .any ops listed → YieldsIf P ops S oi v a → S w →
      wpAnyN P ops Q S last fuel (listed.setIfInBounds i true) (a.put oi.dst v) w → wpAnyN P ops Q S last (fuel + 1) listed a w := by
  intro fuel
  induction fuel with
  | zero =>
    intro listed a w _ _ hr hy hS H
    refine ⟨fun h => (by rw [h] at hr; cases hr), fun j hj => ?_⟩
    by_cases hji : j = i
    · subst hji; exact hy.wpOp hi hS ⟨fun _ => hS, H⟩
    · have := ready_mono hj hji
      rw [H.1] at this
      cases this
  | succ fuel ih =>
    intro listed a w hcl hfree hr hy hS H
    refine ⟨fun h => (by rw [h] at hr; cases hr), fun j hj => ?_⟩
    by_cases hji : j = i
    · subst hji; exact hy.wpOp hi hS ⟨fun _ => hS, H⟩
    · have h1 := H.2 j (ready_mono hj hji)
      obtain ⟨hjun, oj, hoj, hall⟩ := mem_ready.1 hj
      have hun := (mem_ready.1 hr).1
      have hun' : listed.getD i false = false := by
        rcases Nat.lt_or_ge i listed.size with h' | h'
        · simp [h'] at hun ⊢; exact hun
        · simp [Array.getElem?_eq_none h'] at hun
      have hnl : last.contains j = false := by
        cases hc : last.contains j with
        | false => rfl
        | true =>
          obtain ⟨f, hf⟩ := hlast j hc
          have := anc_listed hcl f j i (fun ok hk e he hb => by
            obtain rfl : ok = oj := Option.some.inj (hk.symm.trans hoj)
            exact hall e he hb) hf
          rw [hun'] at this
          cases this
      have hnot : ∀ e ∈ oj.after, Region.binds .any e = true → e.on ≠ i := fun e he hb heq => by
        have h2 := hall e he hb
        rw [heq, hun'] at h2
        cases h2
      have h2 := wpOp_putIf hoj (hfree j oj hoj hji hjun hnot) (fun cs b => hsel i oi cs b hi) (fun cs b => hsel j oj cs b hoj) (fun c a w h => (hQ c _ w h).elim) hy h1
      have hfree' : ∀ k ok, ops[k]? = some ok → k ≠ i → (listed.setIfInBounds j true).getD k true = false →
          (∀ e ∈ ok.after, Region.binds .any e = true → e.on ≠ i) → oi.apart ops ok = true := fun k ok hk hki hu hno => by
        refine hfree k ok hk hki ?_ hno
        by_cases hjk : j = k
        · subst hjk; exact hjun
        · rw [getD_set_ne true hjk] at hu; exact hu
      refine wpOp_mono (fun a' w' h3 => ⟨fun _ => h3.2.1 hnl, ih (listed.setIfInBounds j true) a' w' (hcl.set hj) hfree' (ready_mono hr (Ne.symm hji)) h3.1 (h3.2.1 hnl) ?_⟩) h2
      rw [Array.setIfInBounds_comm _ _ hji]
      exact h3.2.2

/-- The order in which the walk goes: what only reads may come up, and nobody touches its slots; what writes is the only one that may come up. -/
def orderB (ops : Array Oper) : List Nat → Array Bool → Bool
  | [], listed => (Region.ready .any ops listed).isEmpty
  | i :: rest, listed =>
    (match ops[i]? with
      | some o => if eff o then decide (Region.ready .any ops listed = [i]) else (Region.ready .any ops listed).contains i && Region.free .any ops listed i
      | none => false) && orderB ops rest (listed.setIfInBounds i true)

/-- The last ones write, and wait for all that only read. -/
def lastB (ops : Array Oper) (last : List Nat) : Bool :=
  last.all fun j => (match ops[j]? with | some o => eff o | none => false) && (List.range ops.size).all fun i => (match ops[i]? with | some o => eff o | none => false) || ancB ops ops.size j i

def nthO : List Oper → Nat → Oper
  | [], _ => default
  | o :: _, 0 => o
  | _ :: l, i + 1 => nthO l i
theorem nthO_eq : ∀ (l : List Oper) (i : Nat), nthO l i = l.getD i default
  | [], i => by simp [nthO]
  | o :: l, 0 => by simp [nthO]
  | o :: l, i + 1 => by simp [nthO, nthO_eq l i]
def pickOps (l : List Oper) : List Nat → List Oper
  | [] => []
  | i :: r => nthO l i :: pickOps l r

/-- What follows is a plain list of operations. -/
def TailQ (P : Program) (ops : Array Oper) (Q : Exit → Act → World → Prop) (l : List Oper) : Exit → Act → World → Prop
  | .normal, a, w => wpList P ops Q l a w
  | e, a, w => Q e a w

theorem Oper.wp_mono_noQ' {o : Oper} {a : Act} {w : World} {K : Act → World → Prop} {l : List Oper} (_h1 : ∀ c (a : Act) (w : World), False → ¬ Q (.panic c) a w) (h : o.wp P a w K (TailQ P ops Q l)) : o.wp P a w K Q := by
  unfold Oper.wp at h ⊢
  generalize (execOp a.eval o).run P w = r at *
  cases r with
  | ok nx w' =>
    cases nx <;> simp only [Oper.upon] at h ⊢ <;> first
      | exact h
      | (refine Calls.mono h fun e w'' he => ?_
         cases e with
         | returned u => exact he
         | panicked c => exact he
         | outgrown => obtain ⟨a', w', h'⟩ := he; exact ⟨a', w', h'⟩)
  | halt x w' =>
    cases x <;> simp only [Oper.upon] at h ⊢
    exact h

theorem lastB_spec {last : List Nat} (h : lastB ops last = true) : (∀ j, last.contains j = true → ∃ o, ops[j]? = some o ∧ eff o = true) ∧ ∀ i oi, ops[i]? = some oi → eff oi = false → ∀ j, last.contains j = true → ∃ f, ancB ops f j i = true := by
  refine ⟨fun j hj => ?_, fun i oi hi he j hj => ?_⟩
  · have h1 := List.all_eq_true.1 h j (by simpa using hj)
    simp only [Bool.and_eq_true] at h1
    cases ho : ops[j]? with
    | none => rw [ho] at h1; cases h1.1
    | some o => rw [ho] at h1; exact ⟨o, rfl, h1.1⟩
  · have h1 := List.all_eq_true.1 h j (by simpa using hj)
    simp only [Bool.and_eq_true] at h1
    have hlt : i < ops.size := (Array.getElem?_eq_some_iff.1 hi).1
    have h2 := List.all_eq_true.1 h1.2 i (List.mem_range.2 hlt)
    rw [hi] at h2
    simp only [he, Bool.false_or] at h2
    exact ⟨_, h2⟩

theorem tail_sound {S : World → Prop} {last : List Nat} (l : List Oper) (hl : ops = l.toArray) (hef : ∀ j, last.contains j = true → ∃ o, ops[j]? = some o ∧ eff o = true) (hlo : ¬ LetsOut Q) :
    ∀ (o2 : List Nat) (listed : Array Bool) (a : Act) (w : World), (∀ j ∈ o2, last.contains j = true) → orderB ops o2 listed = true → wpList P ops Q (pickOps l o2) a w → wpAnyN P ops Q S last o2.length listed a w
  | [], listed, a, w, _, hB, h => ⟨by simpa [orderB] using hB, h⟩
  | i :: rest, listed, a, w, hin, hB, h => by
    simp only [orderB, Bool.and_eq_true] at hB
    obtain ⟨h1, h2⟩ := hB
    obtain ⟨o, ho, he⟩ := hef i (hin i (by simp))
    rw [ho] at h1
    simp only [he, if_true, decide_eq_true_eq] at h1
    have hget : nthO l i = o := by
      rw [nthO_eq]
      rw [hl] at ho
      simp only [List.getElem?_toArray] at ho
      simp [List.getD, ho]
    simp only [pickOps, hget] at h
    unfold wpList at h
    refine ⟨fun h0 => (by rw [h1] at h0; cases h0), fun k hk => ?_⟩
    rw [h1] at hk
    obtain rfl : k = i := by simpa using hk
    unfold wpOp
    simp only [ho]
    have hc : last.contains k = true := hin k (by simp)
    by_cases hw : Region.wanted o (yielded ops a.tmps) = true
    · rw [if_pos hw] at h ⊢
      rcases h with h | ⟨_, h⟩
      · exact .inl (Oper.wp_mono (fun a' w' h' => ⟨fun hf => (by rw [hc] at hf; cases hf), tail_sound l hl hef hlo rest _ a' w' (fun j hj => hin j (by simp [hj])) h2 h'⟩) h)
      · exact (hlo h).elim
    · rw [if_neg hw] at h ⊢
      exact ⟨fun hf => (by rw [hc] at hf; cases hf), tail_sound l hl hef hlo rest _ _ w (fun j hj => hin j (by simp [hj])) h2 h⟩

theorem held_sound {S : World → Prop} {last : List Nat} (hs : Region.noSelect ops = true) (hQ : ∀ c (a : Act) (w : World), ¬ Q (.panic c) a w) (hlo : ¬ LetsOut Q) (l : List Oper) (hl : ops = l.toArray) (hlast : lastB ops last = true) :
    ∀ (o1 : List Nat) (listed : Array Bool) (a : Act) (w : World), Closed ops listed → (∀ j ∈ o1, last.contains j = false) → orderB ops (o1 ++ last) listed = true → S w → wpHeld P ops (TailQ P ops Q (pickOps l last)) S (pickOps l o1) a w →
      wpAnyN P ops Q S last (o1 ++ last).length listed a w
  | [], listed, a, w, _, _, hB, _, h => tail_sound l hl (lastB_spec hlast).1 hlo last listed a w (fun j hj => by simpa using hj) hB h
  | i :: rest, listed, a, w, hcl, hno, hB, hS, h => by
    simp only [List.cons_append, orderB, Bool.and_eq_true] at hB
    obtain ⟨h1, h2⟩ := hB
    have hno' : ∀ j ∈ rest, last.contains j = false := fun j hj => hno j (by simp [hj])
    cases ho : ops[i]? with
    | none => rw [ho] at h1; cases h1
    | some o =>
      rw [ho] at h1
      have hget : nthO l i = o := by
        rw [nthO_eq]
        rw [hl] at ho
        simp only [List.getElem?_toArray] at ho
        simp [List.getD, ho]
      simp only [pickOps, hget] at h
      by_cases he : eff o = true
      · simp only [he, if_true, decide_eq_true_eq] at h1
        unfold wpHeld at h
        rw [if_pos he] at h
        refine ⟨fun h0 => (by rw [h1] at h0; cases h0), fun k hk => ?_⟩
        have hk' := hk
        rw [h1] at hk
        obtain rfl : k = i := by simpa using hk
        unfold wpOp
        simp only [ho]
        by_cases hw : Region.wanted o (yielded ops a.tmps) = true
        · rw [if_pos hw] at h ⊢
          refine .inl (Oper.wp_mono_noQ' (fun c a w h => by cases h) (Oper.wp_mono (fun a' w' h' => ⟨fun _ => h'.1, held_sound hs hQ hlo l hl hlast rest _ a' w' (hcl.set hk') hno' h2 h'.1 h'.2⟩) h))
        · rw [if_neg hw] at h ⊢
          exact ⟨fun _ => hS, held_sound hs hQ hlo l hl hlast rest _ _ w (hcl.set hk') hno' h2 hS h⟩
      · simp only [he] at h1
        simp only [Bool.false_eq_true, if_false, Bool.and_eq_true] at h1
        unfold wpHeld at h
        rw [if_neg he] at h
        obtain ⟨v, hy, h3⟩ := h
        have hr : i ∈ Region.ready .any ops listed := by simpa using h1.1
        exact wpAnyN_first ho (Region.noSelect_spec hs) hQ ((lastB_spec hlast).2 i o ho (by simpa using he)) (hno i (by simp)) _ listed a w hcl (Region.free_spec ho h1.2) hr hy hS (held_sound hs hQ hlo l hl hlast rest _ _ w (hcl.set hr) hno' h2 hS h3)

/-- Split a list of pieces by a mask. -/
def Split : List Bool → List HP → List HP → List HP → Prop
  | [], L, Hc, F => Hc = [] ∧ F = L
  | true :: bs, A :: L, C :: Hc, F => C = A ∧ Split bs L Hc F
  | false :: bs, A :: L, Hc, C :: F => C = A ∧ Split bs L Hc F
  | _, _, _, _ => False
theorem split_nil {L : List HP} : Split [] L [] L := ⟨rfl, rfl⟩
theorem split_t {bs : List Bool} {A : HP} {L Hc F : List HP} (h : Split bs L Hc F) : Split (true :: bs) (A :: L) (A :: Hc) F := ⟨rfl, h⟩
theorem split_f {bs : List Bool} {A : HP} {L Hc F : List HP} (h : Split bs L Hc F) : Split (false :: bs) (A :: L) Hc (A :: F) := by
  cases Hc <;> exact ⟨rfl, h⟩
theorem perm_mid (A : HP) : ∀ (L M : List HP), Perm (A :: (L ++ M)) (L ++ A :: M)
  | [], _ => Perm.refl _
  | B :: L, M => (Perm.swap A B (L ++ M)).trans ((perm_mid A L M).cons B)
theorem split_perm : ∀ {bs : List Bool} {L Hc F : List HP}, Split bs L Hc F → Perm L (Hc ++ F)
  | [], L, Hc, F, h => by obtain ⟨rfl, rfl⟩ := h; exact Perm.refl _
  | true :: bs, A :: L, C :: Hc, F, h => by obtain ⟨rfl, h⟩ := h; exact (split_perm h).cons C
  | false :: bs, A :: L, [], C :: F, h => by
    obtain ⟨rfl, h⟩ : C = A ∧ Split bs L [] F := h
    exact (split_perm h).cons C
  | false :: bs, A :: L, D :: Hc, C :: F, h => by
    obtain ⟨rfl, h⟩ : C = A ∧ Split bs L (D :: Hc) F := h
    exact ((split_perm h).cons C).trans (perm_mid C (D :: Hc) F)
  | true :: _, [], _, _, h => h.elim
  | true :: _, _ :: _, [], _, h => h.elim
  | false :: _, [], _, _, h => by cases h
  | false :: _, _ :: _, [], [], h => by cases h
  | false :: _, _ :: _, _ :: _, [], h => by cases h

theorem St.prefix_ {B : Nat} {w0 w : World} : ∀ {L F : List HP}, St B w0 (L ++ F) w → St B w0 L w := by
  intro L F h
  refine ⟨h.below, h.le, ?_⟩
  have key : ∀ (L : List HP) (S : Nat → Prop), sepL (L ++ F) S w → sepL L S w := by
    intro L
    induction L with
    | nil => intros; trivial
    | cons A L ih =>
      intro S hh
      obtain ⟨S1, S2, h1, h2, h3, h4, h5⟩ := hh
      exact ⟨S1, S2, h1, h2, h3, h4, ih S2 h5⟩
  exact key L _ h.sep

/-- No panic, no lack of memory. -/
def Only (Q : Exit → Act → World → Prop) : Exit → Act → World → Prop
  | .normal, a, w => Q .normal a w
  | _, _, _ => False

theorem closed_none (ops : Array Oper) (k : Nat) : Closed ops (Array.replicate k false) := by
  intro j oj _ hl
  rcases Nat.lt_or_ge j k with h | h
  · simp [h] at hl
  · simp [h] at hl

/-- A region that draws its order: the pieces that the mask names are read; the others may be written, and in the last operations the first ones, too. -/
theorem VC_held {id : Nat} {l : List Oper} (o1 last : List Nat) (mask : List Bool) {Hc F : List HP} (hm : P.follows .mixedOrders = true)
    (hB : (Region.noSelect l.toArray && decide ((o1 ++ last).length = l.toArray.size) && lastB l.toArray last && (o1.all fun j => !last.contains j) && orderB l.toArray (o1 ++ last) (Array.replicate l.toArray.size false)) = true)
    (hsp : Split mask H Hc F) {l1 l2 : List Oper} (hl1 : pickOps l o1 = l1) (hl2 : pickOps l last = l2) (h : VL P (some (some F)) n B w0 l.toArray (TailQ P l.toArray (Only Q) l2) l1 env Hc) : VC P n B w0 (.region id l.toArray true) Q env H := by
  simp only [Bool.and_eq_true, decide_eq_true_eq] at hB
  obtain ⟨⟨⟨⟨h1, h2⟩, h3⟩, h4⟩, h5⟩ := hB
  refine ⟨fun a w ha hw => wpR_mono (Q := Only Q) ?_ fun e a w h => by cases e <;> first | exact h | cases h⟩
  have hst : St B w0 (Hc ++ F) w.drew := (hw.perm (split_perm hsp)).drew
  have hr : wpHeld P l.toArray (TailQ P l.toArray (Only Q) l2) (St B w0 Hc) l1 a w.drew := h.run a ha w.drew hst
  rw [← hl1, ← hl2] at hr
  have := held_sound (S := St B w0 Hc) h1 (fun c a w h => h) (by rintro ⟨_, _, h⟩; exact h) l rfl h3 o1 _ a w.drew (closed_none _ _) (fun j hj => by simpa using List.all_eq_true.1 h4 j hj) h5 hst.prefix_ hr
  rw [h2] at this
  exact wpR_any hm (wpAny_of_N _ _ _ _ this)

/-- What is asked behind one writing operation. -/
def HeldQ (P : Program) (B : Nat) (w0 : World) (ops : Array Oper) (Q : Exit → Act → World → Prop) (Hc : List HP) (rest : List Oper) : Exit → Act → World → Prop
  | .normal, a, w => St B w0 Hc w ∧ wpHeld P ops Q (St B w0 Hc) rest a w
  | _, _, _ => False

theorem Oper.wp_mono_noQ {o : Oper} {a : Act} {w : World} {K : Act → World → Prop} {Q1 Q2 : Exit → Act → World → Prop} (h1 : ∀ c a w, ¬ Q1 (.panic c) a w) (h2 : ¬ LetsOut Q1) (h : o.wp P a w K Q1) : o.wp P a w K Q2 := by
  unfold Oper.wp at h ⊢
  generalize (execOp a.eval o).run P w = r at *
  cases r with
  | ok nx w' =>
    cases nx <;> simp only [Oper.upon] at h ⊢ <;> first
      | exact h
      | (refine Calls.mono h fun e w'' he => ?_
         cases e with
         | returned u => exact he
         | panicked c => exact (h1 _ _ _ he).elim
         | outgrown => exact (h2 he).elim)
  | halt x w' =>
    cases x <;> simp only [Oper.upon] at h ⊢
    exact (h1 _ _ _ h).elim

/-- The list of pieces HF is H, and F behind it. -/
def App : List HP → List HP → List HP → Prop
  | [], F, HF => HF = F
  | A :: L, F, B :: HF => B = A ∧ App L F HF
  | _, _, _ => False
theorem app_nil {F : List HP} : App [] F F := rfl
theorem app_cons {A : HP} {L F HF : List HP} (h : App L F HF) : App (A :: L) F (A :: HF) := ⟨rfl, h⟩
theorem app_eq : ∀ {L F HF : List HP}, App L F HF → HF = L ++ F
  | [], _, _, h => h
  | A :: L, F, B :: HF, h => by obtain ⟨rfl, h⟩ := h; rw [app_eq h]; rfl
  | _ :: _, _, [], h => h.elim

/-- A writing operation is walked by the laws of the text's order, with all pieces. -/
theorem VL_heff {o : Oper} {F HF : List HP} (he : eff o = true) (hg : o.guard = none) (happ : App H F HF) (h : VL P none n B w0 ops (HeldQ P B w0 ops Q H rest) [o] env HF) : VL P (some (some F)) n B w0 ops Q (o :: rest) env H := by
  refine ⟨fun a ha w hw => ?_⟩
  rw [← app_eq happ] at hw
  have h1 : wpList P ops (HeldQ P B w0 ops Q H rest) [o] a w := h.run a ha w hw
  unfold wpHeld
  rw [if_pos he, if_pos (by simp [Region.wanted, hg])]
  unfold wpList at h1
  rw [if_pos (by simp [Region.wanted, hg])] at h1
  have hlo : ¬ LetsOut (HeldQ P B w0 ops Q H rest) := by rintro ⟨_, _, h⟩; exact h
  rcases h1 with h1 | ⟨_, h2⟩
  · refine Oper.wp_mono_noQ (fun c a w h => h) hlo (Oper.wp_mono (fun a' w' h' => ?_) h1)
    exact h'
  · exact (hlo h2).elim

/-- Take pieces out of a list. -/
def Rem (A : HP) (L M : List HP) : Prop := Perm L (A :: M)
theorem rem_here {A : HP} {L : List HP} : Rem A (A :: L) L := Perm.refl _
theorem rem_there {A X : HP} {L M : List HP} (h : Rem A L M) : Rem A (X :: L) (X :: M) := (Perm.cons X h).trans (Perm.swap X A M)
def Pull (Hc L F : List HP) : Prop := Perm L (Hc ++ F)
theorem pull_nil {L : List HP} : Pull [] L L := Perm.refl _
theorem pull_cons {A : HP} {Hc L M F : List HP} (h : Rem A L M) (h2 : Pull Hc M F) : Pull (A :: Hc) L F := Perm.trans h (Perm.cons A h2)

theorem VQ_heldq {F H' : List HP} {Hc : List HP} (hp : Pull Hc H' F) (h : VL P (some (some F)) n B w0 ops Q rest env Hc) : VQ n B w0 (HeldQ P B w0 ops Q Hc rest) .normal env H' :=
  ⟨fun a w ha hw => ⟨(hw.perm hp).prefix_, h.run a ha w (hw.perm hp)⟩⟩
theorem VL_nilh {F HF : List HP} (happ : App H F HF) (h : VQ n B w0 Q .normal env HF) : VL P (some (some F)) n B w0 ops Q [] env H :=
  ⟨fun a ha w hw => by rw [← app_eq happ] at hw; exact h.run a w ha hw⟩
theorem VQ_tailq {l : List Oper} (h : VL P none n B w0 ops Q l env H) : VQ n B w0 (TailQ P ops Q l) .normal env H := ⟨fun a w ha hw => h.run a ha w hw⟩
theorem VQ_only (h : VQ n B w0 Q .normal env H) : VQ n B w0 (Only Q) .normal env H := ⟨fun a w ha hw => h.run a w ha hw⟩
end
end Go.Eng

/- The engine, part 2: one lemma an operation. -/
namespace Go.Eng
open Go.RowKit

/-! ### A table of the types that a program uses, checked once by the kernel -/

def scalarT (P : Program) (t : TypeId) : Bool :=
  match P.underlying t with
  | some (.struct _) | some (.array _ _) | none => false
  | some _ => true
def aggT (P : Program) (t : TypeId) : Option Nat :=
  match P.underlying t with
  | some (.struct _) | some (.array _ _) => (P.info? t).map (·.size)
  | _ => none
def fieldOff (P : Program) (s f : Nat) : Option Nat :=
  match P.underlying s with
  | some (.struct fs) => (fs[f]?).bind fun fld => (P.info? fld.type).bind fun i => if i.size = 0 then none else some fld.offset
  | _ => none
def sliceT (P : Program) (t : TypeId) : Option (Nat × Nat × Nat) :=
  match P.underlying t with
  | some (.slice e) => (P.info? e).bind fun i => i.zero.bind fun z => if z.cells.size = i.size ∧ 0 < i.size ∧ 0 < i.bytes then some (e, i.size, i.bytes) else none
  | _ => none
def arrayT (P : Program) (t : TypeId) : Option (Nat × Nat × Nat) :=
  match P.underlying t with
  | some (.array n e) => (P.info? e).map fun i => (n, e, i.size)
  | _ => none
def intT (P : Program) (t : TypeId) : Option IntKind :=
  match P.underlying t with
  | some (.int k) => some k
  | _ => none
def stringT (P : Program) (t : TypeId) : Bool :=
  match P.underlying t with
  | some .string => true
  | _ => false
def oneT (P : Program) (t : TypeId) : Bool := scalarT P t && ((P.info? t).map (·.size)) == some 1

def look {β : Type} : List (Nat × β) → Nat → Option β
  | [], _ => none
  | (s, v) :: l, t => if s = t then some v else look l t
theorem look_mem {β : Type} : ∀ {l : List (Nat × β)} {t : Nat} {v : β}, look l t = some v → (t, v) ∈ l
  | (s, u) :: l, t, v, h => by
    by_cases e : s = t
    · subst e; rw [look, if_pos rfl] at h; cases h; exact List.mem_cons_self
    · rw [look, if_neg e] at h; exact List.mem_cons_of_mem _ (look_mem h)
def look2 : List (Nat × Nat × Nat) → Nat → Nat → Option Nat
  | [], _, _ => none
  | (s, f, v) :: l, t, g => if s = t then (if f = g then some v else look2 l t g) else look2 l t g
theorem look2_mem : ∀ {l : List (Nat × Nat × Nat)} {t g v : Nat}, look2 l t g = some v → (t, g, v) ∈ l
  | (s, f, u) :: l, t, g, v, h => by
    by_cases e : s = t
    · subst e
      rw [look2, if_pos rfl] at h
      by_cases e' : f = g
      · subst e'; rw [if_pos rfl] at h; cases h; exact List.mem_cons_self
      · rw [if_neg e'] at h; exact List.mem_cons_of_mem _ (look2_mem h)
    · rw [look2, if_neg e] at h; exact List.mem_cons_of_mem _ (look2_mem h)

structure Tab (P : Program) where
  sc : List (Nat × Unit)
  ag : List (Nat × Nat)
  fo : List (Nat × Nat × Nat)
  sl : List (Nat × (Nat × Nat × Nat))
  ar : List (Nat × (Nat × Nat × Nat))
  ik : List (Nat × IntKind)
  st : List (Nat × Unit)
  sc_ok : (sc.all fun x => oneT P x.1) = true
  ag_ok : (ag.all fun x => aggT P x.1 == some x.2) = true
  fo_ok : (fo.all fun x => fieldOff P x.1 x.2.1 == some x.2.2) = true
  sl_ok : (sl.all fun x => sliceT P x.1 == some x.2) = true
  ar_ok : (ar.all fun x => arrayT P x.1 == some x.2) = true
  ik_ok : (ik.all fun x => decide (intT P x.1 = some x.2)) = true
  st_ok : (st.all fun x => stringT P x.1) = true

section
variable {P : Program} (T : Tab P)
theorem Tab.scal {t : Nat} (h : look T.sc t = some ()) : scalarT P t = true ∧ (P.info? t).map (·.size) = some 1 := by
  have := List.all_eq_true.1 T.sc_ok _ (look_mem h)
  simpa [oneT] using this
theorem Tab.aggs {t k : Nat} (h : look T.ag t = some k) : aggT P t = some k := by simpa using List.all_eq_true.1 T.ag_ok _ (look_mem h)
theorem Tab.offs {s f k : Nat} (h : look2 T.fo s f = some k) : fieldOff P s f = some k := by simpa using List.all_eq_true.1 T.fo_ok _ (look2_mem h)
theorem Tab.slic {t e k b : Nat} (h : look T.sl t = some (e, k, b)) : sliceT P t = some (e, k, b) := by simpa using List.all_eq_true.1 T.sl_ok _ (look_mem h)
theorem Tab.arra {t m e k : Nat} (h : look T.ar t = some (m, e, k)) : arrayT P t = some (m, e, k) := by simpa using List.all_eq_true.1 T.ar_ok _ (look_mem h)
theorem Tab.strs {t : Nat} (h : look T.st t = some ()) : P.underlying t = some .string := by
  have := List.all_eq_true.1 T.st_ok _ (look_mem h)
  simp only [stringT] at this
  split at this <;> simp_all
theorem Tab.ints {t : Nat} {k : IntKind} (h : look T.ik t = some k) : intT P t = some k := by simpa using List.all_eq_true.1 T.ik_ok _ (look_mem h)
end

theorem intT_spec {P : Program} {t : TypeId} {k : IntKind} (h : intT P t = some k) : P.underlying t = some (.int k) := by
  unfold intT at h
  split at h
  · cases h; assumption
  · cases h
theorem run_isAgg_false {P : Program} {t : TypeId} (h : scalarT P t = true) (w : World) : (isAgg t).run P w = .ok false w := by
  unfold scalarT at h
  cases hu : P.underlying t with
  | none => rw [hu] at h; cases h
  | some d => rw [hu] at h; cases d <;> first | (simp [isAgg, run_underlying hu]; done) | cases h
theorem run_isAgg_true {P : Program} {t : TypeId} {k : Nat} (h : aggT P t = some k) (w : World) : (isAgg t).run P w = .ok true w := by
  unfold aggT at h
  cases hu : P.underlying t with
  | none => rw [hu] at h; cases h
  | some d => rw [hu] at h; cases d <;> first | (simp [isAgg, run_underlying hu]; done) | cases h
theorem run_sizeOf {P : Program} {t : TypeId} {k : Nat} (h : (P.info? t).map (·.size) = some k) (w : World) : (sizeOf t).run P w = .ok k w := by
  cases hi : P.info? t with
  | none => rw [hi] at h; cases h
  | some i => rw [hi] at h; simp at h; subst h; simp [sizeOf, typeInfo, hi]
theorem aggT_size {P : Program} {t : TypeId} {k : Nat} (h : aggT P t = some k) : (P.info? t).map (·.size) = some k := by
  unfold aggT at h
  split at h <;> first | exact h | cases h

/-- The i-th of a list, written so that it comes out as it stands there. -/
def nth : List Value → Nat → Option Value
  | [], _ => none
  | v :: _, 0 => some v
  | _ :: l, i + 1 => nth l i
theorem nth_eq : ∀ (l : List Value) (i : Nat), nth l i = l[i]?
  | [], i => by simp [nth]
  | v :: l, 0 => by simp [nth]
  | v :: l, i + 1 => by simp [nth, nth_eq l i]
theorem nth_arr (cs : Array Value) (i : Nat) : nth cs.toList i = cs[i]? := by rw [nth_eq]; simp

section
variable {P : Program} {m : Mode} {n : Shp} {B : Nat} {w0 : World} {Q : Exit → Act → World → Prop} {env : Env} {H : List HP} {ops : Array Oper} {rest : List Oper}
variable {d : Nat} {ty : TypeId} {pos : String} {after : Array Edge}

theorem VL_move {x : Operand} {v : Value} (hx : evo env x = some v) (hn : Nat.ble (d + 1) n.k = true) (h : VL P m n B w0 ops Q rest ((d, v) :: env) H) :
    VL P m n B w0 ops Q (⟨some d, .move x, ty, pos, after, none⟩ :: rest) env H :=
  VL_pure rfl rfl hn rfl (fun a w ha _ => by simp [execOp, ha.eval hx]) h
theorem VL_assign {x : Operand} {v : Value} (hx : evo env x = some v) (hn : Nat.ble (d + 1) n.k = true) (h : VL P m n B w0 ops Q rest ((d, v) :: env) H) :
    VL P m n B w0 ops Q (⟨some d, .assign x, ty, pos, after, none⟩ :: rest) env H :=
  VL_pure rfl rfl hn rfl (fun a w ha _ => by simp [execOp, ha.eval hx]) h
theorem VL_pick_true {c x y : Operand} {v : Value} (hc : evo env c = some (.bool true)) (hx : evo env x = some v) (hn : Nat.ble (d + 1) n.k = true) (h : VL P m n B w0 ops Q rest ((d, v) :: env) H) :
    VL P m n B w0 ops Q (⟨some d, .pick c x y, ty, pos, after, none⟩ :: rest) env H :=
  VL_pure rfl rfl hn rfl (fun a w ha _ => by simp [execOp, ha.eval hx, ha.eval hc, asBool]) h
theorem VL_pick_false {c x y : Operand} {v : Value} (hc : evo env c = some (.bool false)) (hx : evo env y = some v) (hn : Nat.ble (d + 1) n.k = true) (h : VL P m n B w0 ops Q rest ((d, v) :: env) H) :
    VL P m n B w0 ops Q (⟨some d, .pick c x y, ty, pos, after, none⟩ :: rest) env H :=
  VL_pure rfl rfl hn rfl (fun a w ha _ => by simp [execOp, ha.eval hx, ha.eval hc, asBool]) h
theorem VL_nilCheck {x : Operand} {p : Addr} (hx : evo env x = some (.pointer (some p))) (hn : Nat.ble (d + 1) n.k = true) (h : VL P m n B w0 ops Q rest ((d, .pointer (some p)) :: env) H) :
    VL P m n B w0 ops Q (⟨some d, .nilCheck x, ty, pos, after, none⟩ :: rest) env H :=
  VL_pure rfl rfl hn rfl (fun a w ha _ => by simp [execOp, ha.eval hx]) h
theorem VL_extract {x : Operand} {i : Nat} {vs : Array Value} {v : Value} (hx : evo env x = some (.tuple vs)) (hv : nth vs.toList i = some v) (hn : Nat.ble (d + 1) n.k = true) (h : VL P m n B w0 ops Q rest ((d, v) :: env) H) :
    VL P m n B w0 ops Q (⟨some d, .extract x i, ty, pos, after, none⟩ :: rest) env H :=
  VL_pure rfl rfl hn rfl (fun a w ha _ => by rw [nth_arr] at hv; simp [execOp, ha.eval hx, Instr.extract, hv]) h
theorem VL_not {x : Operand} {b : Bool} {xt : TypeId} (hx : evo env x = some (.bool b)) (hn : Nat.ble (d + 1) n.k = true) (h : VL P m n B w0 ops Q rest ((d, .bool (!b)) :: env) H) :
    VL P m n B w0 ops Q (⟨some d, .unOp .not xt x, ty, pos, after, none⟩ :: rest) env H :=
  VL_pure rfl rfl hn rfl (fun a w ha _ => by simp [execOp, ha.eval hx, Op.unary]) h
theorem VL_not_true {x : Operand} {xt : TypeId} (hx : evo env x = some (.bool true)) (hn : Nat.ble (d + 1) n.k = true) (h : VL P m n B w0 ops Q rest ((d, .bool false) :: env) H) :
    VL P m n B w0 ops Q (⟨some d, .unOp .not xt x, ty, pos, after, none⟩ :: rest) env H := VL_not hx hn h
theorem VL_not_false {x : Operand} {xt : TypeId} (hx : evo env x = some (.bool false)) (hn : Nat.ble (d + 1) n.k = true) (h : VL P m n B w0 ops Q rest ((d, .bool true) :: env) H) :
    VL P m n B w0 ops Q (⟨some d, .unOp .not xt x, ty, pos, after, none⟩ :: rest) env H := VL_not hx hn h

/-! ### Integers -/

theorem VL_bin {op : BinOp} {xt yt : TypeId} {x y : Operand} {u v z : Value} (hx : evo env x = some u) (hy : evo env y = some v) (hn : Nat.ble (d + 1) n.k = true)
    (hg : ∀ w, (eqGuard op xt x y u v).run P w = .ok () w) (hb : ∀ w, (binOp op xt u v).run P w = .ok z w)
    (h : VL P m n B w0 ops Q rest ((d, z) :: env) H) : VL P m n B w0 ops Q (⟨some d, .binOp op xt x y yt, ty, pos, after, none⟩ :: rest) env H :=
  VL_pure rfl rfl hn rfl (fun a w ha _ => by simp [execOp, ha.eval hx, ha.eval hy, hg w, hb w]) h

section
variable {xt yt : TypeId} {x y : Operand} {k : IntKind} {a b : Int}
theorem VL_add_w (hx : evo env x = some (.int k a)) (hy : evo env y = some (.int k b)) (hn : Nat.ble (d + 1) n.k = true) (h : VL P m n B w0 ops Q rest ((d, .int k (k.wrap (a + b))) :: env) H) :
    VL P m n B w0 ops Q (⟨some d, .binOp .add xt x y yt, ty, pos, after, none⟩ :: rest) env H := VL_bin hx hy hn (fun _ => rfl) (fun _ => by rw [binOp_add]; rfl) h
theorem VL_sub_w (hx : evo env x = some (.int k a)) (hy : evo env y = some (.int k b)) (hn : Nat.ble (d + 1) n.k = true) (h : VL P m n B w0 ops Q rest ((d, .int k (k.wrap (a - b))) :: env) H) :
    VL P m n B w0 ops Q (⟨some d, .binOp .sub xt x y yt, ty, pos, after, none⟩ :: rest) env H := VL_bin hx hy hn (fun _ => rfl) (fun _ => by rw [binOp_sub]; rfl) h
theorem VL_mul_w (hx : evo env x = some (.int k a)) (hy : evo env y = some (.int k b)) (hn : Nat.ble (d + 1) n.k = true) (h : VL P m n B w0 ops Q rest ((d, .int k (k.wrap (a * b))) :: env) H) :
    VL P m n B w0 ops Q (⟨some d, .binOp .mul xt x y yt, ty, pos, after, none⟩ :: rest) env H := VL_bin hx hy hn (fun _ => rfl) (fun _ => by rw [binOp_mul]; rfl) h
theorem VL_add (hx : evo env x = some (.int .i64 a)) (hy : evo env y = some (.int .i64 b)) (hn : Nat.ble (d + 1) n.k = true) (hb : -9223372036854775808 ≤ a + b ∧ a + b ≤ 9223372036854775807) (h : VL P m n B w0 ops Q rest ((d, .int .i64 (a + b)) :: env) H) :
    VL P m n B w0 ops Q (⟨some d, .binOp .add xt x y yt, ty, pos, after, none⟩ :: rest) env H := VL_add_w hx hy hn (by rw [IntWalk.i64_in _ hb]; exact h)
theorem VL_sub (hx : evo env x = some (.int .i64 a)) (hy : evo env y = some (.int .i64 b)) (hn : Nat.ble (d + 1) n.k = true) (hb : -9223372036854775808 ≤ a - b ∧ a - b ≤ 9223372036854775807) (h : VL P m n B w0 ops Q rest ((d, .int .i64 (a - b)) :: env) H) :
    VL P m n B w0 ops Q (⟨some d, .binOp .sub xt x y yt, ty, pos, after, none⟩ :: rest) env H := VL_sub_w hx hy hn (by rw [IntWalk.i64_in _ hb]; exact h)
theorem VL_mul (hx : evo env x = some (.int .i64 a)) (hy : evo env y = some (.int .i64 b)) (hn : Nat.ble (d + 1) n.k = true) (hb : -9223372036854775808 ≤ a * b ∧ a * b ≤ 9223372036854775807) (h : VL P m n B w0 ops Q rest ((d, .int .i64 (a * b)) :: env) H) :
    VL P m n B w0 ops Q (⟨some d, .binOp .mul xt x y yt, ty, pos, after, none⟩ :: rest) env H := VL_mul_w hx hy hn (by rw [IntWalk.i64_in _ hb]; exact h)
theorem VL_rem_w (hx : evo env x = some (.int k a)) (hy : evo env y = some (.int k b)) (hn : Nat.ble (d + 1) n.k = true) (hb : b ≠ 0) (h : VL P m n B w0 ops Q rest ((d, .int k (a.tmod b)) :: env) H) :
    VL P m n B w0 ops Q (⟨some d, .binOp .rem xt x y yt, ty, pos, after, none⟩ :: rest) env H := VL_bin hx hy hn (fun _ => rfl) (fun _ => by rw [binOp_rem]; simp [Op.intDiv, hb]) h
theorem VL_rem (hx : evo env x = some (.int k a)) (hy : evo env y = some (.int k b)) (hn : Nat.ble (d + 1) n.k = true) (hb : 0 ≤ a ∧ 1 ≤ b) (h : VL P m n B w0 ops Q rest ((d, .int k (a % b)) :: env) H) :
    VL P m n B w0 ops Q (⟨some d, .binOp .rem xt x y yt, ty, pos, after, none⟩ :: rest) env H := by
  refine VL_rem_w hx hy hn (by omega) ?_
  rw [Int.tmod_eq_emod_of_nonneg hb.1]
  exact h
theorem VL_lss (hx : evo env x = some (.int k a)) (hy : evo env y = some (.int k b)) (hn : Nat.ble (d + 1) n.k = true) (h1 : a < b → VL P m n B w0 ops Q rest ((d, .bool true) :: env) H) (h2 : b ≤ a → VL P m n B w0 ops Q rest ((d, .bool false) :: env) H) :
    VL P m n B w0 ops Q (⟨some d, .binOp .lss xt x y yt, ty, pos, after, none⟩ :: rest) env H := by
  by_cases hc : a < b
  · exact VL_bin hx hy hn (fun _ => rfl) (fun _ => by rw [binOp_lss, decide_eq_true hc]; rfl) (h1 hc)
  · exact VL_bin hx hy hn (fun _ => rfl) (fun _ => by rw [binOp_lss, decide_eq_false hc]; rfl) (h2 (by omega))
theorem VL_leq (hx : evo env x = some (.int k a)) (hy : evo env y = some (.int k b)) (hn : Nat.ble (d + 1) n.k = true) (h1 : a ≤ b → VL P m n B w0 ops Q rest ((d, .bool true) :: env) H) (h2 : b < a → VL P m n B w0 ops Q rest ((d, .bool false) :: env) H) :
    VL P m n B w0 ops Q (⟨some d, .binOp .leq xt x y yt, ty, pos, after, none⟩ :: rest) env H := by
  by_cases hc : a ≤ b
  · exact VL_bin hx hy hn (fun _ => rfl) (fun _ => by rw [binOp_leq, decide_eq_true hc]; rfl) (h1 hc)
  · exact VL_bin hx hy hn (fun _ => rfl) (fun _ => by rw [binOp_leq, decide_eq_false hc]; rfl) (h2 (by omega))
theorem VL_gtr (hx : evo env x = some (.int k a)) (hy : evo env y = some (.int k b)) (hn : Nat.ble (d + 1) n.k = true) (h1 : b < a → VL P m n B w0 ops Q rest ((d, .bool true) :: env) H) (h2 : a ≤ b → VL P m n B w0 ops Q rest ((d, .bool false) :: env) H) :
    VL P m n B w0 ops Q (⟨some d, .binOp .gtr xt x y yt, ty, pos, after, none⟩ :: rest) env H := by
  by_cases hc : a > b
  · exact VL_bin hx hy hn (fun _ => rfl) (fun _ => by rw [binOp_gtr, decide_eq_true hc]; rfl) (h1 hc)
  · exact VL_bin hx hy hn (fun _ => rfl) (fun _ => by rw [binOp_gtr, decide_eq_false hc]; rfl) (h2 (by omega))
theorem VL_geq (hx : evo env x = some (.int k a)) (hy : evo env y = some (.int k b)) (hn : Nat.ble (d + 1) n.k = true) (h1 : b ≤ a → VL P m n B w0 ops Q rest ((d, .bool true) :: env) H) (h2 : a < b → VL P m n B w0 ops Q rest ((d, .bool false) :: env) H) :
    VL P m n B w0 ops Q (⟨some d, .binOp .geq xt x y yt, ty, pos, after, none⟩ :: rest) env H := by
  by_cases hc : a ≥ b
  · exact VL_bin hx hy hn (fun _ => rfl) (fun _ => by rw [binOp_geq, decide_eq_true hc]; rfl) (h1 hc)
  · exact VL_bin hx hy hn (fun _ => rfl) (fun _ => by rw [binOp_geq, decide_eq_false hc]; rfl) (h2 (by omega))
theorem VL_eql (hx : evo env x = some (.int k a)) (hy : evo env y = some (.int k b)) (hn : Nat.ble (d + 1) n.k = true) (h1 : a = b → VL P m n B w0 ops Q rest ((d, .bool true) :: env) H) (h2 : a ≠ b → VL P m n B w0 ops Q rest ((d, .bool false) :: env) H) :
    VL P m n B w0 ops Q (⟨some d, .binOp .eql xt x y yt, ty, pos, after, none⟩ :: rest) env H := by
  by_cases hc : a = b
  · exact VL_bin hx hy hn (fun _ => rfl) (fun _ => by rw [binOp_eql, beq_iff_eq.2 hc]; rfl) (h1 hc)
  · exact VL_bin hx hy hn (fun _ => rfl) (fun _ => by rw [binOp_eql, beq_eq_false_iff_ne.2 hc]; rfl) (h2 hc)
theorem VL_neq (hx : evo env x = some (.int k a)) (hy : evo env y = some (.int k b)) (hn : Nat.ble (d + 1) n.k = true) (h1 : a ≠ b → VL P m n B w0 ops Q rest ((d, .bool true) :: env) H) (h2 : a = b → VL P m n B w0 ops Q rest ((d, .bool false) :: env) H) :
    VL P m n B w0 ops Q (⟨some d, .binOp .neq xt x y yt, ty, pos, after, none⟩ :: rest) env H := by
  by_cases hc : a = b
  · exact VL_bin hx hy hn (fun _ => rfl) (fun _ => by rw [binOp_neq]; simp [hc]) (h2 hc)
  · exact VL_bin hx hy hn (fun _ => rfl) (fun _ => by rw [binOp_neq]; simp [hc]) (h1 hc)
theorem VL_shr (hx : evo env x = some (.int k a)) {yk : IntKind} (hy : evo env y = some (.int yk b)) (hn : Nat.ble (d + 1) n.k = true) (hb : 0 ≤ b ∧ b ≤ k.bits) (h : VL P m n B w0 ops Q rest ((d, .int k (a / 2 ^ b.toNat)) :: env) H) :
    VL P m n B w0 ops Q (⟨some d, .binOp .shr xt x y yt, ty, pos, after, none⟩ :: rest) env H :=
  VL_bin hx hy hn (fun _ => rfl) (fun _ => by rw [binOp_shr, shift_shr _ _ _ _ hb.1 hb.2]; rfl) h
theorem VL_shr_c {yk : IntKind} {D : Int} (hx : evo env x = some (.int k a)) (hn : Nat.ble (d + 1) n.k = true) (hb : 0 ≤ b ∧ b ≤ k.bits) (hD : (2 : Int) ^ b.toNat = D) (h : VL P m n B w0 ops Q rest ((d, .int k (a / D)) :: env) H) :
    VL P m n B w0 ops Q (⟨some d, .binOp .shr xt x (.const (.int yk b)) yt, ty, pos, after, none⟩ :: rest) env H :=
  VL_shr hx (y := .const (.int yk b)) rfl hn hb (by rw [hD]; exact h)
theorem VL_conv (T : Tab P) {src dst : TypeId} {j : IntKind} (hx : evo env x = some (.int k a)) (hs : look T.ik src = some j) {kd : IntKind} (ht : look T.ik dst = some kd) (hn : Nat.ble (d + 1) n.k = true) (h : VL P m n B w0 ops Q rest ((d, .int kd (kd.wrap a)) :: env) H) :
    VL P m n B w0 ops Q (⟨some d, .convert src dst x, ty, pos, after, none⟩ :: rest) env H := by
  refine VL_pure rfl rfl hn rfl (fun f w ha _ => ?_) h
  simp [execOp, ha.eval hx, convert, run_underlying (intT_spec (T.ints hs)), run_underlying (intT_spec (T.ints ht)), Conv.intToInt]
theorem VL_conv_id (T : Tab P) {src dst : TypeId} {j : IntKind} (hx : evo env x = some (.int k a)) (hs : look T.ik src = some j) (ht : look T.ik dst = some .i64) (hn : Nat.ble (d + 1) n.k = true) (hb : -9223372036854775808 ≤ a ∧ a ≤ 9223372036854775807)
    (h : VL P m n B w0 ops Q rest ((d, .int .i64 a) :: env) H) : VL P m n B w0 ops Q (⟨some d, .convert src dst x, ty, pos, after, none⟩ :: rest) env H :=
  VL_conv T hx hs ht hn (by rw [IntWalk.i64_in _ hb]; exact h)
end

/-! ### Strings, pointers against nil, lengths -/

theorem bytes_eq_iff (s t : ByteArray) : (s.toList == t.toList) = true ↔ s = t := by
  rw [beq_iff_eq]
  constructor
  · intro h
    rw [ByteArray.toList_eq, ByteArray.toList_eq] at h
    cases s; cases t
    simp at h
    rw [h]
  · rintro rfl; rfl

section
variable {xt yt : TypeId} {x y : Operand} {s t : ByteArray}
theorem VL_seql (hx : evo env x = some (.string s)) (hy : evo env y = some (.string t)) (hn : Nat.ble (d + 1) n.k = true) (h1 : s = t → VL P m n B w0 ops Q rest ((d, .bool true) :: env) H) (h2 : s ≠ t → VL P m n B w0 ops Q rest ((d, .bool false) :: env) H) :
    VL P m n B w0 ops Q (⟨some d, .binOp .eql xt x y yt, ty, pos, after, none⟩ :: rest) env H := by
  by_cases hc : s = t
  · exact VL_bin hx hy hn (fun _ => rfl) (fun _ => by simp [binOp, Op.stringOp, hc]) (h1 hc)
  · refine VL_bin hx hy hn (fun _ => rfl) (fun _ => ?_) (h2 hc)
    have : (s.toList == t.toList) = false := by rw [Bool.eq_false_iff]; exact fun e => hc ((bytes_eq_iff s t).1 e)
    simp only [binOp, Op.stringOp, this]; rfl
theorem VL_sneq (hx : evo env x = some (.string s)) (hy : evo env y = some (.string t)) (hn : Nat.ble (d + 1) n.k = true) (h1 : s ≠ t → VL P m n B w0 ops Q rest ((d, .bool true) :: env) H) (h2 : s = t → VL P m n B w0 ops Q rest ((d, .bool false) :: env) H) :
    VL P m n B w0 ops Q (⟨some d, .binOp .neq xt x y yt, ty, pos, after, none⟩ :: rest) env H := by
  by_cases hc : s = t
  · exact VL_bin hx hy hn (fun _ => rfl) (fun _ => by simp [binOp, Op.stringOp, hc]) (h2 hc)
  · refine VL_bin hx hy hn (fun _ => rfl) (fun _ => ?_) (h1 hc)
    have : (s.toList == t.toList) = false := by rw [Bool.eq_false_iff]; exact fun e => hc ((bytes_eq_iff s t).1 e)
    simp only [binOp, Op.stringOp, this]; rfl
theorem VL_scat (hx : evo env x = some (.string s)) (hy : evo env y = some (.string t)) (hn : Nat.ble (d + 1) n.k = true) (hb : s.size + t.size ≤ 9223372036854775807) (h : VL P m n B w0 ops Q rest ((d, .string (s ++ t)) :: env) H) :
    VL P m n B w0 ops Q (⟨some d, .binOp .add xt x y yt, ty, pos, after, none⟩ :: rest) env H := by
  refine VL_bin hx hy hn (fun _ => rfl) (fun _ => ?_) h
  have : ¬ ((s.size + t.size : Nat) : Int) > IntKind.i64.max := by rw [IntKind.max_i64]; omega
  simp only [binOp, Op.stringOp, if_neg this]; rfl
theorem VL_slen (T : Tab P) (hx : evo env x = some (.string s)) {tx : TypeId} (ht : look T.st tx = some ()) (hn : Nat.ble (d + 1) n.k = true) (h : VL P m n B w0 ops Q rest ((d, .int .i64 s.size) :: env) H) :
    VL P m n B w0 ops Q (⟨some d, .call ⟨.builtin .len, #[x], #[tx]⟩, ty, pos, after, none⟩ :: rest) env H :=
  VL_pure rfl rfl hn rfl (fun f w ha _ => by simp [execOp, resolve, invoke, builtin, ha.eval hx, Builtin.len_, run_underlying (T.strs ht), goInt]) h
end

/-! ### Memory -/

theorem VL_fieldAddr (T : Tab P) {s f k g i : Nat} {x : Operand} (hx : evo env x = some (.pointer (some ⟨g, i, none⟩))) (hf : look2 T.fo s f = some k) (hn : Nat.ble (d + 1) n.k = true)
    (h : VL P m n B w0 ops Q rest ((d, .pointer (some ⟨g, i + k, none⟩)) :: env) H) : VL P m n B w0 ops Q (⟨some d, .fieldAddr s x f, ty, pos, after, none⟩ :: rest) env H := by
  refine VL_pure rfl rfl hn rfl (fun a w ha _ => ?_) h
  have h1 := T.offs hf
  unfold fieldOff at h1
  split at h1
  · rename_i fs hu
    cases hfl : fs[f]? with
    | none => rw [hfl] at h1; cases h1
    | some fld =>
      rw [hfl] at h1
      simp only [Option.bind_some] at h1
      cases hi : P.info? fld.type with
      | none => rw [hi] at h1; cases h1
      | some inf =>
        rw [hi] at h1
        simp only [Option.bind_some] at h1
        by_cases hz : inf.size = 0
        · rw [if_pos hz] at h1; cases h1
        · rw [if_neg hz] at h1
          have h2 : fld.offset = k := by simpa using h1
          subst h2
          simp [execOp, ha.eval hx, Instr.fieldAt, run_underlying hu, hfl, Instr.sureAddr, fieldPlace, sizeOf, typeInfo, hi, hz, Addr.add_lit]
  · cases h1

theorem cell_of_blk {w : World} {g i : Nat} {cs : Array Value} {t : TypeId} {fr : Nat × Nat} (h : w.heap[g]? = some (.cells cs t fr)) : w.cell? ⟨g, i, none⟩ = cs[i]? := by simp [World.cell?, h]

theorem VL_load (T : Tab P) {t g i : Nat} {cs : Array Value} {tt : TypeId} {fr : Nat × Nat} {v : Value} {x : Operand} (hx : evo env x = some (.pointer (some ⟨g, i, none⟩))) (hm : blk g (.cells cs tt fr) ∈ H) (hv : nth cs.toList i = some v)
    (ht : look T.sc t = some ()) (hn : Nat.ble (d + 1) n.k = true) (h : VL P m n B w0 ops Q rest ((d, v) :: env) H) : VL P m n B w0 ops Q (⟨some d, .load t x, ty, pos, after, none⟩ :: rest) env H := by
  refine VL_pure rfl rfl hn rfl (fun a w ha hw => ?_) h
  rw [nth_arr] at hv
  have hc := cell_of_blk (i := i) (hw.blk hm).1
  simp [execOp, ha.eval hx, Instr.loadAt, Instr.sureAddr, loadVar, run_isAgg_false (T.scal ht).1, hc, hv]

theorem VL_load_whole (T : Tab P) {t g k : Nat} {cs : Array Value} {tt : TypeId} {fr : Nat × Nat} {x : Operand} (hx : evo env x = some (.pointer (some ⟨g, 0, none⟩))) (hm : blk g (.cells cs tt fr) ∈ H)
    (ht : look T.ag t = some k) (hk : cs.size = k) (hn : Nat.ble (d + 1) n.k = true) (h : VL P m n B w0 ops Q rest ((d, .agg cs) :: env) H) :
    VL P m n B w0 ops Q (⟨some d, .load t x, ty, pos, after, none⟩ :: rest) env H := by
  refine VL_pure rfl rfl hn rfl (fun a w ha hw => ?_) h
  have hb := (hw.blk hm).1
  have hl := run_loadCells_list (P := P) w ⟨g, 0, none⟩ cs.toList (fun j v hj => by rw [Addr.add_lit, cell_of_blk hb, Nat.zero_add]; simpa using hj)
  rw [show cs.toList.length = k by simpa using hk] at hl
  simp [execOp, ha.eval hx, Instr.loadAt, Instr.sureAddr, loadVar, run_isAgg_true (T.aggs ht), run_sizeOf (aggT_size (T.aggs ht)), hl]

/-- l' is l with v in the place i. -/
def SetAt (l : List Value) (i : Nat) (v : Value) (l' : List Value) : Prop := i < l.length ∧ l' = l.set i v
theorem setat_here {x v : Value} {l : List Value} : SetAt (x :: l) 0 v (v :: l) := ⟨by simp, rfl⟩
theorem setat_there {x v : Value} {l l' : List Value} {i : Nat} (h : SetAt l i v l') : SetAt (x :: l) (i + 1) v (x :: l') := ⟨by have := h.1; simp; omega, by rw [h.2]; rfl⟩

theorem VL_store (T : Tab P) {t g i : Nat} {cs cs' : List Value} {tt : TypeId} {v : Value} {x y : Operand} {K : List HP} (hx : evo env x = some (.pointer (some ⟨g, i, none⟩))) (hy : evo env y = some v) (h1 : v.oneCell' = true)
    (hu : Upd (blk g (.cells cs.toArray tt (0, 0))) (blk g (.cells cs'.toArray tt (0, 0))) H K) (hs : SetAt cs i v cs')
    (ht : look T.sc t = some ()) (h : VL P none n B w0 ops Q rest env K) : VL P none n B w0 ops Q (⟨none, .store t x y, ty, pos, after, none⟩ :: rest) env H := by
  obtain ⟨hi, rfl⟩ := hs
  have hu' : Upd (blk g (.cells cs.toArray tt (0, 0))) (blk g (.cells (cs.toArray.setIfInBounds i v) tt (0, 0))) H K := by rw [List.setIfInBounds_toArray]; exact hu
  refine VL_skip rfl rfl (fun a w ha hw => ⟨w.setCell ⟨g, i, none⟩ v, ?_, hw.setCell hu'⟩) h
  have hb : w.heap[g]? = some (.cells cs.toArray tt (0, 0)) := by
    obtain ⟨L1, L2, rfl, _⟩ := hu
    exact (hw.blk (by simp)).1
  have hc := cell_of_blk (i := i) hb
  have hcs : v.cells = #[v] := by cases v <;> first | rfl | simp [Value.oneCell'] at h1
  have hz : w.frozen? ⟨g, i, none⟩ = false := by simp [World.frozen?, hb]
  have hv : (cs.toArray)[i]? = some cs[i] := by simp [hi]
  rw [hv] at hc
  simp [execOp, ha.eval hx, ha.eval hy, Instr.storeAt, Instr.sureAddr, storeVar, hcs, run_sizeOf (T.scal ht).2, storeCells, run_store _ _ _ _ _ h1, Addr.add_zero', hc, hz]

theorem VL_box_agg {t : TypeId} {x : Operand} {cs : Array Value} (hx : evo env x = some (.agg cs)) (hn : Nat.ble (d + 1) n.k = true)
    (h : ∀ g, VL P none n B w0 ops Q rest ((d, .pointer (some ⟨g, 0, none⟩)) :: env) (blk g (.cells cs t (0, 0)) :: H)) : VL P none n B w0 ops Q (⟨some d, .box t x, ty, pos, after, none⟩ :: rest) env H :=
  VL_opE (fun v K => ∃ g, v = .pointer (some ⟨g, 0, none⟩) ∧ K = blk g (.cells cs t (0, 0)) :: H) rfl rfl hn
    (fun a w ha hw => ⟨_, _, w.alloc (.cells cs t (0, 0)), by simp [execOp, ha.eval hx, Instr.box, newVar, newRow, Value.cells], hw.alloc _, w.heap.size, rfl, rfl⟩)
    (by rintro _ _ ⟨g, rfl, rfl⟩; exact h g)
theorem VL_box_one {t : TypeId} {x : Operand} {v : Value} (hx : evo env x = some v) (h1 : v.cells = #[v]) (hn : Nat.ble (d + 1) n.k = true)
    (h : ∀ g, VL P none n B w0 ops Q rest ((d, .pointer (some ⟨g, 0, none⟩)) :: env) (blk g (.cells #[v] t (0, 0)) :: H)) : VL P none n B w0 ops Q (⟨some d, .box t x, ty, pos, after, none⟩ :: rest) env H :=
  VL_opE (fun v' K => ∃ g, v' = .pointer (some ⟨g, 0, none⟩) ∧ K = blk g (.cells #[v] t (0, 0)) :: H) rfl rfl hn
    (fun a w ha hw => ⟨_, _, w.alloc (.cells #[v] t (0, 0)), by simp [execOp, ha.eval hx, Instr.box, newVar, newRow, h1], hw.alloc _, w.heap.size, rfl, rfl⟩)
    (by rintro _ _ ⟨g, rfl, rfl⟩; exact h g)
theorem VL_alloc {t : TypeId} {z : Value} {cs : Array Value} (hz : ∀ w, (zeroValue t).run P w = .ok z w) (hc : z.cells = cs) (hn : Nat.ble (d + 1) n.k = true)
    (h : ∀ g, VL P none n B w0 ops Q rest ((d, .pointer (some ⟨g, 0, none⟩)) :: env) (blk g (.cells cs t (0, 0)) :: H)) : VL P none n B w0 ops Q (⟨some d, .alloc t, ty, pos, after, none⟩ :: rest) env H :=
  VL_opE (fun v' K => ∃ g, v' = .pointer (some ⟨g, 0, none⟩) ∧ K = blk g (.cells cs t (0, 0)) :: H) rfl rfl hn
    (fun a w _ hw => ⟨_, _, w.alloc (.cells cs t (0, 0)), by simp [execOp, Instr.alloc, hz, newVar, newRow, hc], hw.alloc _, w.heap.size, rfl, rfl⟩)
    (by rintro _ _ ⟨g, rfl, rfl⟩; exact h g)

/-- The parts of a build. -/
def Parts (env : Env) : List (Nat × Operand) → List (Nat × Value) → Prop
  | [], [] => True
  | x :: l, v :: vs => x.1 = v.1 ∧ evo env x.2 = some v.2 ∧ Parts env l vs
  | _, _ => False
theorem parts_nil {env : Env} : Parts env [] [] := trivial
theorem parts_cons {env : Env} {i : Nat} {x : Operand} {v : Value} {l : List (Nat × Operand)} {vs : List (Nat × Value)} (h : evo env x = some v) (hl : Parts env l vs) : Parts env ((i, x) :: l) ((i, v) :: vs) := ⟨rfl, h, hl⟩
theorem map_parts {n : Shp} {a : Act} {env : Env} (ha : Fits n a env) : ∀ (l : List (Nat × Operand)) (us : List (Nat × Value)), Parts env l us → l.map (fun p => (p.1, a.eval p.2)) = us
  | [], [], _ => rfl
  | [], _ :: _, h => h.elim
  | _ :: _, [], h => h.elim
  | x :: l, u :: us, h => by rw [List.map_cons, ha.eval h.2.1, map_parts ha l us h.2.2, h.1]
/-- build: the value by a closed fact. -/
theorem VL_build {t : TypeId} {parts : List (Nat × Operand)} {ps : List (Nat × Value)} {v : Value} (hp : Parts env parts ps) (hb : ∀ w, (Instr.build t ps.toArray).run P w = .ok v w) (hn : Nat.ble (d + 1) n.k = true)
    (h : VL P m n B w0 ops Q rest ((d, v) :: env) H) : VL P m n B w0 ops Q (⟨some d, .build t parts.toArray, ty, pos, after, none⟩ :: rest) env H := by
  refine VL_pure rfl rfl hn rfl (fun a w ha _ => ?_) h
  have hm : (parts.toArray.map fun (i, x) => (i, a.eval x)) = ps.toArray := by rw [List.map_toArray]; exact congrArg List.toArray (map_parts ha _ _ hp)
  simp only [execOp, hm]
  simp [hb]
end
end Go.Eng

/- The engine, part 3: slices, strings. -/
namespace Go.Eng
open Go.RowKit

/-! ### A slice of the call's own (nil let in): its first cells are xs -/

def sl (e size : Nat) (A : Option Addr) (k cap : Nat) (xs : List Value) : HP :=
  ⟨fun S w => w.ownsRow 0 e size (.slice A k cap) k xs ∧ ∀ a, A = some a → S a.block, by
    rintro S w w' hs ⟨⟨h1, h2⟩, h3⟩
    refine ⟨⟨h1, ?_⟩, h3⟩
    rcases h2 with h2 | ⟨g, c, cur, e1, e2, e3, e4⟩
    · exact .inl h2
    · refine .inr ⟨g, c, cur, e1, e2, ?_, e4⟩
      injection e1 with e1
      rw [hs g (h3 _ e1)]
      exact e3⟩

theorem sl_nil {e size : Nat} (S : Nat → Prop) (w : World) : (sl e size none 0 0 []).holds S w := ⟨⟨by simp, .inl ⟨rfl, rfl⟩⟩, fun a h => by cases h⟩

/-- A nil slice is a piece without memory. -/
theorem St.nilSlice {B : Nat} {w0 w : World} {H : List HP} (h : St B w0 H w) (e size : Nat) : St B w0 (sl e size none 0 0 [] :: H) w :=
  ⟨h.below, h.le, fun _ => False, fun b => B ≤ b ∧ b < w.heap.size, fun _ hb => hb.elim, fun _ hb => hb, fun _ hb => hb.elim, sl_nil _ _, h.sep⟩

theorem St.sl {B : Nat} {w0 w : World} {H : List HP} {e size : Nat} {A : Option Addr} {k cap : Nat} {xs : List Value} (h : St B w0 H w) (hm : Eng.sl e size A k cap xs ∈ H) :
    w.ownsRow 0 e size (.slice A k cap) k xs := by
  obtain ⟨S, _, h2, _⟩ := h.at_ hm
  exact h2

theorem sl_cell {w : World} {e size : Nat} {A : Option Addr} {k cap : Nat} {xs : List Value} (h : w.ownsRow 0 e size (.slice A k cap) k xs) {j : Nat} {v : Value} (hv : xs[j]? = some v) :
    ∃ g, A = some ⟨g, 0, none⟩ ∧ w.cell? ⟨g, j, none⟩ = some v ∧ ∃ cur, w.heap[g]? = some (.cells cur e (0, 0)) ∧ cur[j]? = some v := by
  rcases h.2 with ⟨e1, e2⟩ | ⟨g, c, cur, e1, _, e3, _, _, _, e4⟩
  · exfalso
    have := h.1
    rw [e2, Nat.zero_mul] at this
    rw [List.eq_nil_of_length_eq_zero this] at hv
    cases hv
  · injection e1 with e1
    have hc : cur[j]? = some v := by
      rw [← e4] at hv
      rw [List.getElem?_take] at hv
      split at hv
      · simpa using hv
      · cases hv
    exact ⟨g, e1, by rw [cell_of_blk e3]; exact hc, cur, e3, hc⟩

theorem sliceT_spec {P : Program} {t e size bytes : Nat} (h : sliceT P t = some (e, size, bytes)) :
    P.underlying t = some (.slice e) ∧ ∃ i z, P.info? e = some i ∧ i.zero = some z ∧ z.cells.size = size ∧ i.size = size ∧ i.bytes = bytes ∧ 0 < size ∧ 0 < bytes := by
  unfold sliceT at h
  split at h
  · rename_i e' hu
    cases hi : P.info? e' with
    | none => rw [hi] at h; cases h
    | some i =>
      rw [hi] at h
      simp only [Option.bind_some] at h
      cases hz : i.zero with
      | none => rw [hz] at h; cases h
      | some z =>
        rw [hz] at h
        simp only [Option.bind_some] at h
        split at h
        · rename_i hc
          simp only [Option.some.injEq, Prod.mk.injEq] at h
          obtain ⟨rfl, rfl, rfl⟩ := h
          exact ⟨hu, i, z, hi, hz, hc.1, rfl, rfl, hc.2⟩
        · cases h
  · cases h

def allOne : List Value → Bool
  | [] => true
  | v :: l => v.oneCell' && allOne l
theorem allOne_spec : ∀ {l : List Value}, allOne l = true → ∀ u ∈ l, u.oneCell' = true
  | [], _, u, hu => by cases hu
  | v :: l, h, u, hu => by
    simp only [allOne, Bool.and_eq_true] at h
    rcases List.mem_cons.1 hu with e | e
    · rw [e]; exact h.1
    · exact allOne_spec h.2 u e

/-- A pointer to the j-th cell of a slice's memory. -/
def sptr (A : Option Addr) (j : Nat) : Value := .pointer (A.map fun a => a.add j)

section
variable {P : Program} {m : Mode} {n : Shp} {B : Nat} {w0 : World} {Q : Exit → Act → World → Prop} {env : Env} {H : List HP} {ops : Array Oper} {rest : List Oper}
variable {d : Nat} {ty : TypeId} {pos : String} {after : Array Edge}

theorem VC_nilSlice (e size : Nat) {c : Code} (h : VC P n B w0 c Q env (sl e size none 0 0 [] :: H)) : VC P n B w0 c Q env H := ⟨fun a w ha hw => h.run a w ha (hw.nilSlice e size)⟩

theorem VL_len (T : Tab P) {tx : Nat} {x : Operand} {A : Option Addr} {k cap : Nat} {es : Nat × Nat × Nat} (hx : evo env x = some (.slice A k cap)) (ht : look T.sl tx = some es) (hn : Nat.ble (d + 1) n.k = true) (h : VL P m n B w0 ops Q rest ((d, .int .i64 k) :: env) H) :
    VL P m n B w0 ops Q (⟨some d, .call ⟨.builtin .len, #[x], #[tx]⟩, ty, pos, after, none⟩ :: rest) env H := by
  obtain ⟨e, size, bytes⟩ := es
  obtain ⟨hu, _⟩ := sliceT_spec (T.slic ht)
  exact VL_pure rfl rfl hn rfl (fun f w ha _ => by simp [execOp, resolve, invoke, builtin, ha.eval hx, Builtin.len_, run_underlying hu, goInt]) h

theorem VL_append (T : Tab P) {t tt : Nat} {x y : Operand} {A : Option Addr} {k cap : Nat} {xs : List Value} {g mm c : Nat} {cs : Array Value} {fr : Nat × Nat} {e size bytes : Nat} {K : Option Addr → Nat → List HP}
    (hx : evo env x = some (.slice A k cap)) (ht : look T.sl t = some (e, size, bytes))
    (hy : evo env y = some (.slice (some ⟨g, 0, none⟩) mm c)) (hb : blk g (.cells cs tt fr) ∈ H) (hk : cs.size = mm * size) (h1 : allOne cs.toList = true) (hn : Nat.ble (d + 1) n.k = true)
    (hu : ∀ A' cap', Upd (sl e size A k cap xs) (sl e size A' (k + mm) cap' (xs ++ cs.toList)) H (K A' cap')) (hby : (k + mm) * bytes ≤ 140737488355328)
    (h : ∀ A' cap', VL P none n B w0 ops Q rest ((d, .slice A' (k + mm) cap') :: env) (K A' cap')) :
    VL P none n B w0 ops Q (⟨some d, .call ⟨.builtin .append, #[x, y], #[t, t]⟩, ty, pos, after, none⟩ :: rest) env H := by
  obtain ⟨hut, i, z, hi, hz, hzs, hsi, hbi, hs0, hb0⟩ := sliceT_spec (T.slic ht)
  refine VL_opE (fun v K' => ∃ A' cap', v = .slice A' (k + mm) cap' ∧ K' = K A' cap') rfl rfl hn (fun a w ha hw => ?_) (by rintro _ _ ⟨A', cap', rfl, rfl⟩; exact h A' cap')
  have hmem : sl e size A k cap xs ∈ H := by
    obtain ⟨L1, L2, rfl, _⟩ := hu none 0
    simp
  have hown := hw.sl hmem
  have hblk := (hw.blk hb).1
  have h63 : k + mm ≤ maxLen := by
    have : k + mm ≤ (k + mm) * bytes := Nat.le_mul_of_pos_right _ hb0
    simp only [maxLen]; omega
  obtain ⟨v', w', hrun, hown', hgrow, _, hat⟩ := run_append_own_at (P := P) w 0 t ty e i z size bytes hut hi hz hsi hbi hzs hs0 (.slice A k cap) k xs hown ⟨g, 0, none⟩ mm c cs.toList (by simpa using hk)
    (fun j u hj => by rw [Addr.add_lit, cell_of_blk hblk, Nat.zero_add]; simpa using hj) (allOne_spec h1) h63 hby (Nat.zero_le _)
  have hshape : ∃ A' cap', v' = .slice A' (k + mm) cap' := by
    rcases hown'.2 with ⟨e1, e2⟩ | ⟨g', c', _, e1, _⟩
    · exact ⟨none, 0, by rw [e1, e2]⟩
    · exact ⟨_, _, e1⟩
  obtain ⟨A', cap', rfl⟩ := hshape
  refine ⟨_, K A' cap', w', by simp [execOp, resolve, invoke, builtin, ha.eval hx, ha.eval hy, hrun], ?_, A', cap', rfl, rfl⟩
  refine hw.updN (hu A' cap') hgrow.os hgrow.tape hgrow.output hgrow.size fun S1 ⟨_, hS⟩ => ⟨⟨fun b => Value.ownBlock (.slice A' (k + mm) cap') = some b, ⟨hown', ?_⟩, fun b hb => ?_⟩, fun b hb hlt => hgrow.block b hlt (fun e => hb ?_)⟩
  · rintro a rfl; rfl
  · rcases hat with e | e
    · rw [e] at hb
      cases A with
      | none => cases hb
      | some a => left; have := hS a rfl; simp only [Value.ownBlock, Option.some.injEq] at hb; rwa [← hb]
    · rw [e] at hb
      right
      simp only [Option.some.injEq] at hb
      subst hb
      refine ⟨Nat.le_refl _, ?_⟩
      rcases hown'.2 with ⟨e1, _⟩ | ⟨g', _, _, e1, _, e3, _⟩
      · rw [e1] at e; cases e
      · rw [e1] at e
        simp only [Value.ownBlock, Option.some.injEq] at e
        subst e
        rcases Nat.lt_or_ge w.heap.size w'.heap.size with h | h
        · exact h
        · rw [Array.getElem?_eq_none h] at e3; cases e3
  · cases A with
    | none => cases e
    | some a => simp only [Value.ownBlock, Option.some.injEq] at e; rw [e]; exact hS a rfl

/-- The address of an element. -/
theorem VL_index_sl (T : Tab P) {t : Nat} {x y : Operand} {A : Option Addr} {k cap : Nat} {xs : List Value} {e size bytes : Nat} {ki : IntKind} {i : Int} (hx : evo env x = some (.slice A k cap)) (hm : sl e size A k cap xs ∈ H) (hy : evo env y = some (.int ki i))
    (ht : look T.sl t = some (e, size, bytes)) (hn : Nat.ble (d + 1) n.k = true) (hi : 0 ≤ i ∧ i < k) (h : VL P m n B w0 ops Q rest ((d, sptr A (i.toNat * size)) :: env) H) :
    VL P m n B w0 ops Q (⟨some d, .indexAddr t x y, ty, pos, after, none⟩ :: rest) env H := by
  obtain ⟨hut, inf, z, hinf, _, _, hsi, _, _, _⟩ := sliceT_spec (T.slic ht)
  refine VL_pure rfl rfl hn rfl (fun a w ha hw => ?_) h
  have hown := hw.sl hm
  rcases hown.2 with ⟨_, e2⟩ | ⟨g, c, cur, e1, _⟩
  · exfalso; omega
  · injection e1 with e1
    subst e1
    simp [execOp, ha.eval hx, ha.eval hy, Instr.indexAt, asIntOf, run_underlying hut, hi, sizeOf, typeInfo, hinf, hsi, sptr]

theorem VL_load_sl (T : Tab P) {t j : Nat} {x : Operand} {A : Option Addr} {k cap : Nat} {xs : List Value} {e size : Nat} {v : Value} (hx : evo env x = some (sptr A j)) (hm : sl e size A k cap xs ∈ H) (ht : look T.sc t = some ()) (hn : Nat.ble (d + 1) n.k = true) (hv : xs[j]? = some v)
    (h : VL P m n B w0 ops Q rest ((d, v) :: env) H) : VL P m n B w0 ops Q (⟨some d, .load t x, ty, pos, after, none⟩ :: rest) env H := by
  refine VL_pure rfl rfl hn rfl (fun a w ha hw => ?_) h
  obtain ⟨g, rfl, hc, _⟩ := sl_cell (hw.sl hm) hv
  simp [execOp, ha.eval hx, sptr, Instr.loadAt, Instr.sureAddr, loadVar, run_isAgg_false (T.scal ht).1, Addr.add_lit, hc]

theorem VL_store_sl (T : Tab P) {t j : Nat} {x y : Operand} {A : Option Addr} {k cap : Nat} {xs : List Value} {e size : Nat} {v : Value} {K : List HP} (hx : evo env x = some (sptr A j)) (hy : evo env y = some v) (h1 : v.oneCell' = true)
    (hu : Upd (sl e size A k cap xs) (sl e size A k cap (xs.set j v)) H K) (ht : look T.sc t = some ()) (hj : j < xs.length)
    (h : VL P none n B w0 ops Q rest env K) : VL P none n B w0 ops Q (⟨none, .store t x y, ty, pos, after, none⟩ :: rest) env H := by
  have hmem : sl e size A k cap xs ∈ H := by
    obtain ⟨L1, L2, rfl, _⟩ := hu
    simp
  refine VL_skip rfl rfl (fun a w ha hw => ?_) h
  obtain ⟨g, rfl, hc, cur, hb, hcj⟩ := sl_cell (hw.sl hmem) (List.getElem?_eq_getElem hj)
  refine ⟨w.setCell ⟨g, j, none⟩ v, ?_, ?_⟩
  · have hcs : v.cells = #[v] := by cases v <;> first | rfl | simp [Value.oneCell'] at h1
    have hz : w.frozen? ⟨g, j, none⟩ = false := by simp [World.frozen?, hb]
    simp [execOp, ha.eval hx, ha.eval hy, sptr, Instr.storeAt, Instr.sureAddr, storeVar, hcs, run_sizeOf (T.scal ht).2, storeCells, run_store _ _ _ _ _ h1, Addr.add_lit, hc, hz]
  · refine hw.upd hu rfl rfl rfl (by simp) fun S1 ⟨hown, hS⟩ => ⟨⟨⟨?_, ?_⟩, hS⟩, fun b hb' _ => Below.heap_setCell w _ v b (fun e => hb' (by rw [e]; exact hS ⟨g, 0, none⟩ rfl))⟩
    · simpa using hown.1
    · rcases hown.2 with ⟨e1, _⟩ | ⟨g', c', cur', e1, e2, e3, e4, e5, e6, e7⟩
      · cases e1
      · injection e1 with e1 e8 e9
        injection e1 with e1
        injection e1 with e1
        subst e1
        refine .inr ⟨g, c', cur'.setIfInBounds j v, by rw [e9], e2, ?_, e4, e5, by simpa using e6, ?_⟩
        · simp [World.setCell, Array.getElem?_modify, e3]
        · rw [← e7]
          simp only [Array.toList_setIfInBounds]
          rw [List.take_set]

/-! ### Strings -/

theorem VL_min2 {x y : Operand} {k : IntKind} {a b : Int} {tys : Array TypeId} (hx : evo env x = some (.int k a)) (hy : evo env y = some (.int k b)) (hn : Nat.ble (d + 1) n.k = true) (h1 : b < a → VL P m n B w0 ops Q rest ((d, .int k b) :: env) H) (h2 : a ≤ b → VL P m n B w0 ops Q rest ((d, .int k a) :: env) H) :
    VL P m n B w0 ops Q (⟨some d, .call ⟨.builtin .min, #[x, y], tys⟩, ty, pos, after, none⟩ :: rest) env H := by
  by_cases hc : b < a
  · exact VL_pure rfl rfl hn rfl (fun f w ha _ => by simp [execOp, resolve, invoke, builtin, ha.eval hx, ha.eval hy, run_min_int2, hc]) (h1 hc)
  · exact VL_pure rfl rfl hn rfl (fun f w ha _ => by simp [execOp, resolve, invoke, builtin, ha.eval hx, ha.eval hy, run_min_int2, hc]) (h2 (by omega))

/-- A slice literal: the cells by a closed fact. -/
theorem VL_buildSlice {t e len : Nat} {parts : List (Nat × Operand)} {ps : List (Nat × Value)} {cs : Array Value} (hp : Parts env parts ps) (hb : ∀ w, (Instr.buildSlice t len ps.toArray).run P w = .ok (.slice (some ⟨w.heap.size, 0, none⟩) len len) (w.alloc (.cells cs e (0, 0)))) (hn : Nat.ble (d + 1) n.k = true)
    (h : ∀ g, VL P none n B w0 ops Q rest ((d, .slice (some ⟨g, 0, none⟩) len len) :: env) (blk g (.cells cs e (0, 0)) :: H)) : VL P none n B w0 ops Q (⟨some d, .buildSlice t len parts.toArray, ty, pos, after, none⟩ :: rest) env H := by
  refine VL_opE (fun v K => ∃ g, v = .slice (some ⟨g, 0, none⟩) len len ∧ K = blk g (.cells cs e (0, 0)) :: H) rfl rfl hn (fun a w ha hw => ?_) (by rintro _ _ ⟨g, rfl, rfl⟩; exact h g)
  have hm : (parts.toArray.map fun (i, x) => (i, a.eval x)) = ps.toArray := by rw [List.map_toArray]; exact congrArg List.toArray (map_parts ha _ _ hp)
  refine ⟨_, _, w.alloc (.cells cs e (0, 0)), ?_, hw.alloc _, w.heap.size, rfl, rfl⟩
  simp only [execOp, hm]
  simp [hb]

theorem VQ_nilSlice (e size : Nat) {ex : Exit} (h : VQ n B w0 Q ex env (sl e size none 0 0 [] :: H)) : VQ n B w0 Q ex env H := ⟨fun a w ha hw => h.run a w ha (hw.nilSlice e size)⟩

/-! ### Bytes -/

/-- make of a slice whose elements have one cell. -/
theorem VL_make1 (T : Tab P) {t e bytes : Nat} {x y : Operand} {c : Int} {z : Value} (hx : evo env x = some (.int .i64 c)) (hy : evo env y = some (.int .i64 c)) (ht : look T.sl t = some (e, 1, bytes)) (hz : ((P.info? e).bind (·.zero)) = some z) (hz1 : z.cells = #[z]) (hn : Nat.ble (d + 1) n.k = true) (hb : Nat.ble bytes 1000 = true) (hc : 0 ≤ c ∧ c ≤ 1000000)
    (h : ∀ g, VL P none n B w0 ops Q rest ((d, .slice (some ⟨g, 0, none⟩) c.toNat c.toNat) :: env) (sl e 1 (some ⟨g, 0, none⟩) c.toNat c.toNat (List.replicate c.toNat z) :: H)) : VL P none n B w0 ops Q (⟨some d, .makeSlice t x y, ty, pos, after, none⟩ :: rest) env H := by
  obtain ⟨hu, i, z', hi, hz', _, hsi, hbi, _, _⟩ := sliceT_spec (T.slic ht)
  obtain rfl : z' = z := by rw [hi] at hz; simp only [Option.bind_some, hz', Option.some.injEq] at hz; exact hz
  have hb' := Nat.le_of_ble_eq_true hb
  refine VL_opE (fun v K => ∃ g, v = .slice (some ⟨g, 0, none⟩) c.toNat c.toNat ∧ K = sl e 1 (some ⟨g, 0, none⟩) c.toNat c.toNat (List.replicate c.toNat z') :: H) rfl rfl hn (fun a w ha hw => ?_) (by rintro _ _ ⟨g, rfl, rfl⟩; exact h g)
  have hbytes : (i.bytes : Int) * c ≤ 281474976710656 := by
    have h1 : (i.bytes : Int) * c ≤ 1000 * c := Int.mul_le_mul_of_nonneg_right (by omega) hc.1
    omega
  have hrun := run_make (P := P) w t e i z' hu hi hz' .i64 .i64 c c hc.1 (Int.le_refl _) hbytes (by omega)
  rw [hsi, Nat.mul_one, hz1] at hrun
  refine ⟨_, _, w.alloc (.cells (madeCells #[z'] c.toNat) e), by simp only [execOp, ha.eval hx, ha.eval hy, Sem.run_bind, hrun, Result.andThen_ok, Sem.run_pure], ?_, w.heap.size, rfl, rfl⟩
  have h2 := hw.alloc (.cells (madeCells #[z'] c.toNat) e)
  refine h2.upd (Upd.here _) rfl rfl rfl (Nat.le_refl _) fun S1 ⟨h3, h4⟩ => ⟨⟨⟨by simp, .inr ⟨w.heap.size, c.toNat, madeCells #[z'] c.toNat, rfl, Nat.zero_le _, h4, Nat.le_refl _, by simp only [maxLen]; omega, by simp [size_madeCells], ?_⟩⟩, fun a ha => by cases ha; exact h3⟩, fun _ _ _ => rfl⟩
  rw [toList_madeCells_one, Nat.mul_one, List.take_of_length_le (by simp)]

/-! ### Loops with several things that change -/

theorem VC_loop2 {α β : Type} (E : α → β → Env) (HH : α → β → List HP) (I : α → β → Prop) (μ : α → β → Nat) {c : Code} (x0 : α) (y0 : β) (h0 : I x0 y0)
    (he : ∀ t v, get (E x0 y0) t = some v → get env t = some v) (hH : ∀ w, St B w0 H w → St B w0 (HH x0 y0) w)
    (round : ∀ x y, I x y → ∀ K : Act → World → Prop, (∀ x' y', I x' y' → μ x' y' < μ x y → ∀ env' H', (∀ t v, get (E x' y') t = some v → get env' t = some v) → (∀ w, St B w0 H' w → St B w0 (HH x' y') w) → VQ n B w0 (Exit.then K Q) .normal env' H') →
      VC P n B w0 c (Exit.then K Q) (E x y) (HH x y)) : VC P n B w0 (.loop c) Q env H :=
  VC_loop (α := α × β) (fun p => E p.1 p.2) (fun p => HH p.1 p.2) (fun p => I p.1 p.2) (fun p => μ p.1 p.2) (x0, y0) h0 he hH fun p hp =>
    round p.1 p.2 hp _ fun x' y' hI hμ _ _ he' hH' => VQ_round (x', y') hI hμ he' hH'

theorem VC_loop1 {α : Type} (E : α → Env) (HH : α → List HP) (I : α → Prop) (μ : α → Nat) {c : Code} (x0 : α) (h0 : I x0)
    (he : ∀ t v, get (E x0) t = some v → get env t = some v) (hH : ∀ w, St B w0 H w → St B w0 (HH x0) w)
    (round : ∀ x, I x → ∀ K : Act → World → Prop, (∀ x', I x' → μ x' < μ x → ∀ env' H', (∀ t v, get (E x') t = some v → get env' t = some v) → (∀ w, St B w0 H' w → St B w0 (HH x') w) → VQ n B w0 (Exit.then K Q) .normal env' H') →
      VC P n B w0 c (Exit.then K Q) (E x) (HH x)) : VC P n B w0 (.loop c) Q env H :=
  VC_loop E HH I μ x0 h0 he hH fun p hp => round p hp _ fun x' hI hμ _ _ he' hH' => VQ_round x' hI hμ he' hH'

end
end Go.Eng

/- The engine, part 4: equality of structs, maps with integer keys, function values, arrays behind pointers. -/
namespace Go.Eng
open Go.RowKit
open Go.ChangeMaps (setBlock)

/-! ### Equality of structs whose fields are cells -/

/-- Two cells that Go's '==' compares at once. -/
def likeAt (P : Program) (t : TypeId) : Option Value → Option Value → Bool
  | some (.int k _), some (.int k' _) => decide (k = k') && (match P.underlying t with | some (.int _) => true | _ => false)
  | some (.string _), some (.string _) => match P.underlying t with | some .string => true | _ => false
  | some (.bool _), some (.bool _) => match P.underlying t with | some .bool => true | _ => false
  | _, _ => false

def aggLike (P : Program) (t : TypeId) (xs ys : List Value) : Bool :=
  match P.underlying t with
  | some (.struct fs) => !P.stoodInHeld t && (fs.toList.map (·.offset) == List.range xs.length) && (xs.length == ys.length) && fs.toList.all (fun f => f.name != "_" && likeAt P f.type xs[f.offset]? ys[f.offset]?)
  | _ => false

section
variable {P : Program}

theorem run_field_eq (w : World) (d : Nat) {t : TypeId} {x y : Value} (h : likeAt P t (some x) (some y) = true) : ∃ r : Bool, (Op.equalIn (d + 1) t x y).run P w = .ok r w ∧ (r = true ↔ x = y) := by
  unfold likeAt at h
  split at h
  · rename_i k a k' b e1 e2
    injection e1 with e1; injection e2 with e2
    subst e1; subst e2
    simp only [Bool.and_eq_true, decide_eq_true_eq] at h
    obtain ⟨rfl, h⟩ := h
    split at h
    · rename_i q hu
      exact ⟨a == b, run_equalIn_int w d t k q a b hu, by simp⟩
    · cases h
  · rename_i a b e1 e2
    injection e1 with e1; injection e2 with e2
    subst e1; subst e2
    split at h
    · rename_i hu
      exact ⟨a.toList == b.toList, run_equalIn_string w d t a b hu, by rw [bytes_eq_iff]; simp⟩
    · cases h
  · rename_i a b e1 e2
    injection e1 with e1; injection e2 with e2
    subst e1; subst e2
    split at h
    · rename_i hu
      exact ⟨a == b, run_equalIn_bool w d t a b hu, by simp⟩
    · cases h
  · cases h

theorem like_plain {t : TypeId} {x y : Option Value} (h : likeAt P t x y = true) : P.plainKey t = true ∧ ∃ a b, x = some a ∧ y = some b := by
  unfold likeAt at h
  split at h
  · simp only [Bool.and_eq_true] at h
    obtain ⟨_, h⟩ := h
    split at h
    · rename_i hu; exact ⟨by simp [Program.plainKey, hu], _, _, rfl, rfl⟩
    · cases h
  · split at h
    · rename_i hu; exact ⟨by simp [Program.plainKey, hu], _, _, rfl, rfl⟩
    · cases h
  · split at h
    · rename_i hu; exact ⟨by simp [Program.plainKey, hu], _, _, rfl, rfl⟩
    · cases h
  · cases h

theorem run_fields_eq (w : World) (d : Nat) (xs ys : List Value) : ∀ fs : List Field, (∀ f ∈ fs, f.name ≠ "_" ∧ likeAt P f.type xs[f.offset]? ys[f.offset]? = true) →
    ∃ r : Bool, (Op.eqFields (d + 1) xs.toArray ys.toArray fs).run P w = .ok r w ∧ (r = true ↔ ∀ f ∈ fs, xs[f.offset]? = ys[f.offset]?)
  | [], _ => ⟨true, by simp [Op.eqFields], by simp⟩
  | f :: fs, hall => by
    obtain ⟨hn, hl⟩ := hall f (by simp)
    obtain ⟨hp, a, b, hx, hy⟩ := like_plain hl
    rw [hx, hy] at hl
    obtain ⟨r, hr, hiff⟩ := run_field_eq w d hl
    obtain ⟨r', hr', hiff'⟩ := run_fields_eq w d xs ys fs (fun g hg => hall g (by simp [hg]))
    have p1 := run_part_plain (P := P) (w := w) hp (xs := xs.toArray) (off := f.offset) (v := a) (by simpa using hx)
    have p2 := run_part_plain (P := P) (w := w) hp (xs := ys.toArray) (off := f.offset) (v := b) (by simpa using hy)
    simp only [Op.eqFields, hn, ne_eq, not_false_eq_true, if_true, Sem.run_bind, p1, p2, hr, Result.andThen_ok]
    cases r
    · refine ⟨false, by simp, ?_⟩
      simp only [Bool.false_eq_true, false_iff]
      intro h
      have h1 := h f (by simp)
      rw [hx, hy] at h1
      injection h1 with h1
      exact absurd (hiff.2 h1) (by simp)
    · refine ⟨r', by simpa using hr', ?_⟩
      rw [hiff']
      have h1 : a = b := hiff.1 rfl
      constructor
      · intro h g hg
        rcases List.mem_cons.1 hg with rfl | hg
        · rw [hx, hy, h1]
        · exact h g hg
      · exact fun h g hg => h g (by simp [hg])

theorem run_agg_eq (w : World) {t : TypeId} {xs ys : List Value} (h : aggLike P t xs ys = true) : ∃ r : Bool, (Op.equal t (.agg xs.toArray) (.agg ys.toArray)).run P w = .ok r w ∧ (r = true ↔ xs = ys) := by
  unfold aggLike at h
  split at h
  · rename_i fs hu
    simp only [Bool.and_eq_true, Bool.not_eq_true', beq_iff_eq, List.all_eq_true, bne_iff_ne, ne_eq] at h
    obtain ⟨⟨⟨h1, h2⟩, h3⟩, h4⟩ := h
    have hfs : P.fieldsOf t = fs := by simp [Program.fieldsOf, hu]
    obtain ⟨r, hr, hiff⟩ := run_fields_eq w 9998 xs ys fs.toList h4
    refine ⟨r, ?_, ?_⟩
    · unfold Op.equal
      rw [show Op.maxDepth = 9999 + 1 from rfl, run_equalIn_struct w 9999 t _ _ (by rw [hfs]; exact hu) h1, hfs]
      exact hr
    · rw [hiff]
      constructor
      · intro h
        apply List.ext_getElem?
        intro i
        by_cases hi : i < xs.length
        · have : i ∈ fs.toList.map (·.offset) := by rw [h2]; exact List.mem_range.2 hi
          obtain ⟨f, hf, rfl⟩ := List.mem_map.1 this
          exact h f hf
        · rw [List.getElem?_eq_none (by omega), List.getElem?_eq_none (by omega)]
      · rintro rfl f _; rfl
  · cases h

end

section
variable {P : Program} {n : Shp} {B : Nat} {w0 : World} {Q : Exit → Act → World → Prop} {env : Env} {H : List HP} {m : Mode} {ops : Array Oper} {rest : List Oper} {d : Nat} {ty : TypeId} {pos : String} {after : Array Edge}

theorem run_eqGuard_agg (w : World) {op : BinOp} {t : TypeId} {x y : Operand} {xs ys : Array Value} (hg : P.eqGuardType P.depth t = false) : (eqGuard op t x y (.agg xs) (.agg ys)).run P w = .ok () w := by
  unfold eqGuard
  cases op <;> simp [program, Sem.run, hg, Result.andThen]

theorem VL_aeql {xt yt : TypeId} {x y : Operand} {xs ys : List Value} (hx : evo env x = some (.agg xs.toArray)) (hy : evo env y = some (.agg ys.toArray)) (hn : Nat.ble (d + 1) n.k = true) (hg : P.eqGuardType P.depth xt = false) (hl : aggLike P xt xs ys = true)
    (h1 : xs = ys → VL P m n B w0 ops Q rest ((d, .bool true) :: env) H) (h2 : xs ≠ ys → VL P m n B w0 ops Q rest ((d, .bool false) :: env) H) :
    VL P m n B w0 ops Q (⟨some d, .binOp .eql xt x y yt, ty, pos, after, none⟩ :: rest) env H := by
  by_cases hc : xs = ys
  · refine VL_bin hx hy hn (fun w => run_eqGuard_agg w hg) (fun w => ?_) (h1 hc)
    obtain ⟨r, hr, hiff⟩ := run_agg_eq w hl
    simp [binOp, hr, hiff.2 hc]
  · refine VL_bin hx hy hn (fun w => run_eqGuard_agg w hg) (fun w => ?_) (h2 hc)
    obtain ⟨r, hr, hiff⟩ := run_agg_eq w hl
    have : r = false := by rw [Bool.eq_false_iff]; exact fun e => hc (hiff.1 e)
    simp [binOp, hr, this]
theorem VL_aneq {xt yt : TypeId} {x y : Operand} {xs ys : List Value} (hx : evo env x = some (.agg xs.toArray)) (hy : evo env y = some (.agg ys.toArray)) (hn : Nat.ble (d + 1) n.k = true) (hg : P.eqGuardType P.depth xt = false) (hl : aggLike P xt xs ys = true)
    (h1 : xs ≠ ys → VL P m n B w0 ops Q rest ((d, .bool true) :: env) H) (h2 : xs = ys → VL P m n B w0 ops Q rest ((d, .bool false) :: env) H) :
    VL P m n B w0 ops Q (⟨some d, .binOp .neq xt x y yt, ty, pos, after, none⟩ :: rest) env H := by
  by_cases hc : xs = ys
  · refine VL_bin hx hy hn (fun w => run_eqGuard_agg w hg) (fun w => ?_) (h2 hc)
    obtain ⟨r, hr, hiff⟩ := run_agg_eq w hl
    simp [binOp, hr, hiff.2 hc]
  · refine VL_bin hx hy hn (fun w => run_eqGuard_agg w hg) (fun w => ?_) (h1 hc)
    obtain ⟨r, hr, hiff⟩ := run_agg_eq w hl
    have : r = false := by rw [Bool.eq_false_iff]; exact fun e => hc (hiff.1 e)
    simp [binOp, hr, this]

/-! ### Pointers against nil -/
theorem run_equalIn_ptr0 (w : World) (k : Nat) {t e : TypeId} (a : Option Addr) (hu : P.underlying t = some (.pointer e)) : (Op.equalIn (k + 1) t (.pointer a) (.pointer none)).run P w = .ok a.isNone w := by
  unfold Op.equalIn
  cases a <;> simp [run_underlying hu]
def isPtr (P : Program) (t : TypeId) : Bool := match P.underlying t with | some (.pointer _) => true | _ => false
theorem isPtr_spec {t : TypeId} (h : isPtr P t = true) : ∃ e, P.underlying t = some (.pointer e) := by
  unfold isPtr at h
  split at h
  · rename_i e hu; exact ⟨e, hu⟩
  · cases h
theorem VL_peql0 {xt yt : TypeId} {x : Operand} {a : Option Addr} (hx : evo env x = some (.pointer a)) (hn : Nat.ble (d + 1) n.k = true) (hu : isPtr P xt = true)
    (h : VL P m n B w0 ops Q rest ((d, .bool a.isNone) :: env) H) : VL P m n B w0 ops Q (⟨some d, .binOp .eql xt x (.const (.pointer none)) yt, ty, pos, after, none⟩ :: rest) env H := by
  obtain ⟨e, hu⟩ := isPtr_spec hu
  refine VL_bin hx (y := .const (.pointer none)) rfl hn (fun w => by simp [eqGuard]) (fun w => ?_) h
  simp only [binOp, Op.equal]
  rw [Sem.run_bind, show Op.maxDepth = 9999 + 1 from rfl, run_equalIn_ptr0 w 9999 a hu]
  simp
/-! ### Arrays behind pointers -/
theorem arrayT_spec {t k e size : Nat} (h : arrayT P t = some (k, e, size)) : ∃ i, P.underlying t = some (.array k e) ∧ P.info? e = some i ∧ i.size = size := by
  unfold arrayT at h
  split at h
  · rename_i k' e' hu
    cases hi : P.info? e' with
    | none => rw [hi] at h; cases h
    | some i =>
      rw [hi] at h
      simp only [Option.map_some, Option.some.injEq, Prod.mk.injEq] at h
      obtain ⟨rfl, rfl, rfl⟩ := h
      exact ⟨i, hu, hi, rfl⟩
  · cases h
/-! ### Maps with integer keys -/

/-- The entries of a map: key, value, stamp. -/
abbrev Ents := List (Int × Value × Nat)
def mget (es : Ents) (k : Int) : Option Value := (es.find? fun e => e.1 == k).map (·.2.1)
theorem VL_opU {o : Oper} {v : Value} {H' : List HP} (hg : o.guard = none) (hd : o.dst = none)
    (hr : ∀ a w, Fits n a env → St B w0 H w → ∃ w', (execOp a.eval o).run P w = .ok (.value v) w' ∧ St B w0 H' w')
    (h : VL P none n B w0 ops Q rest env H') : VL P none n B w0 ops Q (o :: rest) env H := by
  refine ⟨fun a ha w hw => wpList_plain hg fun K hK => ?_⟩
  obtain ⟨w', hrun, hst⟩ := hr a w ha hw
  unfold Oper.wp
  rw [hrun, Oper.upon_value, hd]
  exact hK _ _ (h.run _ ha _ hst)

/-! ### Function values -/
theorem VL_makeFunc {fn : Fn} {caps : List Operand} {cs : List Value} (hc : Args env caps cs) (hn : Nat.ble (d + 1) n.k = true) (h : VL P none n B w0 ops Q rest ((d, .func fn #[] cs.toArray) :: env) H) :
    VL P none n B w0 ops Q (⟨some d, .makeFunc fn #[] caps.toArray, ty, pos, after, none⟩ :: rest) env H := by
  refine VL_op rfl rfl hn (fun a w ha hw => ⟨w, ?_, hw⟩) h
  have hmap : caps.toArray.map a.eval = cs.toArray := by rw [List.map_toArray, map_evo ha _ _ hc]
  simp [execOp, Instr.makeFunc, hmap]

theorem VL_callv {f : Nat} {x : Operand} {args : List Operand} {tys : Array TypeId} {vs cs : List Value} (Φ : Value → List HP → Prop) (hx : evo env x = some (.func (.func f) #[] cs.toArray))
    (hc : ∀ xs w, (callFunc f xs).run P w = .ok (.enter f xs) w) (hargs : Args env args vs) (hn : Nat.ble (d + 1) n.k = true)
    (hcall : ∀ w, St B w0 H w → Calls P f (vs ++ cs).toArray w (Post B w0 Φ))
    (h : ∀ v H', Φ v H' → VL P none n B w0 ops Q rest ((d, v) :: env) H') :
    VL P none n B w0 ops Q (⟨some d, .call ⟨.value x, args.toArray, tys⟩, ty, pos, after, none⟩ :: rest) env H := by
  refine ⟨fun a ha w hw => wpList_plain rfl fun K hK => ?_⟩
  unfold Oper.wp
  have hmap : args.toArray.map a.eval = vs.toArray := by rw [List.map_toArray, map_evo ha _ _ hargs]
  have hrun : (execOp a.eval ⟨some d, .call ⟨.value x, args.toArray, tys⟩, ty, pos, after, none⟩).run P w = .ok (.enter f (vs ++ cs).toArray) w := by
    simp only [execOp, resolve, ha.eval hx, hmap, Deferred.ofValue, Sem.run_bind, Sem.run_pure, Result.andThen_ok, invoke]
    simpa using hc ((vs ++ cs).toArray) w
  rw [hrun, Oper.upon_enter]
  refine (hcall w hw).mono ?_
  rintro e w' ⟨v, H', rfl, hst, hΦ⟩
  exact hK _ _ ((h v H' hΦ).run _ (ha.put (Nat.le_of_ble_eq_true hn) v) _ hst)

/-! ### Many pieces as one -/
def many (L : List HP) : HP := ⟨fun S w => sepL L S w, fun h hs => sepL_loc hs h⟩

theorem sepL_split {M : List HP} {w : World} : ∀ {L : List HP} {S : Nat → Prop}, sepL (L ++ M) S w → ∃ S1 S2 : Nat → Prop, (∀ b, S1 b → S b) ∧ (∀ b, S2 b → S b) ∧ (∀ b, S1 b → ¬ S2 b) ∧ sepL L S1 w ∧ sepL M S2 w
  | [], S, h => ⟨fun _ => False, S, fun _ hb => hb.elim, fun _ hb => hb, fun _ hb => hb.elim, trivial, h⟩
  | A :: L, S, h => by
    obtain ⟨T1, T2, h1, h2, h3, h4, h5⟩ := h
    obtain ⟨U1, U2, k1, k2, k3, k4, k5⟩ := sepL_split h5
    refine ⟨fun b => T1 b ∨ U1 b, U2, fun b hb => hb.elim (h1 b) (fun hb => h2 b (k1 b hb)), fun b hb => h2 b (k2 b hb), fun b hb hc => ?_, ⟨T1, U1, fun b hb => .inl hb, fun b hb => .inr hb, fun b hb hc => h3 b hb (k1 b hc), h4, k4⟩, k5⟩
    rcases hb with hb | hb
    · exact h3 b hb (k2 b hc)
    · exact k3 b hb hc
theorem sepL_join {M : List HP} {w : World} : ∀ {L : List HP} {S S1 S2 : Nat → Prop}, (∀ b, S1 b → S b) → (∀ b, S2 b → S b) → (∀ b, S1 b → ¬ S2 b) → sepL L S1 w → sepL M S2 w → sepL (L ++ M) S w
  | [], _, _, _, _, h2, _, _, h => sepL_mono h h2
  | A :: L, S, S1, S2, h1, h2, h3, h4, h5 => by
    obtain ⟨T1, T2, k1, k2, k3, k4, k5⟩ := h4
    refine ⟨T1, fun b => T2 b ∨ S2 b, fun b hb => h1 b (k1 b hb), fun b hb => hb.elim (fun hb => h1 b (k2 b hb)) (h2 b), fun b hb hc => ?_, k4, sepL_join (fun b hb => .inl hb) (fun b hb => .inr hb) (fun b hb hc => h3 b (k2 b hb) hc) k5 h5⟩
    rcases hc with hc | hc
    · exact k3 b hb hc
    · exact h3 b (k1 b hb) hc

theorem Perm.open_ (L M : List HP) : Perm (many L :: M) (L ++ M) := ⟨fun _ _ ⟨_, _, h1, h2, h3, h4, h5⟩ => sepL_join h1 h2 h3 h4 h5⟩
theorem Perm.close (L M : List HP) : Perm (L ++ M) (many L :: M) := ⟨fun _ _ h => sepL_split h⟩
theorem Perm.mid (A : HP) : ∀ (L M : List HP), Perm (L ++ A :: M) (A :: (L ++ M))
  | [], _ => .refl _
  | B :: L, M => .trans (.cons B (.mid A L M)) (.swap B A (L ++ M))
theorem Perm.mid' (A : HP) : ∀ (L M : List HP), Perm (A :: (L ++ M)) (L ++ A :: M)
  | [], _ => .refl _
  | B :: L, M => .trans (.swap A B (L ++ M)) (.cons B (.mid' A L M))
theorem Perm.drop (A : HP) (L : List HP) : Perm (A :: L) L := ⟨fun _ _ h => sepL_tail h⟩
theorem Perm.pull (A : HP) (L1 L2 M : List HP) : Perm (many (L1 ++ A :: L2) :: M) (A :: many (L1 ++ L2) :: M) := by
  refine .trans (.open_ _ _) ?_
  rw [List.append_assoc, List.cons_append]
  refine .trans (.mid A L1 (L2 ++ M)) (.cons A ?_)
  rw [← List.append_assoc]
  exact .close _ _
theorem Perm.push (A : HP) (L1 L2 M : List HP) : Perm (A :: many (L1 ++ L2) :: M) (many (L1 ++ A :: L2) :: M) := by
  refine .trans (.cons A (.open_ _ _)) ?_
  rw [List.append_assoc]
  refine .trans (.mid' A L1 (L2 ++ M)) ?_
  rw [← List.cons_append, ← List.append_assoc]
  exact .close _ _
theorem Perm.noMany (M : List HP) : Perm M (many [] :: M) := .close [] M

end
end Go.Eng

/- An engine for walks, part 5: storing structs whole, results that lie in memory. -/
namespace Go.Eng
open Go.RowKit

/-- l' is l with the values vs from the place o on. -/
inductive PutAt : List Value → Nat → List Value → List Value → Prop
  | nil {l : List Value} {o : Nat} : PutAt l o [] l
  | cons {l l1 l' r : List Value} {o : Nat} {v : Value} (h : SetAt l o v l1) (h2 : PutAt l1 (o + 1) r l') : PutAt l o (v :: r) l'

section
variable {P : Program} {m : Mode} {n : Shp} {B : Nat} {w0 : World} {ops : Array Oper} {Q : Exit → Act → World → Prop} {rest : List Oper} {env : Env} {H : List HP} {d : Nat} {ty : TypeId} {pos : String} {after : Array Edge}

theorem heap_setCells {g : Nat} {tt : TypeId} {fr : Nat × Nat} : ∀ {vs cs cs' : List Value} {o : Nat} {w : World}, PutAt cs o vs cs' → w.heap[g]? = some (.cells cs.toArray tt fr) → (w.setCells g o vs).heap[g]? = some (.cells cs'.toArray tt fr)
  | [], _, _, _, _, h, hb => by cases h; exact hb
  | v :: vs, cs, cs', o, w, h, hb => by
    cases h with
    | cons h1 h2 =>
      rw [World.setCells]
      refine heap_setCells h2 ?_
      obtain ⟨_, rfl⟩ := h1
      simp [World.setCell, Array.getElem?_modify, hb]
theorem heap_setCells_other {g b : Nat} (hne : b ≠ g) : ∀ (vs : List Value) (o : Nat) (w : World), (w.setCells g o vs).heap[b]? = w.heap[b]?
  | [], _, _ => rfl
  | v :: vs, o, w => by rw [World.setCells, heap_setCells_other hne vs (o + 1)]; exact Below.heap_setCell w _ v b hne
theorem setCells_rest {g : Nat} : ∀ (vs : List Value) (o : Nat) (w : World), (w.setCells g o vs).os = w.os ∧ (w.setCells g o vs).tape = w.tape ∧ (w.setCells g o vs).output = w.output ∧ (w.setCells g o vs).heap.size = w.heap.size
  | [], _, _ => ⟨rfl, rfl, rfl, rfl⟩
  | v :: vs, o, w => by
    obtain ⟨h1, h2, h3, h4⟩ := setCells_rest (g := g) vs (o + 1) (w.setCell ⟨g, o, none⟩ v)
    exact ⟨h1, h2, h3, h4.trans (by simp)⟩
theorem St.setCells {w : World} {K : List HP} {g o : Nat} {cs cs' vs : List Value} {tt : TypeId} {fr : Nat × Nat} (h : St B w0 H w) (hp : PutAt cs o vs cs')
    (u : Upd (Eng.blk g (.cells cs.toArray tt fr)) (Eng.blk g (.cells cs'.toArray tt fr)) H K) : St B w0 K (w.setCells g o vs) := by
  obtain ⟨h1, h2, h3, h4⟩ := setCells_rest (g := g) vs o w
  refine h.upd u h1 h2 h3 (Nat.le_of_eq h4.symm) fun S1 ⟨hs, hb⟩ => ⟨⟨hs, heap_setCells hp hb⟩, fun b hnb _ => heap_setCells_other (fun e : b = g => hnb (by rw [e]; exact hs)) vs o w⟩
theorem putAt_lt : ∀ {vs l l' : List Value} {o : Nat}, PutAt l o vs l' → ∀ j, j < vs.length → o + j < l.length
  | [], _, _, _, _, j, hj => by simp at hj
  | v :: vs, l, l', o, h, j, hj => by
    cases h with
    | cons h1 h2 =>
      obtain ⟨h0, rfl⟩ := h1
      cases j with
      | zero => exact h0
      | succ j => have := putAt_lt h2 j (by simpa using hj); simp at this; omega

/-- A struct is stored into a block's cells. -/
theorem VL_store_agg (T : Tab P) {t g i k : Nat} {cs vs cs' : List Value} {tt : TypeId} {x y : Operand} {K : List HP} (hx : evo env x = some (.pointer (some ⟨g, i, none⟩))) (hy : evo env y = some (.agg vs.toArray)) (h1 : allOne vs = true)
    (hu : Upd (blk g (.cells cs.toArray tt (0, 0))) (blk g (.cells cs'.toArray tt (0, 0))) H K) (hs : PutAt cs i vs cs')
    (ht : look T.ag t = some k) (hk : vs.length = k) (h : VL P none n B w0 ops Q rest env K) : VL P none n B w0 ops Q (⟨none, .store t x y, ty, pos, after, none⟩ :: rest) env H := by
  refine VL_skip rfl rfl (fun a w ha hw => ⟨w.setCells g i vs, ?_, hw.setCells hs hu⟩) h
  have hb : w.heap[g]? = some (.cells cs.toArray tt (0, 0)) := by
    obtain ⟨L1, L2, rfl, _⟩ := hu
    exact (hw.blk (by simp)).1
  have hr := run_storeCells_cells (P := P) g i vs 0 w (fun j hj => by
      rw [Nat.add_zero, cell_of_blk hb]; have := putAt_lt hs j hj; simp [this]) (fun j hj => by simp [World.frozen?, hb]) (allOne_spec h1)
  simp [execOp, ha.eval hx, ha.eval hy, Instr.storeAt, Instr.sureAddr, storeVar, Value.cells, run_sizeOf (aggT_size (T.aggs ht)), hk, hr]

theorem run_load_blk (T : Tab P) {w : World} {t g k : Nat} {cs : Array Value} {tt : TypeId} {fr : Nat × Nat} (hb : w.heap[g]? = some (.cells cs tt fr)) (ht : look T.ag t = some k) (hk : cs.size = k) : (loadVar t ⟨g, 0, none⟩).run P w = .ok (.agg cs) w := by
  have hl := run_loadCells_list (P := P) w ⟨g, 0, none⟩ cs.toList (fun j v hj => by rw [Addr.add_lit, cell_of_blk hb, Nat.zero_add]; simpa using hj)
  rw [show cs.toList.length = k by simpa using hk] at hl
  simp [loadVar, run_isAgg_true (T.aggs ht), run_sizeOf (aggT_size (T.aggs ht)), hl]

/-- Results: a struct that lies in memory; beside it a slot, two slots. -/
theorem VQ_retc1 {n : Nat} (T : Tab P) {fn : Func} {Φ : Value → List HP → Prop} {p g k rt : Nat} {cs : Array Value} {tt : TypeId} {fr : Nat × Nat} (hr : fn.results = #[.cell p rt]) (hp : get env p = some (.pointer (some ⟨g, 0, none⟩)))
    (hm : blk g (.cells cs tt fr) ∈ H) (ht : look T.ag rt = some k) (hk : cs.size = k) {H2 : List HP} (hH : ∀ w, St B w0 H w → St B w0 H2 w) (h : Φ (.agg cs) H2) : VQ ⟨n, [], none⟩ B w0 (bodyPost P fn (Post B w0 Φ)) .ret env H := by
  refine ⟨fun a w ha hw => bodyPost_ret (v := .agg cs) ?_ ha.defers ⟨_, H2, rfl, hH w hw, h⟩⟩
  have hp' := ha.slot p _ hp
  simp [results, hr, Array.getD_eq_getD_getElem?, hp', asAddr, run_load_blk T (hw.blk hm).1 ht hk]
theorem VQ_retc2 {n : Nat} (T : Tab P) {fn : Func} {Φ : Value → List HP → Prop} {p g k u rt : Nat} {x : Value} {cs : Array Value} {tt : TypeId} {fr : Nat × Nat} (hr : fn.results = #[.cell p rt, .tmp u]) (hp : get env p = some (.pointer (some ⟨g, 0, none⟩))) (hu : get env u = some x)
    (hm : blk g (.cells cs tt fr) ∈ H) (ht : look T.ag rt = some k) (hk : cs.size = k) {H2 : List HP} (hH : ∀ w, St B w0 H w → St B w0 H2 w) (h : Φ (.tuple #[.agg cs, x]) H2) : VQ ⟨n, [], none⟩ B w0 (bodyPost P fn (Post B w0 Φ)) .ret env H := by
  refine ⟨fun a w ha hw => bodyPost_ret (v := .tuple #[.agg cs, x]) ?_ ha.defers ⟨_, H2, rfl, hH w hw, h⟩⟩
  have hp' := ha.slot p _ hp
  simp [results, hr, Array.getD_eq_getD_getElem?, hp', ha.slot u _ hu, asAddr, run_load_blk T (hw.blk hm).1 ht hk]
end
end Go.Eng

/- An engine for walks, part 6: regions that draw their order and in which two writing operations may come up at once: a tree of orders. -/
namespace Go.Eng
open Go.RowKit

inductive OT where
  | done
  | n1 (i : Nat) (t : OT)
  | n2 (i : Nat) (t : OT) (j : Nat) (u : OT)

section
variable {P : Program} {n : Shp} {B : Nat} {w0 : World} {Q : Exit → Act → World → Prop} {env : Env} {H : List HP} {ops : Array Oper}

/-- A tree of orders: at each node the operations that may come up. -/
def wpTree (P : Program) (ops : Array Oper) (l : List Oper) (Q : Exit → Act → World → Prop) (S : World → Prop) : OT → Act → World → Prop
  | .done, a, w => Q .normal a w
  | .n1 i t, a, w => wpHeld P ops (fun e a w => match e with | .normal => wpTree P ops l Q S t a w | _ => False) S [nthO l i] a w
  | .n2 i t j u, a, w => wpHeld P ops (fun e a w => match e with | .normal => wpTree P ops l Q S t a w | _ => False) S [nthO l i] a w ∧ wpHeld P ops (fun e a w => match e with | .normal => wpTree P ops l Q S u a w | _ => False) S [nthO l j] a w

def isEff (ops : Array Oper) (i : Nat) : Bool := match ops[i]? with | some o => eff o | none => false

def treeB (ops : Array Oper) (last : List Nat) : OT → Array Bool → Nat → Bool
  | .done, listed, 0 => orderB ops last listed
  | .done, _, _ + 1 => false
  | .n1 i t, listed, k + 1 => !last.contains i && (match ops[i]? with
      | some o => if eff o then decide (Region.ready .any ops listed = [i]) else (Region.ready .any ops listed).contains i && Region.free .any ops listed i
      | none => false) && treeB ops last t (listed.setIfInBounds i true) k
  | .n2 i t j u, listed, k + 1 => !last.contains i && !last.contains j && isEff ops i && isEff ops j && ((Region.ready .any ops listed).all fun x => x == i || x == j) && !(Region.ready .any ops listed).isEmpty && treeB ops last t (listed.setIfInBounds i true) k && treeB ops last u (listed.setIfInBounds j true) k
  | .n1 _ _, _, 0 => false
  | .n2 _ _ _ _, _, 0 => false

theorem nthO_get {l : List Oper} (hl : ops = l.toArray) {i : Nat} {o : Oper} (ho : ops[i]? = some o) : nthO l i = o := by
  rw [nthO_eq]
  rw [hl] at ho
  simp only [List.getElem?_toArray] at ho
  simp [List.getD, ho]

theorem eff_node {S : World → Prop} {Q1 : Exit → Act → World → Prop} {last : List Nat} {i k : Nat} {o : Oper} {listed : Array Bool} {a : Act} {w : World} (ho : ops[i]? = some o) (he : eff o = true) (_hl : last.contains i = false)
    (hQ1 : ∀ e a w, e ≠ .normal → ¬ Q1 e a w) (hS : S w) (h : wpHeld P ops Q1 S [o] a w)
    (hk : ∀ a w, S w → Q1 .normal a w → wpAnyN P ops Q S last k (listed.setIfInBounds i true) a w) :
    wpOp P ops Q i (fun a' w' => (last.contains i = false → S w') ∧ wpAnyN P ops Q S last k (listed.setIfInBounds i true) a' w') a w := by
  unfold wpHeld at h
  rw [if_pos he] at h
  unfold wpOp
  simp only [ho]
  by_cases hw : Region.wanted o (yielded ops a.tmps) = true
  · rw [if_pos hw] at h ⊢
    refine .inl (Oper.wp_mono_noQ (fun c a w => hQ1 _ a w (by intro h; cases h)) (by rintro ⟨a, w, h⟩; exact hQ1 _ _ _ (by intro h; cases h) h) (Oper.wp_mono (fun a' w' h' => ?_) h))
    exact ⟨fun _ => h'.1, hk a' w' h'.1 h'.2⟩
  · rw [if_neg hw] at h ⊢
    exact ⟨fun _ => hS, hk _ w hS h⟩

theorem tree_sound {S : World → Prop} {last : List Nat} (hs : Region.noSelect ops = true) (hQ : ∀ c (a : Act) (w : World), ¬ Q (.panic c) a w) (hlo : ¬ LetsOut Q) (l : List Oper) (hl : ops = l.toArray) (hlast : lastB ops last = true) :
    ∀ (t : OT) (k : Nat) (listed : Array Bool) (a : Act) (w : World), Closed ops listed → treeB ops last t listed k = true → S w → wpTree P ops l (TailQ P ops Q (pickOps l last)) S t a w →
      wpAnyN P ops Q S last (k + last.length) listed a w
  | .done, 0, listed, a, w, _, hB, _, h => by
    have := tail_sound (S := S) l hl (lastB_spec hlast).1 hlo last listed a w (fun j hj => by simpa using hj) hB h
    rw [Nat.zero_add]
    exact this
  | .done, _ + 1, _, _, _, _, hB, _, _ => by cases hB
  | .n1 _ _, 0, _, _, _, _, hB, _, _ => by cases hB
  | .n2 _ _ _ _, 0, _, _, _, _, hB, _, _ => by cases hB
  | .n1 i t, k + 1, listed, a, w, hcl, hB, hS, h => by
    simp only [treeB, Bool.and_eq_true] at hB
    obtain ⟨⟨h0, h1⟩, h2⟩ := hB
    have hno : last.contains i = false := by simpa using h0
    cases ho : ops[i]? with
    | none => rw [ho] at h1; cases h1
    | some o =>
      rw [ho] at h1
      have hget := nthO_get hl ho
      unfold wpTree at h
      rw [hget] at h
      rw [Nat.add_right_comm]
      by_cases he : eff o = true
      · simp only [he, if_true, decide_eq_true_eq] at h1
        refine ⟨fun h0 => (by rw [h1] at h0; cases h0), fun j hj => ?_⟩
        have hj' := hj
        rw [h1] at hj
        obtain rfl : j = i := by simpa using hj
        exact eff_node ho he hno (fun e a w hne => by cases e <;> simp_all) hS h fun a w hS' h' => tree_sound hs hQ hlo l hl hlast t k _ a w (hcl.set hj') h2 hS' h'
      · simp only [he] at h1
        simp only [Bool.false_eq_true, if_false, Bool.and_eq_true] at h1
        unfold wpHeld at h
        rw [if_neg he] at h
        obtain ⟨v, hy, h3⟩ := h
        have hr : i ∈ Region.ready .any ops listed := by simpa using h1.1
        exact wpAnyN_first ho (Region.noSelect_spec hs) hQ ((lastB_spec hlast).2 i o ho (by simpa using he)) hno _ listed a w hcl (Region.free_spec ho h1.2) hr hy hS (tree_sound hs hQ hlo l hl hlast t k _ _ w (hcl.set hr) h2 hS h3)
  | .n2 i t j u, k + 1, listed, a, w, hcl, hB, hS, h => by
    simp only [treeB, Bool.and_eq_true] at hB
    obtain ⟨⟨⟨⟨⟨⟨⟨b1, b2⟩, b3⟩, b4⟩, b5⟩, b6⟩, b7⟩, b8⟩ := hB
    have hi : last.contains i = false := by simpa using b1
    have hj : last.contains j = false := by simpa using b2
    unfold wpTree at h
    rw [Nat.add_right_comm]
    refine ⟨fun h0 => (by rw [h0] at b6; cases b6), fun x hx => ?_⟩
    have h5 := List.all_eq_true.1 b5 x hx
    simp only [Bool.or_eq_true, beq_iff_eq] at h5
    rcases h5 with rfl | rfl
    · unfold isEff at b3
      cases ho : ops[x]? with
      | none => rw [ho] at b3; cases b3
      | some o =>
        rw [ho] at b3
        have hg := h.1
        rw [nthO_get hl ho] at hg
        exact eff_node ho b3 hi (fun e a w hne => by cases e <;> simp_all) hS hg fun a w hS' h' => tree_sound hs hQ hlo l hl hlast t k _ a w (hcl.set hx) b7 hS' h'
    · unfold isEff at b4
      cases ho : ops[x]? with
      | none => rw [ho] at b4; cases b4
      | some o =>
        rw [ho] at b4
        have hg := h.2
        rw [nthO_get hl ho] at hg
        exact eff_node ho b4 hj (fun e a w hne => by cases e <;> simp_all) hS hg fun a w hS' h' => tree_sound hs hQ hlo l hl hlast u k _ a w (hcl.set hx) b8 hS' h'

structure VT (P : Program) (n : Shp) (B : Nat) (w0 : World) (ops : Array Oper) (l : List Oper) (Q : Exit → Act → World → Prop) (t : OT) (env : Env) (H F : List HP) : Prop where
  run : ∀ a, Fits n a env → ∀ w, St B w0 (H ++ F) w → wpTree P ops l Q (St B w0 H) t a w

/-- What is asked behind a node. -/
def TreeQ (P : Program) (B : Nat) (w0 : World) (ops : Array Oper) (l : List Oper) (Q : Exit → Act → World → Prop) (Hc : List HP) (t : OT) : Exit → Act → World → Prop
  | .normal, a, w => wpTree P ops l Q (St B w0 Hc) t a w
  | _, _, _ => False

theorem treeQ_eq {l : List Oper} {t : OT} : TreeQ P B w0 ops l Q H t = fun e a w => match e with | .normal => wpTree P ops l Q (St B w0 H) t a w | _ => False := by
  funext e a w
  cases e <;> rfl

theorem VT_done {l : List Oper} {F HF : List HP} (happ : App H F HF) (h : VQ n B w0 Q .normal env HF) : VT P n B w0 ops l Q .done env H F :=
  ⟨fun a ha w hw => by rw [← app_eq happ] at hw; exact h.run a w ha hw⟩
theorem VT_n1 {l : List Oper} {F : List HP} {i : Nat} {t : OT} {o : Oper} (ho : nthO l i = o) (h : VL P (some (some F)) n B w0 ops (TreeQ P B w0 ops l Q H t) [o] env H) : VT P n B w0 ops l Q (.n1 i t) env H F := by
  refine ⟨fun a ha w hw => ?_⟩
  have h1 : wpHeld P ops (TreeQ P B w0 ops l Q H t) (St B w0 H) [o] a w := h.run a ha w hw
  unfold wpTree
  rw [ho, ← treeQ_eq]
  exact h1
theorem VT_n2 {l : List Oper} {F : List HP} {i j : Nat} {t u : OT} {o o' : Oper} (ho : nthO l i = o) (ho' : nthO l j = o') (h : VL P (some (some F)) n B w0 ops (TreeQ P B w0 ops l Q H t) [o] env H)
    (h' : VL P (some (some F)) n B w0 ops (TreeQ P B w0 ops l Q H u) [o'] env H) : VT P n B w0 ops l Q (.n2 i t j u) env H F := by
  refine ⟨fun a ha w hw => ?_⟩
  have h1 : wpHeld P ops (TreeQ P B w0 ops l Q H t) (St B w0 H) [o] a w := h.run a ha w hw
  have h2 : wpHeld P ops (TreeQ P B w0 ops l Q H u) (St B w0 H) [o'] a w := h'.run a ha w hw
  unfold wpTree
  rw [ho, ho', ← treeQ_eq, ← treeQ_eq]
  exact ⟨h1, h2⟩
theorem VQ_treeq {l : List Oper} {F H' Hc : List HP} {t : OT} (hp : Pull Hc H' F) (h : VT P n B w0 ops l Q t env Hc F) : VQ n B w0 (TreeQ P B w0 ops l Q Hc t) .normal env H' :=
  ⟨fun a w ha hw => h.run a ha w (hw.perm hp)⟩

/-- A region that draws its order: a tree of orders, and the last operations. -/
theorem VC_tree {id : Nat} {l : List Oper} (t : OT) (last : List Nat) (mask : List Bool) {Hc F : List HP} (hm : P.follows .mixedOrders = true)
    (hB : (Region.noSelect l.toArray && decide (last.length ≤ l.toArray.size) && lastB l.toArray last && treeB l.toArray last t (Array.replicate l.toArray.size false) (l.toArray.size - last.length)) = true)
    (hsp : Split mask H Hc F) {l2 : List Oper} (hl2 : pickOps l last = l2) (h : VT P n B w0 l.toArray l (TailQ P l.toArray (Only Q) l2) t env Hc F) : VC P n B w0 (.region id l.toArray true) Q env H := by
  simp only [Bool.and_eq_true, decide_eq_true_eq] at hB
  obtain ⟨⟨⟨h1, h2⟩, h3⟩, h5⟩ := hB
  refine ⟨fun a w ha hw => wpR_mono (Q := Only Q) ?_ fun e a w h => by cases e <;> first | exact h | cases h⟩
  have hst : St B w0 (Hc ++ F) w.drew := (hw.perm (split_perm hsp)).drew
  have hr := h.run a ha w.drew hst
  rw [← hl2] at hr
  have := tree_sound (S := St B w0 Hc) h1 (fun c a w h => h) (by rintro ⟨_, _, h⟩; exact h) l rfl h3 t _ _ a w.drew (closed_none _ _) h5 hst.prefix_ hr
  rw [Nat.sub_add_cancel h2] at this
  exact wpR_any hm (wpAny_of_N _ _ _ _ this)

/-- A cut: whatever way x goes, y begins with the slots E z and the pieces HH z. -/
theorem VC_cutQ {α : Type} (E : α → Env) (HH : α → List HP) {x y : Code} (h1 : ∀ K : Act → World → Prop, (∀ z env' H', (∀ t v, get (E z) t = some v → get env' t = some v) → (∀ w, St B w0 H' w → St B w0 (HH z) w) → VQ n B w0 (Exit.then K Q) .normal env' H') → VC P n B w0 x (Exit.then K Q) env H)
    (h2 : ∀ z, VC P n B w0 y Q (E z) (HH z)) : VC P n B w0 x (Exit.then (wpR P n.r y Q) Q) env H := by
  have h := h1 (fun a w => ∃ z, Fits n a (E z) ∧ St B w0 (HH z) w) (fun z env' H' he hH => ⟨fun a w ha hw => ⟨z, ha.sub he, hH w hw⟩⟩)
  refine ⟨fun a w ha hw => wpR_mono (h.run a w ha hw) ?_⟩
  intro e a w hq
  cases e with
  | normal => obtain ⟨z, h3, h4⟩ := hq; exact (h2 z).run a w h3 h4
  | exit id => exact hq
  | goto l => exact hq
  | ret => exact hq
  | panic ch => exact hq
  | outgrown => exact hq

/-- A call that needs the pieces L, wherever they lie in the list. -/
theorem VL_callP {d f : Nat} {args : List Operand} {tys : Array TypeId} {ty : TypeId} {pos : String} {after : Array Edge} {vs : List Value} {rest : List Oper} (L : List HP) {M LM : List HP} (Φ : Value → List HP → Prop)
    (hc : ∀ xs w, (callFunc f xs).run P w = .ok (.enter f xs) w) (hargs : Args env args vs) (hp : Pull L H M) (happ : App L M LM) (hn : Nat.ble (d + 1) n.k = true)
    (hcall : ∀ w, St B w0 LM w → Calls P f vs.toArray w (Post B w0 Φ))
    (h : ∀ v H', Φ v H' → VL P none n B w0 ops Q rest ((d, v) :: env) H') :
    VL P none n B w0 ops Q (⟨some d, .call ⟨.value (.func f), args.toArray, tys⟩, ty, pos, after, none⟩ :: rest) env H :=
  VL_call Φ hc hargs hn (fun w hw => hcall w (by rw [app_eq happ]; exact hw.perm hp)) h
end
end Go.Eng

/- An engine for walks, part 7: rows that are only read, wherever they lie: in a piece, or in memory from before the call. -/
namespace Go.Eng
open Go.RowKit

/-- In every state with the pieces H the cells xs lie from A on. -/
def Rd (B : Nat) (w0 : World) (H : List HP) (A : Option Addr) (xs : List Value) : Prop :=
  ∀ w, St B w0 H w → ∀ j v, xs[j]? = some v → ∃ g o, A = some ⟨g, o, none⟩ ∧ w.cell? ⟨g, o + j, none⟩ = some v

section
variable {B : Nat} {w0 : World} {H : List HP} {A : Option Addr} {xs : List Value}
theorem Rd.cons {X : HP} (h : Rd B w0 H A xs) : Rd B w0 (X :: H) A xs := fun w hw => h w hw.tail
theorem Rd.sl {e size k cap : Nat} (hm : Eng.sl e size A k cap xs ∈ H) : Rd B w0 H A xs := fun w hw j v hv => by
  obtain ⟨g, e1, hc, _⟩ := sl_cell (hw.sl hm) hv
  exact ⟨g, 0, e1, by rw [Nat.zero_add]; exact hc⟩
theorem Rd.old (h : ∀ j v, xs[j]? = some v → ∃ g o, A = some ⟨g, o, none⟩ ∧ g < B ∧ w0.cell? ⟨g, o + j, none⟩ = some v) : Rd B w0 H A xs := fun w hw j v hv => by
  obtain ⟨g, o, e1, hg, hc⟩ := h j v hv
  exact ⟨g, o, e1, (hw.below.cell (p := ⟨g, o + j, none⟩) hg).trans hc⟩
theorem Rd.nil : Rd B w0 H A [] := fun w _ j v hv => by simp at hv
theorem Rd.mono {H' : List HP} (h : Rd B w0 H A xs) (hH : ∀ w, St B w0 H' w → St B w0 H w) : Rd B w0 H' A xs := fun w hw => h w (hH w hw)
theorem Rd.blk {g : Nat} {cs : Array Value} {t : TypeId} {fr : Nat × Nat} (hm : Eng.blk g (.cells cs t fr) ∈ H) : Rd B w0 H (some ⟨g, 0, none⟩) cs.toList := fun w hw j v hv => by
  refine ⟨g, 0, rfl, ?_⟩
  rw [Nat.zero_add, cell_of_blk (hw.blk hm).1]
  simpa using hv
end

theorem length_flat {α : Type} {f : α → List Value} {q : Nat} (hq : ∀ a, (f a).length = q) : ∀ l : List α, (l.flatMap f).length = l.length * q
  | [] => by simp
  | a :: l => by rw [List.flatMap_cons, List.length_append, hq, length_flat hq l, List.length_cons, Nat.add_mul]; omega
theorem flat_get {α : Type} {f : α → List Value} {q : Nat} (hq : ∀ a, (f a).length = q) : ∀ (l : List α) (i j : Nat) (a : α), l[i]? = some a → j < q → (l.flatMap f)[i * q + j]? = (f a)[j]?
  | [], i, j, a, h, _ => by simp at h
  | b :: l, 0, j, a, h, hj => by
    obtain rfl : b = a := by simpa using h
    rw [List.flatMap_cons, List.getElem?_append_left (by rw [hq]; omega), Nat.zero_mul, Nat.zero_add]
  | b :: l, i + 1, j, a, h, hj => by
    rw [List.flatMap_cons, List.getElem?_append_right (by rw [hq, Nat.add_mul]; omega), hq, show (i + 1) * q + j - q = i * q + j by rw [Nat.add_mul]; omega]
    exact flat_get hq l i j a (by simpa using h) hj

section
variable {P : Program} {m : Mode} {n : Shp} {B : Nat} {w0 : World} {ops : Array Oper} {Q : Exit → Act → World → Prop} {rest : List Oper} {env : Env} {H : List HP} {d : Nat} {ty : TypeId} {pos : String} {after : Array Edge}

/-- The address of an element of a row that is read. -/
theorem VL_index_rd (T : Tab P) {α : Type} {f : α → List Value} {l : List α} {t : Nat} {x y : Operand} {A : Option Addr} {cap : Nat} {e size bytes : Nat} {ki : IntKind} {i : Int} (hx : evo env x = some (.slice A l.length cap)) (hy : evo env y = some (.int ki i))
    (hr : Rd B w0 H A (l.flatMap f)) (ht : look T.sl t = some (e, size, bytes)) (hq : ∀ a, (f a).length = size) (h0 : Nat.blt 0 size = true) (hn : Nat.ble (d + 1) n.k = true) (hi : 0 ≤ i ∧ i < l.length)
    (h : VL P m n B w0 ops Q rest ((d, sptr A (i.toNat * size)) :: env) H) : VL P m n B w0 ops Q (⟨some d, .indexAddr t x y, ty, pos, after, none⟩ :: rest) env H := by
  obtain ⟨hut, inf, z, hinf, _, _, hsi, _, _, _⟩ := sliceT_spec (T.slic ht)
  refine VL_pure rfl rfl hn rfl (fun a w ha hw => ?_) h
  have h0' : 0 < size := by simpa using h0
  have hlt : i.toNat < l.length := by omega
  have hget := flat_get hq l i.toNat 0 _ (List.getElem?_eq_getElem hlt) h0'
  have hg2 : (f l[i.toNat])[0]? = some ((f l[i.toNat])[0]'(by rw [hq]; exact h0')) := List.getElem?_eq_getElem _
  rw [hg2] at hget
  obtain ⟨g, o, rfl, _⟩ := hr w hw _ _ hget
  simp [execOp, ha.eval hx, ha.eval hy, Instr.indexAt, asIntOf, run_underlying hut, hi, sizeOf, typeInfo, hinf, hsi, sptr]

/-- A field's address in a row that is read. -/
theorem VL_field_rd (T : Tab P) {s f k j : Nat} {x : Operand} {A : Option Addr} {xs : List Value} (hx : evo env x = some (sptr A j)) (hr : Rd B w0 H A xs) (hj : j < xs.length) (hf : look2 T.fo s f = some k) (hn : Nat.ble (d + 1) n.k = true)
    (h : VL P m n B w0 ops Q rest ((d, sptr A (j + k)) :: env) H) : VL P m n B w0 ops Q (⟨some d, .fieldAddr s x f, ty, pos, after, none⟩ :: rest) env H := by
  refine VL_pure rfl rfl hn rfl (fun a w ha hw => ?_) h
  obtain ⟨g, o, rfl, _⟩ := hr w hw _ _ (List.getElem?_eq_getElem hj)
  have h1 := T.offs hf
  unfold fieldOff at h1
  split at h1
  · rename_i fs hu
    cases hfl : fs[f]? with
    | none => rw [hfl] at h1; cases h1
    | some fld =>
      rw [hfl] at h1
      simp only [Option.bind_some] at h1
      cases hi : P.info? fld.type with
      | none => rw [hi] at h1; cases h1
      | some inf =>
        rw [hi] at h1
        simp only [Option.bind_some] at h1
        by_cases hz : inf.size = 0
        · rw [if_pos hz] at h1; cases h1
        · rw [if_neg hz] at h1
          have h2 : fld.offset = k := by simpa using h1
          subst h2
          simp [execOp, ha.eval hx, sptr, Instr.fieldAt, run_underlying hu, hfl, Instr.sureAddr, fieldPlace, sizeOf, typeInfo, hi, hz, Addr.add_lit, Nat.add_assoc]
  · cases h1

/-- The value at one place of the i-th element. -/
theorem VL_load_rd (T : Tab P) {α : Type} {f : α → List Value} {l : List α} {t i q o : Nat} {b : α} {x : Operand} {A : Option Addr} {v : Value} (hx : evo env x = some (sptr A (i * q + o))) (hr : Rd B w0 H A (l.flatMap f)) (hb : l[i]? = some b) (hq : ∀ a, (f a).length = q)
    (ho : Nat.blt o q = true) (hv : nth (f b) o = some v) (ht : look T.sc t = some ()) (hn : Nat.ble (d + 1) n.k = true)
    (h : VL P m n B w0 ops Q rest ((d, v) :: env) H) : VL P m n B w0 ops Q (⟨some d, .load t x, ty, pos, after, none⟩ :: rest) env H := by
  refine VL_pure rfl rfl hn rfl (fun a w ha hw => ?_) h
  have hg := flat_get hq l i o b hb (by simpa using ho)
  rw [← nth_eq (f b), hv] at hg
  obtain ⟨g, u, rfl, hc⟩ := hr w hw _ _ hg
  simp [execOp, ha.eval hx, sptr, Instr.loadAt, Instr.sureAddr, loadVar, run_isAgg_false (T.scal ht).1, Addr.add_lit, hc]
theorem VL_load_rd0 (T : Tab P) {α : Type} {f : α → List Value} {l : List α} {t i q : Nat} {b : α} {x : Operand} {A : Option Addr} {v : Value} (hx : evo env x = some (sptr A (i * q))) (hr : Rd B w0 H A (l.flatMap f)) (hb : l[i]? = some b) (hq : ∀ a, (f a).length = q)
    (ho : Nat.blt 0 q = true) (hv : nth (f b) 0 = some v) (ht : look T.sc t = some ()) (hn : Nat.ble (d + 1) n.k = true)
    (h : VL P m n B w0 ops Q rest ((d, v) :: env) H) : VL P m n B w0 ops Q (⟨some d, .load t x, ty, pos, after, none⟩ :: rest) env H :=
  VL_load_rd T (i := i) (q := q) (o := 0) (by rw [Nat.add_zero]; exact hx) hr hb hq ho hv ht hn h
/-- The i-th element, a struct, whole. -/
theorem VL_load_agg_rd (T : Tab P) {α : Type} {f : α → List Value} {l : List α} {t i q : Nat} {b : α} {x : Operand} {A : Option Addr} (hx : evo env x = some (sptr A (i * q))) (hr : Rd B w0 H A (l.flatMap f)) (hb : l[i]? = some b) (hq : ∀ a, (f a).length = q)
    (ho : Nat.blt 0 q = true) (ht : look T.ag t = some q) (hn : Nat.ble (d + 1) n.k = true)
    (h : VL P m n B w0 ops Q rest ((d, .agg (f b).toArray) :: env) H) : VL P m n B w0 ops Q (⟨some d, .load t x, ty, pos, after, none⟩ :: rest) env H := by
  refine VL_pure rfl rfl hn rfl (fun a w ha hw => ?_) h
  have h0 : 0 < q := by simpa using ho
  have hget : ∀ j v, (f b)[j]? = some v → (l.flatMap f)[i * q + j]? = some v := fun j v hj => by
    have hlt : j < q := by have := (List.getElem?_eq_some_iff.1 hj).1; rwa [hq] at this
    rw [flat_get hq l i j b hb hlt]; exact hj
  obtain ⟨g, u, rfl, _⟩ := hr w hw _ _ (hget 0 _ (List.getElem?_eq_getElem (by rw [hq]; exact h0)))
  have hl := run_loadCells_list (P := P) w ⟨g, u + i * q, none⟩ (f b) (fun j v hj => by
    obtain ⟨g', u', e1, hc⟩ := hr w hw _ _ (hget j v hj)
    injection e1 with e1
    injection e1 with e1 e2
    subst e1 e2
    rw [Addr.add_lit, Nat.add_assoc]; exact hc)
  rw [hq] at hl
  simp [execOp, ha.eval hx, sptr, Instr.loadAt, Instr.sureAddr, loadVar, run_isAgg_true (T.aggs ht), run_sizeOf (aggT_size (T.aggs ht)), Addr.add_lit, hl]

theorem VL_max2 {x y : Operand} {k : IntKind} {a b : Int} {tys : Array TypeId} (hx : evo env x = some (.int k a)) (hy : evo env y = some (.int k b)) (hn : Nat.ble (d + 1) n.k = true) (h1 : a < b → VL P m n B w0 ops Q rest ((d, .int k b) :: env) H) (h2 : b ≤ a → VL P m n B w0 ops Q rest ((d, .int k a) :: env) H) :
    VL P m n B w0 ops Q (⟨some d, .call ⟨.builtin .max, #[x, y], tys⟩, ty, pos, after, none⟩ :: rest) env H := by
  by_cases hc : b > a
  · exact VL_pure rfl rfl hn rfl (fun f w ha _ => by simp [execOp, resolve, invoke, builtin, ha.eval hx, ha.eval hy, run_max_int2, hc]) (h1 hc)
  · exact VL_pure rfl rfl hn rfl (fun f w ha _ => by simp [execOp, resolve, invoke, builtin, ha.eval hx, ha.eval hy, run_max_int2, hc]) (h2 (by omega))
end
end Go.Eng

/- An engine for walks, part 8: zero values, structs and slices that are built, by a table; elements of rows that are read. -/
namespace Go.Eng
open Go.RowKit

def partsV (env : Env) : List (Nat × Operand) → Option (List (Nat × Value))
  | [] => some []
  | (i, x) :: l => match evo env x with
    | none => none
    | some v => match partsV env l with
      | none => none
      | some r => some ((i, v) :: r)
theorem partsV_spec {env : Env} : ∀ {l : List (Nat × Operand)} {ps : List (Nat × Value)}, partsV env l = some ps → Parts env l ps
  | [], ps, h => by simp [partsV] at h; subst h; exact parts_nil
  | (i, x) :: l, ps, h => by
    unfold partsV at h
    cases hx : evo env x with
    | none => rw [hx] at h; cases h
    | some v =>
      rw [hx] at h
      cases hl : partsV env l with
      | none => rw [hl] at h; cases h
      | some r =>
        rw [hl] at h
        simp only [Option.some.injEq] at h
        subst h
        exact parts_cons hx (partsV_spec hl)

def structPl (P : Program) (t : Nat) : Option (List (Nat × Nat)) :=
  match P.underlying t with
  | some (.struct fs) => fs.toList.mapM (fun f => (P.info? f.type).map fun i => (f.offset, i.size))
  | some (.array k e) => (P.info? e).map fun i => (List.range k).map fun j => (j * i.size, i.size)
  | _ => none
def zeroT (P : Program) (t : Nat) : Option Value := (P.info? t).bind (·.zero)

/-- Zero values; the places of a struct's fields. -/
structure Tab2 (P : Program) where
  zt : List (Nat × Value)
  bt : List (Nat × List (Nat × Nat))
  zt_ok : (zt.map fun x => zeroT P x.1) = zt.map fun x => some x.2
  bt_ok : (bt.map fun x => structPl P x.1) = bt.map fun x => some x.2

theorem look_map {β : Type} {f : Nat → Option β} : ∀ {l : List (Nat × β)}, (l.map fun x => f x.1) = (l.map fun x => some x.2) → ∀ {t : Nat} {v : β}, look l t = some v → f t = some v := by
  intro l h t v hl
  have hm := look_mem hl
  clear hl
  induction l with
  | nil => cases hm
  | cons x l ih =>
    simp only [List.map_cons, List.cons.injEq] at h
    rcases List.mem_cons.1 hm with e | e
    · rw [← e] at h; exact h.1
    · exact ih h.2 e

theorem zero_run {P : Program} {t : Nat} {z : Value} (h : zeroT P t = some z) (w : World) : (zeroValue t).run P w = .ok z w := by
  unfold zeroT at h
  cases hi : P.info? t with
  | none => rw [hi] at h; cases h
  | some i =>
    rw [hi] at h
    have h2 : i.zero = some z := h
    simp [zeroValue, typeInfo, hi, h2]

def forceL {β : Type} : List Value → (List Value → Option β) → Option β
  | [], k => k []
  | a :: l, k => forceL l fun l' => k (a :: l')
theorem forceL_eq {β : Type} : ∀ (l : List Value) (k : List Value → Option β), forceL l k = k l
  | [], _ => rfl
  | a :: l, k => by rw [forceL, forceL_eq l]

def setMany : List Value → Nat → List Value → List Value
  | cs, _, [] => cs
  | cs, off, v :: vs => setMany (cs.set off v) (off + 1) vs
def fillL (place : Nat → Option (Nat × Nat)) (cs : List Value) : List (Nat × Value) → Option (List Value)
  | [] => some cs
  | (i, v) :: rest => match place i with
    | none => none
    | some (off, size) => match Nat.beq v.cells.toList.length size && Nat.ble (off + size) cs.length with
      | true => forceL (setMany cs off v.cells.toList) fun cs' => fillL place cs' rest
      | false => none

theorem fold_setMany (off : Nat) : ∀ (l : List Value) (k : Nat) (cs : Array Value), (l.zipIdx k).foldl (fun cs (c, j) => cs.setIfInBounds (off + j) c) cs = (setMany cs.toList (off + k) l).toArray
  | [], _, cs => by simp [setMany]
  | v :: l, k, cs => by
    rw [List.zipIdx_cons, List.foldl_cons, fold_setMany off l (k + 1)]
    simp [setMany, Nat.add_assoc]

theorem fillL_mono {place place' : Nat → Option (Nat × Nat)} (hp : ∀ i q, place i = some q → place' i = some q) : ∀ {ps : List (Nat × Value)} {cs r : List Value}, fillL place cs ps = some r → fillL place' cs ps = some r
  | [], _, _, h => h
  | (i, v) :: rest, cs, r, h => by
    unfold fillL at h ⊢
    cases hi : place i with
    | none => rw [hi] at h; cases h
    | some q =>
      rw [hi] at h
      rw [hp i q hi]
      obtain ⟨off, size⟩ := q
      simp only at h ⊢
      split at h
      · rw [forceL_eq] at h ⊢
        exact fillL_mono hp h
      · cases h
theorem fillL_spec {place : Nat → Option (Nat × Nat)} : ∀ {ps : List (Nat × Value)} {cs : Array Value} {r : List Value}, fillL place cs.toList ps = some r → Instr.fill place cs ps = some r.toArray
  | [], cs, r, h => by simp [fillL] at h; subst h; simp [Instr.fill]
  | (i, v) :: rest, cs, r, h => by
    unfold fillL at h
    unfold Instr.fill
    cases hp : place i with
    | none => rw [hp] at h; cases h
    | some q =>
      obtain ⟨off, size⟩ := q
      rw [hp] at h
      simp only at h ⊢
      split at h
      · rename_i hb
        simp only [Bool.and_eq_true, Array.length_toList] at hb
        obtain ⟨h1, h2⟩ := hb
        have h2' := Nat.le_of_ble_eq_true h2
        have h1' : v.cells.size = size := by simpa using h1
        rw [forceL_eq] at h
        have hz : v.cells.zipIdx.foldl (fun cs (c, j) => cs.setIfInBounds (off + j) c) cs = (setMany cs.toList off v.cells.toList).toArray := by
          rw [← Array.foldl_toList, Array.toList_zipIdx]
          exact fold_setMany off v.cells.toList 0 cs
        rw [if_neg (by simp [h1']; omega), hz]
        exact fillL_spec (by simpa using h)
      · cases h

def repZ : Nat → List Value → List Value
  | 0, _ => []
  | n + 1, z => z ++ repZ n z
theorem repZ_length (z : List Value) : ∀ n, (repZ n z).length = n * z.length
  | 0 => by simp [repZ]
  | n + 1 => by rw [repZ, List.length_append, repZ_length z n, Nat.add_mul]; omega
theorem repZ_get (z : List Value) (hz : 0 < z.length) : ∀ (n j : Nat), j < n * z.length → (repZ n z)[j]? = z[j % z.length]?
  | 0, j, h => by omega
  | n + 1, j, h => by
    rw [repZ]
    by_cases hj : j < z.length
    · rw [List.getElem?_append_left hj, Nat.mod_eq_of_lt hj]
    · rw [List.getElem?_append_right (by omega), repZ_get z hz n _ (by rw [Nat.add_mul] at h; omega), ← Nat.mod_eq_sub_mod (by omega)]
theorem repZ_arr (zs : Array Value) (hz : 0 < zs.size) (n : Nat) : ((Array.range (n * zs.size)).map (zs[· % zs.size]!)) = (repZ n zs.toList).toArray := by
  apply Array.ext'
  apply List.ext_getElem?
  intro j
  have hl : zs.toList.length = zs.size := by simp
  by_cases hj : j < n * zs.size
  · have h1 := repZ_get zs.toList (by omega) n j (by rw [hl]; exact hj)
    rw [hl] at h1
    have hm : j % zs.size < zs.size := Nat.mod_lt _ hz
    rw [List.toList_toArray, h1]
    simp [hj, hm, Array.getElem!_eq_getD, Array.getD_eq_getD_getElem?]
  · rw [List.getElem?_eq_none (by simp; omega), List.getElem?_eq_none (by simp [repZ_length]; omega)]

section
variable {P : Program} {m : Mode} {n : Shp} {B : Nat} {w0 : World} {ops : Array Oper} {Q : Exit → Act → World → Prop} {rest : List Oper} {env : Env} {H : List HP} {d : Nat} {ty : TypeId} {pos : String} {after : Array Edge}

theorem VL_allocT (T2 : Tab2 P) {t : TypeId} {z : Value} {cs : Array Value} (hz : look T2.zt t = some z) (hc : z.cells = cs) (hn : Nat.ble (d + 1) n.k = true)
    (h : ∀ g, VL P none n B w0 ops Q rest ((d, .pointer (some ⟨g, 0, none⟩)) :: env) (blk g (.cells cs t (0, 0)) :: H)) : VL P none n B w0 ops Q (⟨some d, .alloc t, ty, pos, after, none⟩ :: rest) env H :=
  VL_alloc (zero_run (look_map T2.zt_ok hz)) hc hn h

theorem VL_buildT (T2 : Tab2 P) {t : TypeId} {parts : List (Nat × Operand)} {ps : List (Nat × Value)} {zc : Array Value} {pl : List (Nat × Nat)} {cs : List Value} (hp : partsV env parts = some ps) (hz : look T2.zt t = some (.agg zc)) (hl : look T2.bt t = some pl)
    (hf : fillL (pl[·]?) zc.toList ps = some cs) (hn : Nat.ble (d + 1) n.k = true)
    (h : VL P m n B w0 ops Q rest ((d, .agg cs.toArray) :: env) H) : VL P m n B w0 ops Q (⟨some d, .build t parts.toArray, ty, pos, after, none⟩ :: rest) env H := by
  refine VL_build (partsV_spec hp) (fun w => run_build w t _ cs.toArray ?_) hn h
  have h1 := look_map T2.zt_ok hz
  have h2 := look_map T2.bt_ok hl
  unfold zeroT at h1
  unfold structPl at h2
  unfold Program.built
  cases hi : P.info? t with
  | none => rw [hi] at h1; cases h1
  | some i =>
    rw [hi] at h1
    have h3 : i.zero = some (.agg zc) := h1
    cases hu : P.underlying t with
    | none => rw [hu] at h2; cases h2
    | some dd =>
      rw [hu] at h2
      cases dd <;> try (cases h2; done)
      · rename_i k e
        cases hie : P.info? e with
        | none => simp only [hie] at h2; cases h2
        | some ie =>
          simp only [hie, Option.map_some, Option.some.injEq] at h2
          simp only [h3, hie]
          refine fillL_spec (cs := zc) (fillL_mono (fun a q ha => ?_) hf)
          rw [← h2, List.getElem?_map] at ha
          by_cases hak : a < k
          · rw [List.getElem?_range hak] at ha; exact ha
          · rw [List.getElem?_eq_none (by simpa using hak)] at ha; cases ha
      · rename_i fs
        have h4 : fs.toList.mapM (fun f => (P.info? f.type).map fun i => (f.offset, i.size)) = some pl := h2
        simp only [h3, h4]
        have h5 := fillL_spec (place := (pl[·]?)) (cs := zc) hf
        simpa [Value.cells] using h5

theorem VL_buildSliceT (T : Tab P) (T2 : Tab2 P) {t e len size bytes : Nat} {parts : List (Nat × Operand)} {ps : List (Nat × Value)} {z : Value} {zl cs : List Value} (ht : look T.sl t = some (e, size, bytes)) (hp : partsV env parts = some ps) (hz : look T2.zt e = some z) (hzc : z.cells = zl.toArray)
    (hf : fillL (fun i => some (i * size, size)) (repZ len zl) ps = some cs) (hn : Nat.ble (d + 1) n.k = true) (hl : (Nat.blt 0 (len * size) && Nat.beq zl.length size && Nat.ble (len * size) 1000000) = true)
    (h : ∀ g, VL P none n B w0 ops Q rest ((d, .slice (some ⟨g, 0, none⟩) len len) :: env) (blk g (.cells cs.toArray e (0, 0)) :: H)) : VL P none n B w0 ops Q (⟨some d, .buildSlice t len parts.toArray, ty, pos, after, none⟩ :: rest) env H := by
  simp only [Bool.and_eq_true] at hl
  obtain ⟨⟨hl1, hl2⟩, hl3⟩ := hl
  have hl1' : 0 < len * size := by simpa using hl1
  have hl2' : zl.length = size := Nat.eq_of_beq_eq_true hl2
  have hl3' := Nat.le_of_ble_eq_true hl3
  obtain ⟨hut, inf, z', hinf, hz', _, hsi, _⟩ := sliceT_spec (T.slic ht)
  have h1 := look_map T2.zt_ok hz
  unfold zeroT at h1
  rw [hinf] at h1
  have h3 : inf.zero = some z := h1
  refine VL_buildSlice (partsV_spec hp) (fun w => run_buildSlice w t e len _ cs.toArray inf z hut hinf h3 (by rw [hsi]; omega) (by rw [hsi]; omega) ?_) hn h
  have hzs : z.cells.size = size := by rw [hzc]; simpa using hl2'
  have hpos : 0 < z.cells.size := by
    rcases Nat.eq_zero_or_pos size with h0 | h0
    · rw [h0, Nat.mul_zero] at hl1'; omega
    · omega
  rw [hsi]
  have h5 := repZ_arr z.cells hpos len
  rw [hzs] at h5
  rw [show (fun x => z.cells[x % z.cells.size]!) = fun x => z.cells[x % size]! by rw [hzs], h5, hzc]
  simpa using fillL_spec (place := fun i => some (i * size, size)) (cs := (repZ len zl).toArray) (by simpa using hf)

/-- A field's address of an element of a row that is read. -/
theorem VL_field_row (T : Tab P) {α : Type} {f : α → List Value} {l : List α} {s fl k i q : Nat} {x : Operand} {A : Option Addr} (hx : evo env x = some (sptr A (i * q))) (hr : Rd B w0 H A (l.flatMap f)) (hq : ∀ a, (f a).length = q) (h0 : Nat.blt 0 q = true) (hf : look2 T.fo s fl = some k) (hn : Nat.ble (d + 1) n.k = true) (hi : i < l.length)
    (h : VL P m n B w0 ops Q rest ((d, sptr A (i * q + k)) :: env) H) : VL P m n B w0 ops Q (⟨some d, .fieldAddr s x fl, ty, pos, after, none⟩ :: rest) env H := by
  refine VL_field_rd T hx hr ?_ hf hn h
  rw [length_flat hq]
  have h0' : 0 < q := by simpa using h0
  calc i * q < i * q + q := by omega
    _ = (i + 1) * q := by rw [Nat.add_mul]; omega
    _ ≤ l.length * q := Nat.mul_le_mul_right q hi

/-! ### Calls that leave the pieces as they were, in any order -/
theorem run_callv {a : Act} (ha : Fits n a env) {f : Nat} {x : Operand} {args : List Operand} {tys : Array TypeId} {vs cs : List Value} (hx : evo env x = some (.func (.func f) #[] cs.toArray))
    (hc : ∀ xs w, (callFunc f xs).run P w = .ok (.enter f xs) w) (hargs : Args env args vs) (w : World) :
    (execOp a.eval ⟨some d, .call ⟨.value x, args.toArray, tys⟩, ty, pos, after, none⟩).run P w = .ok (.enter f (vs ++ cs).toArray) w := by
  have hmap : args.toArray.map a.eval = vs.toArray := by rw [List.map_toArray, map_evo ha _ _ hargs]
  simp only [execOp, resolve, ha.eval hx, hmap, Deferred.ofValue, Sem.run_bind, Sem.run_pure, Result.andThen_ok, invoke]
  simpa using hc ((vs ++ cs).toArray) w
theorem VL_callvt {f : Nat} {x : Operand} {args : List Operand} {tys : Array TypeId} {vs cs : List Value} {v : Value} (hx : evo env x = some (.func (.func f) #[] cs.toArray))
    (hc : ∀ xs w, (callFunc f xs).run P w = .ok (.enter f xs) w) (hargs : Args env args vs) (hn : Nat.ble (d + 1) n.k = true)
    (hcall : ∀ w, St B w0 H w → Calls P f (vs ++ cs).toArray w (Post B w0 fun u K => u = v ∧ K = H))
    (h : VL P none n B w0 ops Q rest ((d, v) :: env) H) :
    VL P none n B w0 ops Q (⟨some d, .call ⟨.value x, args.toArray, tys⟩, ty, pos, after, none⟩ :: rest) env H :=
  VL_callv _ hx hc hargs hn hcall (by rintro _ _ ⟨rfl, rfl⟩; exact h)
theorem VL_callvq {f : Nat} {x : Operand} {args : List Operand} {tys : Array TypeId} {vs cs : List Value} {v : Value} (hx : evo env x = some (.func (.func f) #[] cs.toArray))
    (hc : ∀ xs w, (callFunc f xs).run P w = .ok (.enter f xs) w) (hargs : Args env args vs) (hn : Nat.ble (d + 1) n.k = true)
    (hcall : ∀ w, St B w0 H w → Calls P f (vs ++ cs).toArray w (Post B w0 fun u K => u = v ∧ K = H))
    (h : VL P (some none) n B w0 ops Q rest ((d, v) :: env) H) :
    VL P (some none) n B w0 ops Q (⟨some d, .call ⟨.value x, args.toArray, tys⟩, ty, pos, after, none⟩ :: rest) env H := by
  refine ⟨fun a ha => wpQuiet_step fun K hK => ?_⟩
  rw [if_pos (by simp [Region.wanted])]
  refine ⟨v, fun w hw => ?_, hK _ ?_⟩
  · unfold Oper.quietAt
    rw [run_callv ha hx hc hargs]
    refine ⟨rfl, (hcall w hw).mono ?_⟩
    rintro e w' ⟨_, _, rfl, hst, rfl, rfl⟩
    exact ⟨rfl, hst⟩
  · exact h.run _ (ha.put (Nat.le_of_ble_eq_true hn) v)
/-- What writes, calls apart. -/
def effW (o : Oper) : Bool := eff o && match o.op with | .call ⟨.value _, _, _⟩ => false | .makeFunc _ _ _ => false | _ => true
theorem VC_drawc {id : Nat} {l : List Oper} (hq : (l.all fun o => !effW o) = true) (hm : P.follows .mixedOrders = true) (hB : Region.lexB .any l.toArray = true) (h : VL P (some none) n B w0 l.toArray Q l env H) : VC P n B w0 (.region id l.toArray true) Q env H :=
  VC_draw hm (by have := hq; exact hB) h

end
end Go.Eng

/- An engine for walks, part 9: conversions to unsigned numbers; loops of other forms. -/
namespace Go.Eng
open Go.RowKit
section
variable {P : Program} {m : Mode} {n : Shp} {B : Nat} {w0 : World} {ops : Array Oper} {Q : Exit → Act → World → Prop} {rest : List Oper} {env : Env} {H : List HP} {d : Nat} {ty : TypeId} {pos : String} {after : Array Edge} {x y : Operand} {k : IntKind} {a b : Int}

theorem VL_conv_u64 (T : Tab P) {src dst : TypeId} {j : IntKind} (hx : evo env x = some (.int k a)) (hs : look T.ik src = some j) (ht : look T.ik dst = some .u64) (hn : Nat.ble (d + 1) n.k = true) (hb : 0 ≤ a ∧ a ≤ 18446744073709551615)
    (h : VL P m n B w0 ops Q rest ((d, .int .u64 a) :: env) H) : VL P m n B w0 ops Q (⟨some d, .convert src dst x, ty, pos, after, none⟩ :: rest) env H :=
  VL_conv T hx hs ht hn (by rw [IntWalk.u64_in _ hb]; exact h)

/-- Calls that hand back a bool: both ways. -/
theorem VL_calltb {f : Nat} {args : List Operand} {tys : Array TypeId} {vs : List Value} {b : Bool}
    (hc : ∀ xs w, (callFunc f xs).run P w = .ok (.enter f xs) w) (hargs : Args env args vs) (hn : Nat.ble (d + 1) n.k = true)
    (hcall : ∀ w, St B w0 H w → Calls P f vs.toArray w (Post B w0 fun u K => u = .bool b ∧ K = H))
    (h1 : b = true → VL P none n B w0 ops Q rest ((d, .bool true) :: env) H) (h2 : b = false → VL P none n B w0 ops Q rest ((d, .bool false) :: env) H) :
    VL P none n B w0 ops Q (⟨some d, .call ⟨.value (.func f), args.toArray, tys⟩, ty, pos, after, none⟩ :: rest) env H := by
  cases b
  · exact VL_callt hc hargs hn hcall (h2 rfl)
  · exact VL_callt hc hargs hn hcall (h1 rfl)
theorem VL_callqb {f : Nat} {args : List Operand} {tys : Array TypeId} {vs : List Value} {b : Bool}
    (hc : ∀ xs w, (callFunc f xs).run P w = .ok (.enter f xs) w) (hargs : Args env args vs) (hn : Nat.ble (d + 1) n.k = true)
    (hcall : ∀ w, St B w0 H w → Calls P f vs.toArray w (Post B w0 fun u K => u = .bool b ∧ K = H))
    (h1 : b = true → VL P (some none) n B w0 ops Q rest ((d, .bool true) :: env) H) (h2 : b = false → VL P (some none) n B w0 ops Q rest ((d, .bool false) :: env) H) :
    VL P (some none) n B w0 ops Q (⟨some d, .call ⟨.value (.func f), args.toArray, tys⟩, ty, pos, after, none⟩ :: rest) env H := by
  cases b
  · exact VL_callq hc hargs hn hcall (h2 rfl)
  · exact VL_callq hc hargs hn hcall (h1 rfl)
theorem VL_callvtb {f : Nat} {x : Operand} {args : List Operand} {tys : Array TypeId} {vs cs : List Value} {b : Bool} (hx : evo env x = some (.func (.func f) #[] cs.toArray))
    (hc : ∀ xs w, (callFunc f xs).run P w = .ok (.enter f xs) w) (hargs : Args env args vs) (hn : Nat.ble (d + 1) n.k = true)
    (hcall : ∀ w, St B w0 H w → Calls P f (vs ++ cs).toArray w (Post B w0 fun u K => u = .bool b ∧ K = H))
    (h1 : b = true → VL P none n B w0 ops Q rest ((d, .bool true) :: env) H) (h2 : b = false → VL P none n B w0 ops Q rest ((d, .bool false) :: env) H) :
    VL P none n B w0 ops Q (⟨some d, .call ⟨.value x, args.toArray, tys⟩, ty, pos, after, none⟩ :: rest) env H := by
  cases b
  · exact VL_callvt hx hc hargs hn hcall (h2 rfl)
  · exact VL_callvt hx hc hargs hn hcall (h1 rfl)
theorem VL_callvqb {f : Nat} {x : Operand} {args : List Operand} {tys : Array TypeId} {vs cs : List Value} {b : Bool} (hx : evo env x = some (.func (.func f) #[] cs.toArray))
    (hc : ∀ xs w, (callFunc f xs).run P w = .ok (.enter f xs) w) (hargs : Args env args vs) (hn : Nat.ble (d + 1) n.k = true)
    (hcall : ∀ w, St B w0 H w → Calls P f (vs ++ cs).toArray w (Post B w0 fun u K => u = .bool b ∧ K = H))
    (h1 : b = true → VL P (some none) n B w0 ops Q rest ((d, .bool true) :: env) H) (h2 : b = false → VL P (some none) n B w0 ops Q rest ((d, .bool false) :: env) H) :
    VL P (some none) n B w0 ops Q (⟨some d, .call ⟨.value x, args.toArray, tys⟩, ty, pos, after, none⟩ :: rest) env H := by
  cases b
  · exact VL_callvq hx hc hargs hn hcall (h2 rfl)
  · exact VL_callvq hx hc hargs hn hcall (h1 rfl)

/-- A block that a literal made, as a slice of its own. -/
theorem St.blk_sl {w : World} {g e size len : Nat} {cs : List Value} (h : St B w0 (Eng.blk g (.cells cs.toArray e (0, 0)) :: H) w) (hk : cs.length = len * size) (hl : len ≤ 1000000) : St B w0 (Eng.sl e size (some ⟨g, 0, none⟩) len len cs :: H) w := by
  refine h.upd (Upd.here _) rfl rfl rfl (Nat.le_refl _) fun S1 ⟨h1, h2⟩ => ⟨⟨⟨hk, .inr ⟨g, len, cs.toArray, rfl, Nat.zero_le _, h2, Nat.le_refl _, ?_, by simpa using hk, ?_⟩⟩, fun a ha => by cases ha; exact h1⟩, fun _ _ _ => rfl⟩
  · simp only [maxLen]; omega
  · rw [List.take_of_length_le (by simp [hk])]
end
end Go.Eng

/- An engine for walks, part 10: small helps. -/
namespace Go.Eng
open Go.RowKit
section
variable {P : Program} {B : Nat} {w0 : World} {H : List HP}

/-- A contract whose value is known. -/
theorem calls_val {f : Nat} {xs : Array Value} {x y : Value} (e : x = y) (h : ∀ w, St B w0 H w → Calls P f xs w (Post B w0 fun u K => u = x ∧ K = H)) {w : World} (hw : St B w0 H w) : Calls P f xs w (Post B w0 fun u K => u = y ∧ K = H) := e ▸ h w hw
end
end Go.Eng

/- An engine for walks, part 11: elements of one cell written into rows of one's own. -/
namespace Go.Eng
open Go.RowKit
section
variable {P : Program} {n : Shp} {B : Nat} {w0 : World} {ops : Array Oper} {Q : Exit → Act → World → Prop} {rest : List Oper} {env : Env} {H : List HP} {d : Nat} {ty : TypeId} {pos : String} {after : Array Edge} {x y : Operand}

theorem flat_one {α : Type} {f : α → List Value} (hq : ∀ a, (f a).length = 1) {v : Value} : ∀ (l : List α) (i : Nat) (a : α), f a = [v] → i < l.length → (l.flatMap f).set i v = (l.set i a).flatMap f
  | [], i, a, _, h => by simp at h
  | b :: l, 0, a, hv, _ => by
    rw [List.flatMap_cons, List.set_cons_zero, List.flatMap_cons, hv]
    match hb : f b, hq b with
    | [u], _ => rfl
  | b :: l, i + 1, a, hv, h => by
    rw [List.flatMap_cons, List.set_cons_succ, List.flatMap_cons]
    have h1 := hq b
    rw [List.set_append_right _ _ (by omega), h1, Nat.add_sub_cancel, flat_one hq l i a hv (by simpa using h)]

theorem VL_store_row (T : Tab P) {α : Type} {f : α → List Value} {l : List α} {t i e k cap : Nat} {a : α} {v : Value} {A : Option Addr} {K : List HP} (hx : evo env x = some (sptr A (i * 1))) (hy : evo env y = some v) (h1 : v.oneCell' = true)
    (hu : Upd (sl e 1 A k cap (l.flatMap f)) (sl e 1 A k cap ((l.set i a).flatMap f)) H K) (hv : f a = [v]) (hq : ∀ a, (f a).length = 1) (ht : look T.sc t = some ()) (hi : i < l.length)
    (h : VL P none n B w0 ops Q rest env K) : VL P none n B w0 ops Q (⟨none, .store t x y, ty, pos, after, none⟩ :: rest) env H := by
  rw [Nat.mul_one] at hx
  refine VL_store_sl (e := e) (size := 1) (k := k) (cap := cap) T hx hy h1 ?_ ht (by rw [length_flat hq, Nat.mul_one]; exact hi) h
  rw [flat_one hq l i a hv hi]
  exact hu

/-- An empty slice that is no nil. -/
theorem VL_buildSlice0 (T : Tab P) {t e size bytes : Nat} (ht : look T.sl t = some (e, size, bytes)) (hn : Nat.ble (d + 1) n.k = true)
    (h : ∀ g, VL P none n B w0 ops Q rest ((d, .slice (some ⟨g, 0, none⟩) 0 0) :: env) (sl e size (some ⟨g, 0, none⟩) 0 0 [] :: H)) : VL P none n B w0 ops Q (⟨some d, .buildSlice t 0 #[], ty, pos, after, none⟩ :: rest) env H := by
  obtain ⟨hut, inf, z', hinf, _⟩ := sliceT_spec (T.slic ht)
  refine VL_buildSlice (parts := []) (ps := []) (cs := #[]) (e := e) parts_nil (fun w => ?_) hn fun g => VL_st _ (fun w hw => hw.blk_sl (cs := []) (by simp) (by omega)) (h g)
  simp [Instr.buildSlice, run_underlying hut, sizeOf, typeInfo, hinf, Instr.fill, newRow]
  rw [show Array.range 0 = #[] from Array.eq_empty_of_size_eq_zero (by simp), Array.map_empty]

theorem perm_take {A : HP} {L L' M : List HP} (h : Rem A L L') (h2 : Perm L' M) : Perm L (A :: M) := Perm.trans h (Perm.cons A h2)
theorem Perm.dropK {A : HP} {L M : List HP} (p : Perm L M) : Perm (A :: L) M := .trans (.drop A L) p
end
end Go.Eng

/- An engine for walks, part 12: rows that are cut, copied, moved and cleared. -/
namespace Go.Eng
open Go.RowKit
section
variable {P : Program} {m : Mode} {n : Shp} {B : Nat} {w0 : World} {ops : Array Oper} {Q : Exit → Act → World → Prop} {rest : List Oper} {env : Env} {H : List HP} {d : Nat} {ty : TypeId} {pos : String} {after : Array Edge} {x y : Operand}

theorem flat_take {α : Type} {f : α → List Value} {q : Nat} (hq : ∀ a, (f a).length = q) : ∀ (l : List α) (k : Nat), (l.take k).flatMap f = (l.flatMap f).take (k * q)
  | [], k => by simp
  | a :: l, 0 => by simp
  | a :: l, k + 1 => by
    have e1 : (k + 1) * q = q + k * q := by rw [Nat.add_mul]; omega
    have h1 : (f a).take (q + k * q) = f a := List.take_of_length_le (by rw [hq]; omega)
    rw [List.take_succ_cons, List.flatMap_cons, List.flatMap_cons, flat_take hq l k, e1, List.take_append, hq, h1, Nat.add_sub_cancel_left]
theorem flat_drop {α : Type} {f : α → List Value} {q : Nat} (hq : ∀ a, (f a).length = q) : ∀ (l : List α) (k : Nat), (l.drop k).flatMap f = (l.flatMap f).drop (k * q)
  | [], k => by simp
  | a :: l, 0 => by simp
  | a :: l, k + 1 => by
    have e1 : (k + 1) * q = q + k * q := by rw [Nat.add_mul]; omega
    have h1 : (f a).drop (q + k * q) = [] := List.drop_eq_nil_of_le (by rw [hq]; omega)
    rw [List.drop_succ_cons, List.flatMap_cons, flat_drop hq l k, e1, List.drop_append, hq, h1, Nat.add_sub_cancel_left, List.nil_append]
theorem flat_one_cells {α : Type} {f : α → List Value} (h1 : ∀ a, allOne (f a) = true) (l : List α) : ∀ v ∈ l.flatMap f, v.oneCell' = true := by
  intro v hv
  obtain ⟨a, _, ha⟩ := List.mem_flatMap.1 hv
  exact allOne_spec (h1 a) v ha

/-- Where the part of a slice from element o on lies. -/
def subA (A : Option Addr) (o cap size : Nat) : Option Addr := if cap = o then A else A.map fun a => a.add (o * size)

theorem Rd.sub {α : Type} {f : α → List Value} {q : Nat} {l : List α} {A : Option Addr} {cap o k : Nat} (hq : ∀ a, (f a).length = q) (hr : Rd B w0 H A (l.flatMap f)) (hc : l.length ≤ cap) : Rd B w0 H (subA A o cap q) (((l.drop o).take k).flatMap f) := by
  intro w hw j v hv
  rw [flat_take hq, flat_drop hq] at hv
  have hv2 : ((l.flatMap f).drop (o * q))[j]? = some v := by
    rw [List.getElem?_take] at hv
    by_cases hj : j < k * q
    · rw [if_pos hj] at hv; exact hv
    · rw [if_neg hj] at hv; cases hv
  rw [List.getElem?_drop] at hv2
  obtain ⟨g, oo, rfl, h2⟩ := hr w hw _ _ hv2
  unfold subA
  by_cases hco : cap = o
  · exfalso
    have h3 := (List.getElem?_eq_some_iff.1 hv2).1
    rw [length_flat hq] at h3
    have h4 : l.length * q ≤ o * q := Nat.mul_le_mul_right q (by omega)
    omega
  · rw [if_neg hco]
    exact ⟨g, oo + o * q, by rw [Option.map_some, Addr.add_lit], by rw [Nat.add_assoc]; exact h2⟩
theorem Rd.take {α : Type} {f : α → List Value} {q : Nat} {l : List α} {A : Option Addr} (k : Nat) (hq : ∀ a, (f a).length = q) (hr : Rd B w0 H A (l.flatMap f)) : Rd B w0 H A ((l.take k).flatMap f) := by
  intro w hw j v hv
  rw [flat_take hq, List.getElem?_take] at hv
  by_cases hj : j < k * q
  · rw [if_pos hj] at hv; exact hr w hw j v hv
  · rw [if_neg hj] at hv; cases hv

/-! ### Slices of slices -/

theorem run_sliceT (T : Tab P) {w : World} {t e size bytes : Nat} {A : Option Addr} {k cap : Nat} {lo hi mx : Option Value} {l h mm : Nat} (ht : look T.sl t = some (e, size, bytes)) (hb : (Instr.sliceBounds true k cap lo hi mx).run P w = .ok (l, h, mm) w) :
    (Instr.slice t (.slice A k cap) lo hi mx).run P w = .ok (.slice (if mm = l then A else A.map (·.add (l * size))) (h - l) (mm - l)) w := by
  obtain ⟨hut, inf, z', hinf, _, _, hsi, _⟩ := sliceT_spec (T.slic ht)
  simp [Instr.slice, run_underlying hut, hb, sizeOf, typeInfo, hinf, hsi]

theorem run_sliceAtT (T : Tab P) {w : World} {t e size bytes : Nat} {A : Option Addr} {k cap : Nat} {lo hi mx : Option Value} {l h mm : Nat} (ht : look T.sl t = some (e, size, bytes)) (hb : (Instr.sliceBounds true k cap lo hi mx).run P w = .ok (l, h, mm) w) :
    (Instr.sliceAt t (.slice A k cap) lo hi mx).run P w = .ok (.slice (if mm = l then A else A.map (·.add (l * size))) (h - l) (mm - l)) w := by
  obtain ⟨hut, _⟩ := sliceT_spec (T.slic ht)
  simp [Instr.sliceAt, run_underlying hut, run_sliceT T (A := A) ht hb]

theorem VL_slice_lo (T : Tab P) {t e size bytes k cap n' : Nat} {A : Option Addr} {lo : Operand} {ki : IntKind} {z : Int} (hx : evo env x = some (.slice A k cap)) (hl : evo env lo = some (.int ki z)) (ht : look T.sl t = some (e, size, bytes)) (hn : Nat.ble (d + 1) n.k = true) (hb : 0 ≤ z ∧ z ≤ k) (hn' : k - z.toNat = n')
    (h : VL P m n B w0 ops Q rest ((d, .slice (subA A z.toNat cap size) n' (cap - z.toNat)) :: env) H) : VL P m n B w0 ops Q (⟨some d, .slice t x (some lo) none none, ty, pos, after, none⟩ :: rest) env H := by
  subst hn'
  refine VL_pure rfl rfl hn rfl (fun f w ha _ => ?_) h
  have hb2 : (Instr.sliceBounds true k cap (some (.int ki z)) none none).run P w = .ok (z.toNat, k, cap) w := by simp [Instr.sliceBounds, Instr.sliceBound, asIntOf, hb]
  have hr := run_sliceAtT T (A := A) ht hb2
  simp only [execOp, ha.eval hx, Option.map_some, ha.eval hl, Option.map_none]
  simp [hr, subA]

/-- The same of a row that is only read. -/
theorem VL_slice_hi_rd (T : Tab P) {α : Type} {l : List α} {t e size bytes cap n' : Nat} {A : Option Addr} {hi : Operand} {ki : IntKind} {z : Int} (hx : evo env x = some (.slice A l.length cap)) (hl : evo env hi = some (.int ki z)) (ht : look T.sl t = some (e, size, bytes)) (hn : Nat.ble (d + 1) n.k = true) (hb : 0 ≤ z ∧ z ≤ l.length) (hc : l.length ≤ cap) (hn' : z.toNat = n')
    (h : VL P m n B w0 ops Q rest ((d, .slice (subA A 0 cap size) n' cap) :: env) H) : VL P m n B w0 ops Q (⟨some d, .slice t x none (some hi) none, ty, pos, after, none⟩ :: rest) env H := by
  subst hn'
  refine VL_pure rfl rfl hn rfl (fun f w ha hw => ?_) h
  have hb2 : (Instr.sliceBounds true l.length cap none (some (.int ki z)) none).run P w = .ok (0, z.toNat, cap) w := by
    have : z ≤ cap := by omega
    simp [Instr.sliceBounds, Instr.sliceBound, asIntOf, hb.1, this]
  have hr := run_sliceAtT T (A := A) ht hb2
  simp only [execOp, ha.eval hx, Option.map_some, ha.eval hl, Option.map_none]
  simp [hr, subA]

theorem VL_slice_lh (T : Tab P) {t e size bytes k cap n' : Nat} {A : Option Addr} {lo hi : Operand} {ki kj : IntKind} {z u : Int} (hx : evo env x = some (.slice A k cap)) (hl : evo env lo = some (.int ki z)) (hh : evo env hi = some (.int kj u)) (ht : look T.sl t = some (e, size, bytes)) (hn : Nat.ble (d + 1) n.k = true) (hb : 0 ≤ z ∧ z ≤ u ∧ u ≤ cap) (hn' : u.toNat - z.toNat = n')
    (h : VL P m n B w0 ops Q rest ((d, .slice (subA A z.toNat cap size) n' (cap - z.toNat)) :: env) H) : VL P m n B w0 ops Q (⟨some d, .slice t x (some lo) (some hi) none, ty, pos, after, none⟩ :: rest) env H := by
  subst hn'
  refine VL_pure rfl rfl hn rfl (fun f w ha _ => ?_) h
  have hb2 : (Instr.sliceBounds true k cap (some (.int ki z)) (some (.int kj u)) none).run P w = .ok (z.toNat, u.toNat, cap) w := by
    have h1 : 0 ≤ u := by omega
    have h3 : z ≤ max u 0 := by omega
    simp [Instr.sliceBounds, Instr.sliceBound, asIntOf, hb.1, hb.2.2, h1, h3]
  have hr := run_sliceAtT T (A := A) ht hb2
  simp only [execOp, ha.eval hx, Option.map_some, ha.eval hl, ha.eval hh, Option.map_none]
  simp [hr, subA]

/-- A slice whose bounds are looked at, and which nobody uses. -/
theorem VL_slice3 (T : Tab P) {t e size bytes k cap : Nat} {A : Option Addr} {lo hi mx : Operand} {ki kj kk : IntKind} {z u v : Int} (hx : evo env x = some (.slice A k cap)) (hl : evo env lo = some (.int ki z)) (hh : evo env hi = some (.int kj u)) (hv : evo env mx = some (.int kk v)) (ht : look T.sl t = some (e, size, bytes)) (hn : Nat.ble (d + 1) n.k = true) (hb : 0 ≤ z ∧ z ≤ u ∧ u ≤ v ∧ v ≤ cap)
    (h : VL P m n B w0 ops Q rest ((d, .slice (if v.toNat = z.toNat then A else A.map (·.add (z.toNat * size))) (u.toNat - z.toNat) (v.toNat - z.toNat)) :: env) H) : VL P m n B w0 ops Q (⟨some d, .slice t x (some lo) (some hi) (some mx), ty, pos, after, none⟩ :: rest) env H := by
  refine VL_pure rfl rfl hn rfl (fun f w ha _ => ?_) h
  have hb2 : (Instr.sliceBounds true k cap (some (.int ki z)) (some (.int kj u)) (some (.int kk v))).run P w = .ok (z.toNat, u.toNat, v.toNat) w := by
    have h1 : 0 ≤ u := by omega
    have h3 : z ≤ max u 0 := by omega
    have h4 : 0 ≤ v := by omega
    have h6 : u ≤ max v 0 := by omega
    simp [Instr.sliceBounds, Instr.sliceBound, asIntOf, hb.1, hb.2.2, h1, h3, h4, h6]
  have hr := run_sliceAtT T (A := A) ht hb2
  simp only [execOp, ha.eval hx, Option.map_some, ha.eval hl, ha.eval hh, ha.eval hv]
  simp [hr]

/-! ### Rows of one's own that are written in pieces -/

theorem setRow_other {w : World} {g b : Nat} {cs : Array Value} (h : b ≠ g) : (w.setRow g cs).heap[b]? = w.heap[b]? := by
  simp [World.setRow, Array.getElem?_modify, Ne.symm h]

theorem St.storeRow {w : World} {K : List HP} {e size k k' cap g o : Nat} {A : Option Addr} {xs xs' vs : List Value} {cur : Array Value} (hw : St B w0 H w) (hu : Upd (Eng.sl e size A k cap xs) (Eng.sl e size A k' cap xs') H K) (hA : A = some ⟨g, 0, none⟩)
    (hb : w.heap[g]? = some (.cells cur e (0, 0))) (hcur : cur.size = cap * size) (hk' : k' ≤ cap) (hcm : cap ≤ maxLen) (hov : o + vs.length ≤ cur.size) (hx' : (cur.toList.take o ++ vs ++ cur.toList.drop (o + vs.length)).take (k' * size) = xs') (hxl : xs'.length = k' * size) :
    St B w0 K (w.setRow g (cur.toList.take o ++ vs ++ cur.toList.drop (o + vs.length)).toArray) := by
  refine hw.upd hu rfl rfl rfl (by simp [World.setRow]) fun S1 ⟨hown, hS⟩ => ⟨⟨⟨hxl, .inr ⟨g, cap, _, by rw [hA], Nat.zero_le _, setRow_heap w g cur _ e _ hb, hk', hcm, ?_, by simpa using hx'⟩⟩, hS⟩, fun b hb' _ => setRow_other fun e => hb' (by rw [e]; exact hS _ hA)⟩
  simp only [List.size_toArray, List.length_append, List.length_take, List.length_drop, Array.length_toList]
  omega

/-- What a piece says of memory. -/
theorem sl_open {w : World} {e size k cap : Nat} {A : Option Addr} {xs : List Value} (h : w.ownsRow 0 e size (.slice A k cap) k xs) : (A = none ∧ k = 0 ∧ cap = 0 ∧ xs = []) ∨ ∃ g cur, A = some ⟨g, 0, none⟩ ∧ w.heap[g]? = some (.cells cur e (0, 0)) ∧ k ≤ cap ∧ cap ≤ maxLen ∧ cur.size = cap * size ∧ cur.toList.take (k * size) = xs ∧ xs.length = k * size := by
  obtain ⟨h1, h2⟩ := h
  rcases h2 with ⟨e1, e2⟩ | ⟨g, c, cur, e1, _, e3, e4, e5, e6, e7⟩
  · injection e1 with a1 a2 a3
    exact .inl ⟨a1, e2, a3, List.eq_nil_of_length_eq_zero (by rw [h1, e2]; simp)⟩
  · injection e1 with a1 a2 a3
    subst a3
    exact .inr ⟨g, cur, a1, e3, e4, e5, e6, e7, h1⟩

theorem VL_append_rd (T : Tab P) {α : Type} {f : α → List Value} {l2 : List α} {t : Nat} {A A2 : Option Addr} {k cap c : Nat} {xs : List Value} {e size bytes : Nat} {K : Option Addr → Nat → List HP}
    (hx : evo env x = some (.slice A k cap)) (ht : look T.sl t = some (e, size, bytes)) (hy : evo env y = some (.slice A2 l2.length c)) (hr : Rd B w0 H A2 (l2.flatMap f)) (hq : ∀ a, (f a).length = size) (h1 : ∀ a, allOne (f a) = true) (hn : Nat.ble (d + 1) n.k = true)
    (hu : ∀ A' cap', Upd (sl e size A k cap xs) (sl e size A' (k + l2.length) cap' (xs ++ l2.flatMap f)) H (K A' cap')) (hby : (k + l2.length) * bytes ≤ 140737488355328)
    (h : ∀ A' cap', VL P none n B w0 ops Q rest ((d, .slice A' (k + l2.length) cap') :: env) (K A' cap')) :
    VL P none n B w0 ops Q (⟨some d, .call ⟨.builtin .append, #[x, y], #[t, t]⟩, ty, pos, after, none⟩ :: rest) env H := by
  obtain ⟨hut, i, z, hi, hz, hzs, hsi, hbi, hs0, hb0⟩ := sliceT_spec (T.slic ht)
  refine VL_opE (fun v K' => ∃ A' cap', v = .slice A' (k + l2.length) cap' ∧ K' = K A' cap') rfl rfl hn (fun a w ha hw => ?_) (by rintro _ _ ⟨A', cap', rfl, rfl⟩; exact h A' cap')
  have hmem : sl e size A k cap xs ∈ H := by
    obtain ⟨L1, L2, rfl, _⟩ := hu none 0
    simp
  have hown := hw.sl hmem
  have h63 : k + l2.length ≤ maxLen := by
    have : k + l2.length ≤ (k + l2.length) * bytes := Nat.le_mul_of_pos_right _ hb0
    simp only [maxLen]; omega
  cases A2 with
  | none =>
    have hl0 : l2 = [] := by
      cases l2 with
      | nil => rfl
      | cons b l =>
        have hb := hq b
        obtain ⟨v, hv⟩ : ∃ v, (f b)[0]? = some v := ⟨_, List.getElem?_eq_getElem (by omega)⟩
        obtain ⟨g, o, e1, _⟩ := hr w hw 0 v (by rw [List.flatMap_cons, List.getElem?_append_left (by omega)]; exact hv)
        cases e1
    subst hl0
    have hkc : k ≤ cap := by
      rcases sl_open hown with ⟨_, e1, e2, _⟩ | ⟨_, _, _, _, e1, _⟩ <;> omega
    refine ⟨.slice A k cap, K A cap, w, ?_, ?_, A, cap, by simp, rfl⟩
    · cases A with
      | none => simp [execOp, resolve, invoke, builtin, ha.eval hx, ha.eval hy, Builtin.append_, run_underlying hut, sizeOf, typeInfo, hi, Builtin.lenOf, hkc, Builtin.firstCells]
      | some a0 => simp [execOp, resolve, invoke, builtin, ha.eval hx, ha.eval hy, Builtin.append_, run_underlying hut, sizeOf, typeInfo, hi, Builtin.lenOf, hkc, Builtin.firstCells, storeCells]
    · have := hu A cap
      simp only [List.length_nil, Nat.add_zero, List.flatMap_nil, List.append_nil] at this
      exact hw.upd this rfl rfl rfl (Nat.le_refl _) fun S1 hS => ⟨hS, fun _ _ _ => rfl⟩
  | some a2 =>
    obtain ⟨v', w', hrun, hown', hgrow, _, hat⟩ := run_append_own_at (P := P) w 0 t ty e i z size bytes hut hi hz hsi hbi hzs hs0 (.slice A k cap) k xs hown a2 l2.length c (l2.flatMap f) (length_flat hq l2)
      (fun j u hj => by
        obtain ⟨g, o, e1, e2⟩ := hr w hw j u hj
        injection e1 with e1
        rw [e1, Addr.add_lit]; exact e2) (flat_one_cells h1 l2) h63 hby (Nat.zero_le _)
    have hshape : ∃ A' cap', v' = .slice A' (k + l2.length) cap' := by
      rcases hown'.2 with ⟨e1, e2⟩ | ⟨g', c', _, e1, _⟩
      · exact ⟨none, 0, by rw [e1, e2]⟩
      · exact ⟨_, _, e1⟩
    obtain ⟨A', cap', rfl⟩ := hshape
    refine ⟨_, K A' cap', w', by simp [execOp, resolve, invoke, builtin, ha.eval hx, ha.eval hy, hrun], ?_, A', cap', rfl, rfl⟩
    refine hw.updN (hu A' cap') hgrow.os hgrow.tape hgrow.output hgrow.size fun S1 ⟨_, hS⟩ => ⟨⟨fun b => Value.ownBlock (.slice A' (k + l2.length) cap') = some b, ⟨hown', ?_⟩, fun b hb => ?_⟩, fun b hb hlt => hgrow.block b hlt (fun e => hb ?_)⟩
    · rintro a rfl; rfl
    · rcases hat with e | e
      · rw [e] at hb
        cases A with
        | none => cases hb
        | some a => left; have := hS a rfl; simp only [Value.ownBlock, Option.some.injEq] at hb; rwa [← hb]
      · rw [e] at hb
        right
        simp only [Option.some.injEq] at hb
        subst hb
        refine ⟨Nat.le_refl _, ?_⟩
        rcases sl_open hown' with ⟨rfl, _⟩ | ⟨g', cur', rfl, h5, _⟩
        · simp [Value.ownBlock] at e
        · simp only [Value.ownBlock, Option.some.injEq] at e
          rw [← e]
          exact (Array.getElem?_eq_some_iff.1 h5).1
    · cases A with
      | none => simp [Value.ownBlock] at e
      | some a => have := hS a rfl; simp only [Value.ownBlock, Option.some.injEq] at e; rwa [e]

/-- The part of a row behind what is looked at is cleared. -/
theorem VL_clear (T : Tab P) (T2 : Tab2 P) {t e size bytes k cap o mm c : Nat} {A : Option Addr} {xs : List Value} {z : Value} (hx : evo env x = some (.slice (subA A o cap size) mm c)) (hm : sl e size A k cap xs ∈ H) (ht : look T.sl t = some (e, size, bytes)) (hz : look T2.zt e = some z) (hz1 : allOne z.cells.toList = true) (hb : k ≤ o ∧ o + mm ≤ cap)
    (h : VL P none n B w0 ops Q rest env H) : VL P none n B w0 ops Q (⟨none, .call ⟨.builtin .clear, #[x], #[t]⟩, ty, pos, after, none⟩ :: rest) env H := by
  obtain ⟨hut, i, z', hi, hz', hzs, hsi, hbi, hs0, hb0⟩ := sliceT_spec (T.slic ht)
  have hzz : z' = z := by
    have h2 := look_map T2.zt_ok hz
    unfold zeroT at h2
    rw [hi] at h2
    exact Option.some.inj (hz'.symm.trans h2)
  subst hzz
  refine VL_opU (v := .tuple #[]) rfl rfl (fun a w ha hw => ?_) h
  rcases sl_open (hw.sl hm) with ⟨rfl, rfl, rfl, rfl⟩ | ⟨g, cur, rfl, h1, h2, h3, h4, h5, h6⟩
  · obtain rfl : mm = 0 := by omega
    refine ⟨w, ?_, hw⟩
    have : subA none o 0 size = none := by unfold subA; split <;> rfl
    rw [this] at hx
    simp [execOp, resolve, invoke, builtin, ha.eval hx, Builtin.clear_, run_underlying hut]
  · by_cases hm0 : mm = 0
    · subst hm0
      refine ⟨w, ?_, hw⟩
      cases hsa : subA (some ⟨g, 0, none⟩) o cap size with
      | none => rw [hsa] at hx; simp [execOp, resolve, invoke, builtin, ha.eval hx, Builtin.clear_, run_underlying hut]
      | some b => rw [hsa] at hx; simp [execOp, resolve, invoke, builtin, ha.eval hx, Builtin.clear_, run_underlying hut]
    · have hsa : subA (some ⟨g, 0, none⟩) o cap size = some ⟨g, o * size, none⟩ := by
        unfold subA
        rw [if_neg (by omega), Option.map_some, Addr.add_lit, Nat.zero_add]
      rw [hsa] at hx
      have hlen : (Builtin.zeroCells z'.cells mm).toList.length = mm * size := by simp [Builtin.zeroCells, hzs]
      have hone : ∀ v ∈ (Builtin.zeroCells z'.cells mm).toList, v.oneCell' = true := by
        intro v hv
        simp only [Builtin.zeroCells, Array.toList_map, List.mem_map] at hv
        obtain ⟨j, _, rfl⟩ := hv
        have hlt : j % z'.cells.size < z'.cells.size := Nat.mod_lt _ (by omega)
        rw [getElem!_pos z'.cells (j % z'.cells.size) hlt]
        exact allOne_spec hz1 _ (by simp)
      have hov : o * size + (Builtin.zeroCells z'.cells mm).toList.length ≤ cur.size := by
        rw [hlen, h4, ← Nat.add_mul]; exact Nat.mul_le_mul_right _ hb.2
      have hrun := run_storeCells_at (P := P) g (o * size) e (Builtin.zeroCells z'.cells mm).toList 0 cur w h1 (by rw [Nat.add_zero]; exact hov) hone
      rw [Nat.add_zero] at hrun
      obtain ⟨L1, L2, hL⟩ : ∃ L1 L2, H = L1 ++ sl e size (some ⟨g, 0, none⟩) k cap xs :: L2 := List.append_of_mem hm
      refine ⟨_, ?_, hw.storeRow (k' := k) (xs' := xs) ⟨L1, L2, hL, hL⟩ rfl h1 h4 h2 h3 hov ?_ h6⟩
      · have hzv : (zeroValue e).run P w = .ok z' w := zero_run (by unfold zeroT; rw [hi]; exact hz') w
        obtain ⟨m', rfl⟩ : ∃ m', mm = m' + 1 := ⟨mm - 1, by omega⟩
        simp [execOp, resolve, invoke, builtin, ha.eval hx, Builtin.clear_, run_underlying hut, hzv, hrun]
      · have hko : k * size ≤ o * size := Nat.mul_le_mul_right _ hb.1
        have hoc : o * size ≤ cur.toList.length := by simp; omega
        rw [List.append_assoc, List.take_append_of_le_length (by rw [List.length_take]; omega), List.take_take, Nat.min_eq_left hko]
        exact h5

/-- What lies behind is moved forward within one row: append(s[:i], s[j:]...). -/
theorem VL_append_in (T : Tab P) {t e size bytes i j mm k cap c : Nat} {A : Option Addr} {xs : List Value} {K : List HP} (hx : evo env x = some (.slice A i cap)) (hy : evo env y = some (.slice (subA A j cap size) mm c)) (ht : look T.sl t = some (e, size, bytes)) (hn : Nat.ble (d + 1) n.k = true)
    (hu : Upd (sl e size A k cap xs) (sl e size A (i + mm) cap (xs.take (i * size) ++ xs.drop (j * size))) H K) (h1 : ∀ v ∈ xs, v.oneCell' = true) (hb : i ≤ j ∧ j ≤ k ∧ mm = k - j ∧ 0 < k)
    (h : VL P none n B w0 ops Q rest ((d, .slice A (i + mm) cap) :: env) K) :
    VL P none n B w0 ops Q (⟨some d, .call ⟨.builtin .append, #[x, y], #[t, t]⟩, ty, pos, after, none⟩ :: rest) env H := by
  obtain ⟨hut, inf, z, hi, hz, hzs, hsi, hbi, hs0, hb0⟩ := sliceT_spec (T.slic ht)
  refine VL_opE (fun v K' => v = .slice A (i + mm) cap ∧ K' = K) rfl rfl hn (fun a w ha hw => ?_) (by rintro _ _ ⟨rfl, rfl⟩; exact h)
  have hmem : sl e size A k cap xs ∈ H := by
    obtain ⟨L1, L2, rfl, _⟩ := hu
    simp
  rcases sl_open (hw.sl hmem) with ⟨rfl, e1, _⟩ | ⟨g, cur, rfl, g1, g2, g3, g4, g5, g6⟩
  · omega
  have hdl : (xs.drop (j * size)).length = mm * size := by rw [List.length_drop, g6, hb.2.2.1, Nat.sub_mul]
  have hij : i * size ≤ j * size := Nat.mul_le_mul_right _ hb.1
  have hjk : j * size ≤ k * size := Nat.mul_le_mul_right _ hb.2.1
  have hkc : k * size ≤ cap * size := Nat.mul_le_mul_right _ g2
  have hov : i * size + (xs.drop (j * size)).length ≤ cur.size := by rw [List.length_drop, g6, g4]; omega
  have hrun := run_storeCells_at (P := P) g (i * size) e (xs.drop (j * size)) 0 cur w g1 (by rw [Nat.add_zero]; exact hov) (fun v hv => h1 v (List.mem_of_mem_drop hv))
  rw [Nat.add_zero] at hrun
  refine ⟨_, K, _, ?_, hw.storeRow (k' := i + mm) (o := i * size) (vs := xs.drop (j * size)) hu rfl g1 g4 (by omega) g3 hov ?_ ?_, rfl, rfl⟩
  · have hf : (Builtin.firstCells size mm (.slice (subA (some ⟨g, 0, none⟩) j cap size) mm c)).run P w = .ok (xs.drop (j * size)).toArray w := by
      by_cases hcj : cap = j
      · have hm0 : mm = 0 := by omega
        have hnil : xs.drop (j * size) = [] := List.eq_nil_of_length_eq_zero (by rw [hdl, hm0]; simp)
        unfold subA
        rw [if_pos hcj, hnil]
        exact run_firstCells_some (P := P) (w := w) size mm _ mm c [] (by simp [hm0]) (by simp)
      · unfold subA
        rw [if_neg hcj, Option.map_some, Addr.add_lit, Nat.zero_add]
        refine run_firstCells_some (P := P) (w := w) size mm _ mm c _ hdl fun q v hq => ?_
        rw [List.getElem?_drop] at hq
        have h7 := (List.getElem?_eq_some_iff.1 hq).1
        rw [Addr.add_lit]
        simp only [World.cell?, g1]
        rw [← g5, List.getElem?_take] at hq
        by_cases hlt : j * size + q < k * size
        · rw [if_pos hlt] at hq
          simpa using hq
        · rw [if_neg hlt] at hq; cases hq
    have hneed : i + mm ≤ cap := by omega
    have hadd : (⟨g, 0, none⟩ : Addr).add (i * size) = ⟨g, i * size, none⟩ := by rw [Addr.add_lit, Nat.zero_add]
    simp [execOp, resolve, invoke, builtin, ha.eval hx, ha.eval hy, Builtin.append_, run_underlying hut, sizeOf, typeInfo, hi, hsi, Builtin.lenOf, hneed, hf, hadd, hrun]
  · have hxt : xs.take (i * size) = cur.toList.take (i * size) := by rw [← g5, List.take_take, Nat.min_eq_left (by omega)]
    rw [hxt]
    apply List.take_left'
    rw [List.length_append, List.length_take, Array.length_toList, hdl, Nat.add_mul]
    omega
  · rw [List.length_append, List.length_take, hdl, Nat.add_mul, g6]
    omega

/-! ### Elements of more cells -/

end
end Go.Eng

/- An engine for walks, part 13: four results, functions with bound receivers, maps of functions, slices against nil. -/
namespace Go.Eng
open Go.RowKit
open Go.ChangeMaps (setBlock)
section
variable {P : Program} {m : Mode} {n : Shp} {B : Nat} {w0 : World} {ops : Array Oper} {Q : Exit → Act → World → Prop} {rest : List Oper} {env : Env} {H : List HP} {d : Nat} {ty : TypeId} {pos : String} {after : Array Edge} {x y : Operand}

def isSl (P : Program) (t : TypeId) : Bool := match P.underlying t with | some (.slice _) => true | _ => false
theorem isSl_spec {t : TypeId} (h : isSl P t = true) : ∃ e, P.underlying t = some (.slice e) := by
  unfold isSl at h
  split at h
  · rename_i e hu; exact ⟨e, hu⟩
  · cases h
theorem VL_sleql0 {xt yt : TypeId} {A : Option Addr} {k cap : Nat} (hx : evo env x = some (.slice A k cap)) (hn : Nat.ble (d + 1) n.k = true) (hu : isSl P xt = true)
    (h : VL P m n B w0 ops Q rest ((d, .bool A.isNone) :: env) H) : VL P m n B w0 ops Q (⟨some d, .binOp .eql xt x (.const (.slice none 0 0)) yt, ty, pos, after, none⟩ :: rest) env H := by
  obtain ⟨e, hu⟩ := isSl_spec hu
  refine VL_bin hx (y := .const (.slice none 0 0)) rfl hn (fun w => by simp [eqGuard]) (fun w => ?_) h
  simp only [binOp, Op.equal]
  rw [Sem.run_bind, show Op.maxDepth = 9999 + 1 from rfl]
  unfold Op.equalIn
  cases A <;> simp [run_underlying hu]
end
end Go.Eng

/- An engine for walks, part 14: elements stored whole; slices that are not nil. -/
namespace Go.Eng
open Go.RowKit
section
variable {P : Program} {m : Mode} {n : Shp} {B : Nat} {w0 : World} {ops : Array Oper} {Q : Exit → Act → World → Prop} {rest : List Oper} {env : Env} {H : List HP} {d : Nat} {ty : TypeId} {pos : String} {after : Array Edge} {x y : Operand}

/-- The address of an element of a slice that is not nil. -/
theorem VL_index_some (T : Tab P) {t k cap e size bytes : Nat} {a : Addr} {ki : IntKind} {i : Int} (hx : evo env x = some (.slice (some a) k cap)) (hy : evo env y = some (.int ki i)) (ht : look T.sl t = some (e, size, bytes)) (hn : Nat.ble (d + 1) n.k = true) (hi : 0 ≤ i ∧ i < k)
    (h : VL P m n B w0 ops Q rest ((d, sptr (some a) (i.toNat * size)) :: env) H) : VL P m n B w0 ops Q (⟨some d, .indexAddr t x y, ty, pos, after, none⟩ :: rest) env H := by
  obtain ⟨hut, inf, z', hinf, _, _, hsi, _⟩ := sliceT_spec (T.slic ht)
  refine VL_pure rfl rfl hn rfl (fun f w ha _ => ?_) h
  simp [execOp, ha.eval hx, ha.eval hy, Instr.indexAt, asIntOf, run_underlying hut, hi, sizeOf, typeInfo, hinf, hsi, sptr]

end
end Go.Eng

/- An engine for walks, part 16: regions that draw their order, whose last operations (also such that only read) come in a forced order. -/
namespace Go.Eng
open Go.RowKit
section
variable {P : Program} {n : Shp} {B : Nat} {w0 : World} {ops : Array Oper} {Q : Exit → Act → World → Prop} {rest : List Oper} {env : Env} {H : List HP}

def orderT (ops : Array Oper) : List Nat → Array Bool → Bool
  | [], listed => (Region.ready .any ops listed).isEmpty
  | i :: rest, listed => decide (Region.ready .any ops listed = [i]) && orderT ops rest (listed.setIfInBounds i true)
def orderH (ops : Array Oper) (last : List Nat) : List Nat → Array Bool → Bool
  | [], listed => orderT ops last listed
  | i :: rest, listed =>
    (match ops[i]? with
      | some o => if eff o then decide (Region.ready .any ops listed = [i]) else (Region.ready .any ops listed).contains i && Region.free .any ops listed i
      | none => false) && orderH ops last rest (listed.setIfInBounds i true)
def lastH (ops : Array Oper) (last : List Nat) : Bool :=
  last.all fun j => decide (j < ops.size) && (List.range ops.size).all fun i => last.contains i || (match ops[i]? with | some o => eff o | none => false) || ancB ops ops.size j i

theorem lastH_spec {last : List Nat} (h : lastH ops last = true) : (∀ j, last.contains j = true → ∃ o, ops[j]? = some o) ∧ ∀ i oi, ops[i]? = some oi → eff oi = false → last.contains i = false → ∀ j, last.contains j = true → ∃ f, ancB ops f j i = true := by
  refine ⟨fun j hj => ?_, fun i oi hi he hil j hj => ?_⟩
  · have h1 := List.all_eq_true.1 h j (by simpa using hj)
    simp only [Bool.and_eq_true, decide_eq_true_eq] at h1
    exact ⟨_, Array.getElem?_eq_getElem h1.1⟩
  · have h1 := List.all_eq_true.1 h j (by simpa using hj)
    simp only [Bool.and_eq_true] at h1
    have hlt : i < ops.size := (Array.getElem?_eq_some_iff.1 hi).1
    have h2 := List.all_eq_true.1 h1.2 i (List.mem_range.2 hlt)
    rw [hi, hil] at h2
    simp only [he, Bool.false_or] at h2
    exact ⟨_, h2⟩

theorem tail_soundH {S : World → Prop} {last : List Nat} (l : List Oper) (hl : ops = l.toArray) (hef : ∀ j, last.contains j = true → ∃ o, ops[j]? = some o) (hlo : ¬ LetsOut Q) :
    ∀ (o2 : List Nat) (listed : Array Bool) (a : Act) (w : World), (∀ j ∈ o2, last.contains j = true) → orderT ops o2 listed = true → wpList P ops Q (pickOps l o2) a w → wpAnyN P ops Q S last o2.length listed a w
  | [], listed, a, w, _, hB, h => ⟨by simpa [orderT] using hB, h⟩
  | i :: rest, listed, a, w, hin, hB, h => by
    simp only [orderT, Bool.and_eq_true, decide_eq_true_eq] at hB
    obtain ⟨h1, h2⟩ := hB
    obtain ⟨o, ho⟩ := hef i (hin i (by simp))
    have hget : nthO l i = o := nthO_get hl ho
    simp only [pickOps, hget] at h
    unfold wpList at h
    refine ⟨fun h0 => (by rw [h1] at h0; cases h0), fun k hk => ?_⟩
    rw [h1] at hk
    obtain rfl : k = i := by simpa using hk
    unfold wpOp
    simp only [ho]
    have hc : last.contains k = true := hin k (by simp)
    by_cases hw : Region.wanted o (yielded ops a.tmps) = true
    · rw [if_pos hw] at h ⊢
      rcases h with h | ⟨_, h⟩
      · exact .inl (Oper.wp_mono (fun a' w' h' => ⟨fun hf => (by rw [hc] at hf; cases hf), tail_soundH l hl hef hlo rest _ a' w' (fun j hj => hin j (by simp [hj])) h2 h'⟩) h)
      · exact (hlo h).elim
    · rw [if_neg hw] at h ⊢
      exact ⟨fun hf => (by rw [hc] at hf; cases hf), tail_soundH l hl hef hlo rest _ _ w (fun j hj => hin j (by simp [hj])) h2 h⟩

theorem held_soundH {S : World → Prop} {last : List Nat} (hs : Region.noSelect ops = true) (hQ : ∀ c (a : Act) (w : World), ¬ Q (.panic c) a w) (hlo : ¬ LetsOut Q) (l : List Oper) (hl : ops = l.toArray) (hlast : lastH ops last = true) :
    ∀ (o1 : List Nat) (listed : Array Bool) (a : Act) (w : World), Closed ops listed → (∀ j ∈ o1, last.contains j = false) → orderH ops last o1 listed = true → S w → wpHeld P ops (TailQ P ops Q (pickOps l last)) S (pickOps l o1) a w →
      wpAnyN P ops Q S last (o1 ++ last).length listed a w
  | [], listed, a, w, _, _, hB, _, h => tail_soundH l hl (lastH_spec hlast).1 hlo last listed a w (fun j hj => by simpa using hj) hB h
  | i :: rest, listed, a, w, hcl, hno, hB, hS, h => by
    simp only [orderH, Bool.and_eq_true] at hB
    obtain ⟨h1, h2⟩ := hB
    have hno' : ∀ j ∈ rest, last.contains j = false := fun j hj => hno j (by simp [hj])
    cases ho : ops[i]? with
    | none => rw [ho] at h1; cases h1
    | some o =>
      rw [ho] at h1
      have hget : nthO l i = o := nthO_get hl ho
      simp only [pickOps, hget] at h
      by_cases he : eff o = true
      · simp only [he, if_true, decide_eq_true_eq] at h1
        unfold wpHeld at h
        rw [if_pos he] at h
        refine ⟨fun h0 => (by rw [h1] at h0; cases h0), fun k hk => ?_⟩
        have hk' := hk
        rw [h1] at hk
        obtain rfl : k = i := by simpa using hk
        unfold wpOp
        simp only [ho]
        by_cases hw : Region.wanted o (yielded ops a.tmps) = true
        · rw [if_pos hw] at h ⊢
          refine .inl (Oper.wp_mono_noQ' (fun c a w h => by cases h) (Oper.wp_mono (fun a' w' h' => ⟨fun _ => h'.1, held_soundH hs hQ hlo l hl hlast rest _ a' w' (hcl.set hk') hno' h2 h'.1 h'.2⟩) h))
        · rw [if_neg hw] at h ⊢
          exact ⟨fun _ => hS, held_soundH hs hQ hlo l hl hlast rest _ _ w (hcl.set hk') hno' h2 hS h⟩
      · simp only [he] at h1
        simp only [Bool.false_eq_true, if_false, Bool.and_eq_true] at h1
        unfold wpHeld at h
        rw [if_neg he] at h
        obtain ⟨v, hy, h3⟩ := h
        have hr : i ∈ Region.ready .any ops listed := by simpa using h1.1
        exact wpAnyN_first ho (Region.noSelect_spec hs) hQ ((lastH_spec hlast).2 i o ho (by simpa using he) (hno i (by simp))) (hno i (by simp)) _ listed a w hcl (Region.free_spec ho h1.2) hr hy hS (held_soundH hs hQ hlo l hl hlast rest _ _ w (hcl.set hr) hno' h2 hS h3)

/-- As VC_held, but the last operations may be any that come in a forced order, behind all those that only read. -/
theorem VC_heldH {id : Nat} {l : List Oper} (o1 last : List Nat) (mask : List Bool) {Hc F : List HP} (hm : P.follows .mixedOrders = true)
    (hB : (Region.noSelect l.toArray && decide ((o1 ++ last).length = l.toArray.size) && lastH l.toArray last && (o1.all fun j => !last.contains j) && orderH l.toArray last o1 (Array.replicate l.toArray.size false)) = true)
    (hsp : Split mask H Hc F) {l1 l2 : List Oper} (hl1 : pickOps l o1 = l1) (hl2 : pickOps l last = l2) (h : VL P (some (some F)) n B w0 l.toArray (TailQ P l.toArray (Only Q) l2) l1 env Hc) : VC P n B w0 (.region id l.toArray true) Q env H := by
  simp only [Bool.and_eq_true, decide_eq_true_eq] at hB
  obtain ⟨⟨⟨⟨h1, h2⟩, h3⟩, h4⟩, h5⟩ := hB
  refine ⟨fun a w ha hw => wpR_mono (Q := Only Q) ?_ fun e a w h => by cases e <;> first | exact h | cases h⟩
  have hst : St B w0 (Hc ++ F) w.drew := (hw.perm (split_perm hsp)).drew
  have hr : wpHeld P l.toArray (TailQ P l.toArray (Only Q) l2) (St B w0 Hc) l1 a w.drew := h.run a ha w.drew hst
  rw [← hl1, ← hl2] at hr
  have := held_soundH (S := St B w0 Hc) h1 (fun c a w h => h) (by rintro ⟨_, _, h⟩; exact h) l rfl h3 o1 _ a w.drew (closed_none _ _) (fun j hj => by simpa using List.all_eq_true.1 h4 j hj) h5 hst.prefix_ hr
  rw [h2] at this
  exact wpR_any hm (wpAny_of_N _ _ _ _ this)
end
end Go.Eng
