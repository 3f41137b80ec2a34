/- An engine for walks: what is known of a frame is a list of slots, what is known of memory a list of separate pieces; one lemma an operation. Part 1: the notions, code, loops, calls. -/
import Derived.WalkKit
import Derived.Lib.Hide
import Derived.Deep.LoopGhost
import Derived.Deep.Quiet
import Derived.OrdersHeld
import Derived.KernelRfl
namespace Go.Eng
open Go.RowKit

theorem eq_ite_pos {α : Type} {c : Prop} [Decidable c] {x a b : α} (hc : c) (h : x = a) : x = if c then a else b := by rw [if_pos hc]; exact h
theorem eq_ite_neg {α : Type} {c : Prop} [Decidable c] {x a b : α} (hc : ¬ c) (h : x = b) : x = if c then a else b := by rw [if_neg hc]; exact h
theorem mul_bd {a b : Int} (h0 : 0 ≤ a) (h1 : a ≤ 1000000) (h2 : 0 ≤ b) (h3 : b ≤ 1000000000000) : -9223372036854775808 ≤ a * b ∧ a * b ≤ 9223372036854775807 := by
  have h4 : 0 ≤ a * b := Int.mul_nonneg h0 h2
  have h5 : a * b ≤ 1000000 * b := Int.mul_le_mul_of_nonneg_right h1 h2
  omega
theorem mul_bd' {a b : Int} (h0 : 0 ≤ b) (h1 : b ≤ 1000000) (h2 : 0 ≤ a) (h3 : a ≤ 1000000000000) : -9223372036854775808 ≤ a * b ∧ a * b ≤ 9223372036854775807 := by
  rw [Int.mul_comm]; exact mul_bd h0 h1 h2 h3

theorem mul_nn {a b : Int} (h0 : 0 ≤ a) (h1 : a ≤ 1000000) (h2 : 0 ≤ b) (h3 : b ≤ 1000000000000) : 0 ≤ a * b ∧ a * b ≤ 1000000000000000000 := by
  have h4 : 0 ≤ a * b := Int.mul_nonneg h0 h2
  have h5 : a * b ≤ 1000000 * b := Int.mul_le_mul_of_nonneg_right h1 h2
  omega

/-! ### Pieces of memory -/

structure HP where
  holds : (Nat → Prop) → World → Prop
  loc : ∀ {S : Nat → Prop} {w w' : World}, (∀ b, S b → w'.heap[b]? = w.heap[b]?) → holds S w → holds S w'

/-- Block g is just o. -/
def blk (g : Nat) (o : Obj) : HP := ⟨fun S w => S g ∧ w.heap[g]? = some o, fun h ⟨hs, hg⟩ => ⟨hs, (h _ hs).trans hg⟩⟩

def sepL : List HP → (Nat → Prop) → World → Prop
  | [], _, _ => True
  | A :: L, S, w => ∃ S1 S2 : Nat → Prop, (∀ b, S1 b → S b) ∧ (∀ b, S2 b → S b) ∧ (∀ b, S1 b → ¬ S2 b) ∧ A.holds S1 w ∧ sepL L S2 w

theorem sepL_mono {L : List HP} {S T : Nat → Prop} {w : World} (h : sepL L S w) (hs : ∀ b, S b → T b) : sepL L T w := by
  cases L with
  | nil => trivial
  | cons A L =>
    obtain ⟨S1, S2, h1, h2, h3, h4, h5⟩ := h
    exact ⟨S1, S2, fun b hb => hs b (h1 b hb), fun b hb => hs b (h2 b hb), h3, h4, h5⟩

theorem sepL_loc {L : List HP} : ∀ {S : Nat → Prop} {w w' : World}, sepL L S w → (∀ b, S b → w'.heap[b]? = w.heap[b]?) → sepL L S w' := by
  induction L with
  | nil => intros; trivial
  | cons A L ih =>
    intro S w w' h hs
    obtain ⟨S1, S2, h1, h2, h3, h4, h5⟩ := h
    exact ⟨S1, S2, h1, h2, h3, A.loc (fun b hb => hs b (h1 b hb)) h4, ih h5 (fun b hb => hs b (h2 b hb))⟩

theorem sepL_swap {A B : HP} {L : List HP} {S : Nat → Prop} {w : World} (h : sepL (A :: B :: L) S w) : sepL (B :: A :: L) S w := by
  obtain ⟨S1, S2, h1, h2, h3, h4, T1, T2, k1, k2, k3, k4, k5⟩ := h
  refine ⟨T1, fun b => S1 b ∨ T2 b, fun b hb => h2 b (k1 b hb), fun b hb => hb.elim (h1 b) (fun hb => h2 b (k2 b hb)), fun b hb hc => ?_, k4, S1, T2, fun b hb => .inl hb, fun b hb => .inr hb, fun b hb hc => h3 b hb (k2 b hc), h4, k5⟩
  rcases hc with hc | hc
  · exact h3 b hc (k1 b hb)
  · exact k3 b hb hc

theorem sepL_tail {A : HP} {L : List HP} {S : Nat → Prop} {w : World} (h : sepL (A :: L) S w) : sepL L S w := by
  obtain ⟨S1, S2, _, h2, _, _, h5⟩ := h
  exact sepL_mono h5 h2

/-- M follows from L, by an exchange of pieces. -/
structure Perm (L M : List HP) : Prop where
  go : ∀ (S : Nat → Prop) (w : World), sepL L S w → sepL M S w

theorem Perm.refl (L : List HP) : Perm L L := ⟨fun _ _ h => h⟩
theorem Perm.cons (A : HP) {L M : List HP} (p : Perm L M) : Perm (A :: L) (A :: M) := by
  refine ⟨fun S w h => ?_⟩
  obtain ⟨S1, S2, h1, h2, h3, h4, h5⟩ := h
  exact ⟨S1, S2, h1, h2, h3, h4, p.go _ _ h5⟩
theorem Perm.swap (A B : HP) (L : List HP) : Perm (A :: B :: L) (B :: A :: L) := ⟨fun _ _ => sepL_swap⟩
theorem Perm.trans {L M N : List HP} (p : Perm L M) (q : Perm M N) : Perm L N := ⟨fun _ _ h => q.go _ _ (p.go _ _ h)⟩

/-- The k-th piece moved to the front. -/
def front : Nat → List HP → List HP
  | 0, L => L
  | _, [] => []
  | k + 1, A :: L => match front k L with
    | [] => A :: L
    | B :: M => B :: A :: M

theorem perm_front : ∀ (k : Nat) (L : List HP), Perm L (front k L)
  | 0, L => .refl L
  | _ + 1, [] => .refl []
  | k + 1, A :: L => by
    have h := perm_front k L
    show Perm (A :: L) (match front k L with | [] => A :: L | B :: M => B :: A :: M)
    split
    · exact .refl _
    · rename_i B M e
      rw [e] at h
      exact .trans (.cons A h) (.swap A B M)

/-! ### The state of memory: below B as it was in w0; above it, the pieces. -/

structure St (B : Nat) (w0 : World) (H : List HP) (w : World) : Prop where
  below : Below B w0 w
  le : B ≤ w.heap.size
  sep : sepL H (fun b => B ≤ b ∧ b < w.heap.size) w

theorem St.start (w : World) : St w.heap.size w [] w := ⟨Below.refl _ _, Nat.le_refl _, trivial⟩
theorem St.perm {B : Nat} {w0 w : World} {H K : List HP} (h : St B w0 H w) (p : Perm H K) : St B w0 K w := ⟨h.below, h.le, p.go _ _ h.sep⟩
theorem St.front {B : Nat} {w0 w : World} {H : List HP} (h : St B w0 H w) (k : Nat) : St B w0 (Eng.front k H) w := h.perm (perm_front k H)
theorem St.tail {B : Nat} {w0 w : World} {A : HP} {H : List HP} (h : St B w0 (A :: H) w) : St B w0 H w := ⟨h.below, h.le, sepL_tail h.sep⟩

theorem sepL_at {L : List HP} {A : HP} (hA : A ∈ L) : ∀ {S : Nat → Prop} {w : World}, sepL L S w → ∃ S1 : Nat → Prop, (∀ b, S1 b → S b) ∧ A.holds S1 w := by
  induction L with
  | nil => cases hA
  | cons B L ih =>
    intro S w h
    obtain ⟨S1, S2, h1, h2, _, h4, h5⟩ := h
    rcases List.mem_cons.1 hA with e | e
    · subst e; exact ⟨S1, h1, h4⟩
    · obtain ⟨S3, h6, h7⟩ := ih e h5
      exact ⟨S3, fun b hb => h2 b (h6 b hb), h7⟩

theorem St.at_ {B : Nat} {w0 w : World} {H : List HP} {A : HP} (h : St B w0 H w) (hA : A ∈ H) : ∃ S1 : Nat → Prop, (∀ b, S1 b → B ≤ b ∧ b < w.heap.size) ∧ A.holds S1 w := sepL_at hA h.sep

theorem St.blk {B : Nat} {w0 w : World} {H : List HP} {g : Nat} {o : Obj} (h : St B w0 H w) (hA : blk g o ∈ H) : w.heap[g]? = some o ∧ B ≤ g ∧ g < w.heap.size := by
  obtain ⟨S1, h1, h2, h3⟩ := h.at_ hA
  exact ⟨h3, h1 g h2⟩

/-- Another world, in which nothing of memory has changed but that blocks came. -/
theorem St.grow {B : Nat} {w0 w w' : World} {H : List HP} (h : St B w0 H w) (k : Below w.heap.size w w') : St B w0 H w' :=
  ⟨h.below.trans (k.mono h.le), Nat.le_trans h.le k.size, sepL_mono (sepL_loc h.sep fun b hb => k.block b hb.2) fun _ hb => ⟨hb.1, Nat.lt_of_lt_of_le hb.2 k.size⟩⟩

theorem St.drew {B : Nat} {w0 w : World} {H : List HP} (h : St B w0 H w) : St B w0 H w.drew := h.grow (Below.refl _ _).drew

/-- A new block. -/
theorem St.alloc {B : Nat} {w0 w : World} {H : List HP} (h : St B w0 H w) (o : Obj) : St B w0 (Eng.blk w.heap.size o :: H) (w.alloc o) := by
  refine ⟨h.below.alloc h.le o, by have := h.le; simp; omega, fun b => b = w.heap.size, fun b => B ≤ b ∧ b < w.heap.size, ?_, ?_, ?_, ?_, ?_⟩
  · rintro b rfl; exact ⟨h.le, by simp⟩
  · rintro b ⟨h1, h2⟩; exact ⟨h1, by simp; omega⟩
  · rintro b rfl ⟨_, h2⟩; omega
  · exact ⟨rfl, heap_alloc_new w o⟩
  · exact sepL_loc h.sep fun b hb => Below.heap_alloc w o b hb.2

/-- M is L with one piece replaced. -/
def Upd (A A' : HP) (L M : List HP) : Prop := ∃ L1 L2, L = L1 ++ A :: L2 ∧ M = L1 ++ A' :: L2

theorem Upd.here {A A' : HP} (L : List HP) : Upd A A' (A :: L) (A' :: L) := ⟨[], L, rfl, rfl⟩
theorem Upd.there {A A' : HP} (X : HP) {L M : List HP} (u : Upd A A' L M) : Upd A A' (X :: L) (X :: M) := by
  obtain ⟨L1, L2, rfl, rfl⟩ := u
  exact ⟨X :: L1, L2, rfl, rfl⟩

theorem sepL_upd {A A' : HP} {w w' : World}
    (hA : ∀ S1 : Nat → Prop, A.holds S1 w → (∃ S' : Nat → Prop, A'.holds S' w' ∧ ∀ b, S' b → S1 b ∨ (w.heap.size ≤ b ∧ b < w'.heap.size)) ∧ ∀ b, ¬ S1 b → b < w.heap.size → w'.heap[b]? = w.heap[b]?) (L2 : List HP) :
    ∀ (L1 : List HP) {S : Nat → Prop}, (∀ b, S b → b < w.heap.size) → sepL (L1 ++ A :: L2) S w →
      ∃ S1 : Nat → Prop, (∀ b, S1 b → S b) ∧ A.holds S1 w ∧ sepL (L1 ++ A' :: L2) (fun b => S b ∨ (w.heap.size ≤ b ∧ b < w'.heap.size)) w'
  | [], S, hS, h => by
    obtain ⟨S1, S2, h1, h2, h3, h4, h5⟩ := h
    obtain ⟨⟨S', k1, k3⟩, k2⟩ := hA S1 h4
    refine ⟨S1, h1, h4, S', S2, fun b hb => (k3 b hb).elim (fun h => .inl (h1 b h)) .inr, fun b hb => .inl (h2 b hb), fun b hb hc => ?_, k1, sepL_loc h5 fun b hb => k2 b (fun hc => h3 b hc hb) (hS b (h2 b hb))⟩
    rcases k3 b hb with h | h
    · exact h3 b h hc
    · have := hS b (h2 b hc); omega
  | X :: L1, S, hS, h => by
    obtain ⟨S1, S2, h1, h2, h3, h4, h5⟩ := h
    obtain ⟨T, t1, t2, t3⟩ := sepL_upd hA L2 L1 (fun b hb => hS b (h2 b hb)) h5
    obtain ⟨_, k2⟩ := hA T t2
    refine ⟨T, fun b hb => h2 b (t1 b hb), t2, S1, _, fun b hb => .inl (h1 b hb), fun b hb => hb.elim (fun h => .inl (h2 b h)) .inr, fun b hb hc => ?_, X.loc (fun b hb => k2 b (fun hc => h3 b hb (t1 b hc)) (hS b (h1 b hb))) h4, t3⟩
    rcases hc with hc | hc
    · exact h3 b hb hc
    · have := hS b (h1 b hb); omega

/-- One piece is changed in its own blocks and in new ones. -/
theorem St.updN {B : Nat} {w0 w w' : World} {A A' : HP} {H K : List HP} (h : St B w0 H w) (u : Upd A A' H K)
    (hos : w'.os = w.os) (ht : w'.tape = w.tape) (hout : w'.output = w.output) (hsz : w.heap.size ≤ w'.heap.size)
    (hA : ∀ S1 : Nat → Prop, A.holds S1 w → (∃ S' : Nat → Prop, A'.holds S' w' ∧ ∀ b, S' b → S1 b ∨ (w.heap.size ≤ b ∧ b < w'.heap.size)) ∧ ∀ b, ¬ S1 b → b < w.heap.size → w'.heap[b]? = w.heap[b]?) : St B w0 K w' := by
  obtain ⟨L1, L2, rfl, rfl⟩ := u
  obtain ⟨S1, h1, h2, h3⟩ := sepL_upd hA L2 L1 (S := fun b => B ≤ b ∧ b < w.heap.size) (fun b hb => hb.2) h.sep
  obtain ⟨_, k2⟩ := hA S1 h2
  have hle := h.le
  refine ⟨⟨hos.trans h.below.os, ht.trans h.below.tape, hout.trans h.below.output, Nat.le_trans h.below.size hsz, fun b hb => ?_⟩, Nat.le_trans h.le hsz, sepL_mono h3 fun b hb => ?_⟩
  · rw [k2 b (fun hc => by have := (h1 b hc).1; omega) (Nat.lt_of_lt_of_le hb h.le), h.below.block b hb]
  · rcases hb with hb | hb
    · exact ⟨hb.1, Nat.lt_of_lt_of_le hb.2 hsz⟩
    · exact ⟨by omega, hb.2⟩

/-- One piece is changed in its own blocks alone, the world else only grows. -/
theorem St.upd {B : Nat} {w0 w w' : World} {A A' : HP} {H K : List HP} (h : St B w0 H w) (u : Upd A A' H K)
    (hos : w'.os = w.os) (ht : w'.tape = w.tape) (hout : w'.output = w.output) (hsz : w.heap.size ≤ w'.heap.size)
    (hA : ∀ S1 : Nat → Prop, A.holds S1 w → A'.holds S1 w' ∧ ∀ b, ¬ S1 b → b < w.heap.size → w'.heap[b]? = w.heap[b]?) : St B w0 K w' :=
  h.updN u hos ht hout hsz fun S1 hS => let ⟨k1, k2⟩ := hA S1 hS; ⟨⟨S1, k1, fun _ hb => .inl hb⟩, k2⟩

theorem St.setCell {B : Nat} {w0 w : World} {H K : List HP} {g i : Nat} {cs : Array Value} {t : TypeId} {fr : Nat × Nat} {v : Value} (h : St B w0 H w)
    (u : Upd (Eng.blk g (.cells cs t fr)) (Eng.blk g (.cells (cs.setIfInBounds i v) t fr)) H K) : St B w0 K (w.setCell ⟨g, i, none⟩ v) := by
  refine h.upd u rfl rfl rfl (by simp) fun S1 ⟨h1, h2⟩ => ⟨⟨h1, ?_⟩, fun b hb _ => Below.heap_setCell w _ v b (fun e => hb (e ▸ h1))⟩
  simp [World.setCell, Array.getElem?_modify, h2]

/-! ### Frames -/

abbrev Env := List (Nat × Value)

def get : Env → Nat → Option Value
  | [], _ => none
  | (s, v) :: e, t => if s = t then some v else get e t

def evo (env : Env) : Operand → Option Value
  | .tmp t => get env t
  | .const v => some v
  | .global g => some (.pointer (some ⟨g, 0, none⟩))
  | .func f => some (.func (.func f) #[] #[])

structure Fits (n : Nat) (a : Act) (env : Env) : Prop where
  defers : a.defers = []
  size : a.tmps.size = n
  slot : ∀ t v, get env t = some v → a.tmps[t]? = some v

theorem Fits.eval {n : Nat} {a : Act} {env : Env} (h : Fits n a env) {x : Operand} {v : Value} (hx : evo env x = some v) : a.eval x = v := by
  cases x with
  | tmp t => have := h.slot t v hx; simp [Act.eval, Array.getD_eq_getD_getElem?, this]
  | const c => exact Option.some.inj hx
  | global g => exact Option.some.inj hx
  | func f => exact Option.some.inj hx

theorem Fits.put {n : Nat} {a : Act} {env : Env} (h : Fits n a env) {d : Nat} (hd : d < n) (v : Value) : Fits n (a.put (some d) v) ((d, v) :: env) := by
  refine ⟨h.defers, by simp [Act.put, h.size], fun t u ht => ?_⟩
  by_cases e : d = t
  · subst e
    simp only [get, if_true, Option.some.injEq] at ht
    subst ht
    simp [Act.put, h.size, hd]
  · rw [get, if_neg e] at ht
    simp [Act.put, e, h.slot t u ht]

theorem Fits.sub {n : Nat} {a : Act} {env env' : Env} (h : Fits n a env) (hs : ∀ t v, get env' t = some v → get env t = some v) : Fits n a env' :=
  ⟨h.defers, h.size, fun t v ht => h.slot t v (hs t v ht)⟩

/-! ### What is to be shown of code -/

structure VQ (n B : Nat) (w0 : World) (Q : Exit → Act → World → Prop) (e : Exit) (env : Env) (H : List HP) : Prop where
  run : ∀ a w, Fits n a env → St B w0 H w → Q e a w

structure VC (P : Program) (n B : Nat) (w0 : World) (c : Code) (Q : Exit → Act → World → Prop) (env : Env) (H : List HP) : Prop where
  run : ∀ a w, Fits n a env → St B w0 H w → c.wp P Q a w

/-- Operations that may change memory, or run other code. -/
def eff (o : Oper) : Bool :=
  match o.op with
  | .move _ | .assign _ | .pick _ _ _ | .build _ _ | .load _ _ | .nilCheck _ | .binOp _ _ _ _ _ | .unOp _ _ _ | .slice _ _ _ _ _ | .fieldAddr _ _ _ | .field _ _ _ | .indexAddr _ _ _ | .index _ _ _ | .lookup _ _ _ _ | .extract _ _ => false
  | .call ⟨.builtin .len, _, _⟩ | .call ⟨.builtin .min, _, _⟩ | .call ⟨.builtin .max, _, _⟩ | .call ⟨.builtin .cap, _, _⟩ => false
  | .convert _ _ _ => false
  | _ => true

/-- A walk through a region that draws its order: what only reads is taken as soon as it may come up; S holds behind each operation. -/
def wpHeld (P : Program) (ops : Array Oper) (Q : Exit → Act → World → Prop) (S : World → Prop) : List Oper → Act → World → Prop
  | [], a, w => Q .normal a w
  | o :: rest, a, w =>
    if eff o then
      (if Region.wanted o (yielded ops a.tmps) then o.wp P a w (fun a' w' => S w' ∧ wpHeld P ops Q S rest a' w') Q else wpHeld P ops Q S rest (a.put o.dst undef) w)
    else ∃ v, YieldsIf P ops S o v a ∧ wpHeld P ops Q S rest (a.put o.dst v) w

/-- How a region's operations are walked: none: in the order of the text; some none: in every order, nothing being written; some (some F): in every order, the pieces F beside being written. -/
abbrev Mode := Option (Option (List HP))

/-- What one walk of a region's operations shows. -/
def VLrun (P : Program) (m : Mode) (B : Nat) (w0 : World) (ops : Array Oper) (Q : Exit → Act → World → Prop) (l : List Oper) (a : Act) (H : List HP) : Prop :=
  match m with
  | none => ∀ w, St B w0 H w → wpList P ops Q l a w
  | some none => wpQuiet P ops (St B w0 H) (fun a' => ∀ w, St B w0 H w → Q .normal a' w) l a
  | some (some F) => ∀ w, St B w0 (H ++ F) w → wpHeld P ops Q (St B w0 H) l a w

structure VL (P : Program) (m : Mode) (n B : Nat) (w0 : World) (ops : Array Oper) (Q : Exit → Act → World → Prop) (l : List Oper) (env : Env) (H : List HP) : Prop where
  run : ∀ a, Fits n a env → VLrun P m B w0 ops Q l a H

/-- How a call ends: it returns v and leaves the pieces H', of which Φ holds. -/
def Post (B : Nat) (w0 : World) (Φ : Value → List HP → Prop) (e : Ending) (w : World) : Prop := ∃ v H, e = .returned v ∧ St B w0 H w ∧ Φ v H

section
variable {P : Program} {n B : Nat} {w0 : World} {Q : Exit → Act → World → Prop} {env : Env} {H : List HP}

theorem VC_seq {x y : Code} (h : VC P n B w0 x (Exit.then (y.wp P Q) Q) env H) : VC P n B w0 (.seq x y) Q env H := ⟨fun a w ha hw => wp_seq (h.run a w ha hw)⟩
theorem VC_block {id : Nat} {c : Code} (h : VC P n B w0 c (Exit.inBlock id Q) env H) : VC P n B w0 (.block id c) Q env H := ⟨fun a w ha hw => wp_block (h.run a w ha hw)⟩
theorem VC_skip (h : VQ n B w0 Q .normal env H) : VC P n B w0 .skip Q env H := ⟨fun a w ha hw => wp_skip (h.run a w ha hw)⟩
theorem VC_label {l : Nat} (h : VQ n B w0 Q .normal env H) : VC P n B w0 (.label l) Q env H := ⟨fun a w ha hw => wp_label (h.run a w ha hw)⟩
theorem VC_ret (h : VQ n B w0 Q .ret env H) : VC P n B w0 .ret Q env H := ⟨fun a w ha hw => wp_ret (h.run a w ha hw)⟩
theorem VC_exit {id : Nat} (h : VQ n B w0 Q (.exit id) env H) : VC P n B w0 (.exit id) Q env H := ⟨fun a w ha hw => wp_exit (h.run a w ha hw)⟩
theorem VC_cond_true {c : Operand} {x y : Code} (hc : evo env c = some (.bool true)) (h : VC P n B w0 x Q env H) : VC P n B w0 (.cond c x y) Q env H :=
  ⟨fun a w ha hw => wp_cond_true (ha.eval hc) (h.run a w ha hw)⟩
theorem VC_cond_false {c : Operand} {x y : Code} (hc : evo env c = some (.bool false)) (h : VC P n B w0 y Q env H) : VC P n B w0 (.cond c x y) Q env H :=
  ⟨fun a w ha hw => wp_cond_false (ha.eval hc) (h.run a w ha hw)⟩
theorem VC_cond {c : Operand} {x y : Code} {b : Bool} (hc : evo env c = some (.bool b)) (h1 : b = true → VC P n B w0 x Q env H) (h2 : b = false → VC P n B w0 y Q env H) : VC P n B w0 (.cond c x y) Q env H :=
  ⟨fun a w ha hw => wp_cond_split (ha.eval hc) (fun e => (h1 e).run a w ha hw) (fun e => (h2 e).run a w ha hw)⟩
theorem VC_region {id : Nat} {l : List Oper} (h : VL P none n B w0 l.toArray Q l env H) : VC P n B w0 (.region id l.toArray false) Q env H := ⟨fun a w ha hw => wp_region_lit (h.run a ha w hw)⟩
/-- A region that draws its order, and writes nothing. -/
theorem VC_draw {id : Nat} {l : List Oper} (hm : P.follows .mixedOrders = true) (hB : Region.lexB .any l.toArray = true) (h : VL P (some none) n B w0 l.toArray Q l env H) : VC P n B w0 (.region id l.toArray true) Q env H :=
  ⟨fun a _ ha hw => wp_region_quiet (C := St B w0 H) hm hB (hw.drew) (by rw [List.toList_toArray]; exact h.run a ha)⟩

theorem VQ_then {y : Code} (h : VC P n B w0 y Q env H) : VQ n B w0 (Exit.then (y.wp P Q) Q) .normal env H := ⟨fun a w ha hw => h.run a w ha hw⟩
theorem VQ_then_ret {K : Act → World → Prop} (h : VQ n B w0 Q .ret env H) : VQ n B w0 (Exit.then K Q) .ret env H := ⟨fun a w ha hw => h.run a w ha hw⟩
theorem VQ_then_exit {K : Act → World → Prop} {id : Nat} (h : VQ n B w0 Q (.exit id) env H) : VQ n B w0 (Exit.then K Q) (.exit id) env H := ⟨fun a w ha hw => h.run a w ha hw⟩
theorem VQ_block_normal {id : Nat} (h : VQ n B w0 Q .normal env H) : VQ n B w0 (Exit.inBlock id Q) .normal env H := ⟨fun a w ha hw => h.run a w ha hw⟩
theorem VQ_block_ret {id : Nat} (h : VQ n B w0 Q .ret env H) : VQ n B w0 (Exit.inBlock id Q) .ret env H := ⟨fun a w ha hw => h.run a w ha hw⟩
theorem VQ_block_exit {id : Nat} (h : VQ n B w0 Q .normal env H) : VQ n B w0 (Exit.inBlock id Q) (.exit id) env H :=
  ⟨fun a w ha hw => by simp only [Exit.inBlock, if_true]; exact h.run a w ha hw⟩
theorem VQ_block_other {id id' : Nat} (hne : Nat.beq id' id = false) (h : VQ n B w0 Q (.exit id') env H) : VQ n B w0 (Exit.inBlock id Q) (.exit id') env H :=
  ⟨fun a w ha hw => by simp only [Exit.inBlock, if_neg (Nat.ne_of_beq_eq_false hne)]; exact h.run a w ha hw⟩

/-- What a round hands on. -/
def Next {α : Type} (n B : Nat) (w0 : World) (E : α → Env) (HH : α → List HP) (I : α → Prop) (μ : α → Nat) (x : α) (a : Act) (w : World) : Prop :=
  ∃ y, I y ∧ μ y < μ x ∧ Fits n a (E y) ∧ St B w0 (HH y) w

/-- A loop: x is what changes from round to round. -/
theorem VC_loop {α : Type} (E : α → Env) (HH : α → List HP) (I : α → Prop) (μ : α → Nat) {c : Code} (x0 : α) (h0 : I x0)
    (he : ∀ t v, get (E x0) t = some v → get env t = some v) (hH : ∀ w, St B w0 H w → St B w0 (HH x0) w)
    (round : ∀ x, I x → VC P n B w0 c (Exit.then (Next n B w0 E HH I μ x) Q) (E x) (HH x)) : VC P n B w0 (.loop c) Q env H := by
  refine ⟨fun a w ha hw => wp_loop_ghost (fun k a w => ∃ x, μ x = k ∧ I x ∧ Fits n a (E x) ∧ St B w0 (HH x) w) (μ x0) ⟨x0, rfl, h0, ha.sub he, hH w hw⟩ ?_⟩
  rintro k a w ⟨x, rfl, hx, ha, hw⟩
  refine wp_mono ((round x hx).run a w ha hw) ?_
  intro e a w hq
  cases e with
  | normal => obtain ⟨y, h1, h2, h3, h4⟩ := hq; exact ⟨μ y, h2, y, rfl, h1, h3, h4⟩
  | exit id => exact hq
  | goto l => exact hq
  | ret => exact hq
  | panic ch => exact hq
  | outgrown => exact hq

theorem VQ_round {α : Type} {E : α → Env} {HH : α → List HP} {I : α → Prop} {μ : α → Nat} {x : α} (y : α) (hI : I y) (hμ : μ y < μ x)
    (he : ∀ t v, get (E y) t = some v → get env t = some v) (hH : ∀ w, St B w0 H w → St B w0 (HH y) w) : VQ n B w0 (Exit.then (Next n B w0 E HH I μ x) Q) .normal env H :=
  ⟨fun _ w ha hw => ⟨y, hI, hμ, ha.sub he, hH w hw⟩⟩

theorem sub_nil (env : Env) : ∀ t v, get [] t = some v → get env t = some v := fun _ _ h => by cases h
theorem sub_cons {env e : Env} {t : Nat} {v : Value} (h : get env t = some v) (he : ∀ t v, get e t = some v → get env t = some v) : ∀ t' v', get ((t, v) :: e) t' = some v' → get env t' = some v' := by
  intro t' v' h'
  by_cases e' : t = t'
  · subst e'; rw [get, if_pos rfl] at h'; rw [← h']; exact h
  · rw [get, if_neg e'] at h'; exact he _ _ h'

/-- Forget slots. -/
theorem VC_sub {c : Code} (env' : Env) (he : ∀ t v, get env' t = some v → get env t = some v) (h : VC P n B w0 c Q env' H) : VC P n B w0 c Q env H := ⟨fun a w ha hw => h.run a w (ha.sub he) hw⟩
/-- Other pieces. -/
theorem VC_st {c : Code} (H' : List HP) (hH : ∀ w, St B w0 H w → St B w0 H' w) (h : VC P n B w0 c Q env H') : VC P n B w0 c Q env H := ⟨fun a w ha hw => h.run a w ha (hH w hw)⟩
theorem VL_forget {m : Mode} {ops : Array Oper} {l : List Oper} (env' : Env) (he : ∀ t v, get env' t = some v → get env t = some v) (h : VL P m n B w0 ops Q l env' H) : VL P m n B w0 ops Q l env H := ⟨fun a ha => h.run a (ha.sub he)⟩
theorem VL_st {ops : Array Oper} {l : List Oper} (H' : List HP) (hH : ∀ w, St B w0 H w → St B w0 H' w) (h : VL P none n B w0 ops Q l env H') : VL P none n B w0 ops Q l env H := ⟨fun a ha w hw => h.run a ha w (hH w hw)⟩

theorem VQ_tail {e : Exit} {A : HP} (h : VQ n B w0 Q e env H) : VQ n B w0 Q e env (A :: H) := ⟨fun a w ha hw => h.run a w ha hw.tail⟩
theorem VQ_st {e : Exit} (H' : List HP) (hH : ∀ w, St B w0 H w → St B w0 H' w) (h : VQ n B w0 Q e env H') : VQ n B w0 Q e env H := ⟨fun a w ha hw => h.run a w ha (hH w hw)⟩

/-! ### Entering and leaving a function -/

def argEnv : Nat → List Value → Env
  | _, [] => []
  | i, v :: l => (i, v) :: argEnv (i + 1) l

theorem get_argEnv : ∀ (l : List Value) (i t : Nat) (v : Value), get (argEnv i l) t = some v → i ≤ t ∧ l[t - i]? = some v
  | [], i, t, v, h => by cases h
  | u :: l, i, t, v, h => by
    by_cases e : i = t
    · subst e; rw [argEnv, get, if_pos rfl] at h; simp at h; simp [h]
    · rw [argEnv, get, if_neg e] at h
      obtain ⟨h1, h2⟩ := get_argEnv l (i + 1) t v h
      refine ⟨by omega, ?_⟩
      rw [show t - i = (t - (i + 1)) + 1 by omega]
      simpa using h2

theorem Calls_of_VC {f : FuncId} {fn : Func} {c : Code} {args : List Value} {w : World} {Φ : Value → List HP → Prop} (hf : P.funcs[f]? = some fn) (hn : fn.ntmps = n) (hb : fn.body = some c)
    (hle : Nat.ble args.length n = true) (hw : St B w0 H w) (h : VC P n B w0 c (bodyPost P fn (Post B w0 Φ)) (argEnv 0 args) H) : Calls P f args.toArray w (Post B w0 Φ) := by
  refine calls_of_wp hf hb (h.run _ w ⟨rfl, ?_, fun t v ht => ?_⟩ hw)
  · have := Nat.le_of_ble_eq_true hle; simp; omega
  · obtain ⟨_, h2⟩ := get_argEnv args 0 t v ht
    rw [Nat.sub_zero] at h2
    have hlt : t < args.length := by
      rcases Nat.lt_or_ge t args.length with h | h
      · exact h
      · rw [List.getElem?_eq_none h] at h2; cases h2
    rw [Array.getElem?_append_left (by simpa using hlt)]
    simpa using h2

theorem VQ_ret1 {fn : Func} {Φ : Value → List HP → Prop} {t : Nat} {v : Value} (hr : fn.results = #[.tmp t]) (hv : get env t = some v) (h : Φ v H) : VQ n B w0 (bodyPost P fn (Post B w0 Φ)) .ret env H :=
  ⟨fun a w ha hw => bodyPost_ret (results_tmp hr _ _ _) ha.defers ⟨v, H, by rw [Array.getD_eq_getD_getElem?, ha.slot t v hv]; rfl, hw, h⟩⟩
theorem VQ_ret2 {fn : Func} {Φ : Value → List HP → Prop} {t u : Nat} {v x : Value} (hr : fn.results = #[.tmp t, .tmp u]) (hv : get env t = some v) (hx : get env u = some x) (h : Φ (.tuple #[v, x]) H) :
    VQ n B w0 (bodyPost P fn (Post B w0 Φ)) .ret env H :=
  ⟨fun a w ha hw => bodyPost_ret (results_tmp2 hr _ _ _) ha.defers ⟨_, H, by rw [Array.getD_eq_getD_getElem?, Array.getD_eq_getD_getElem?, ha.slot t v hv, ha.slot u x hx]; rfl, hw, h⟩⟩
theorem VQ_ret3 {fn : Func} {Φ : Value → List HP → Prop} {t u s : Nat} {v x y : Value} (hr : fn.results = #[.tmp t, .tmp u, .tmp s]) (hv : get env t = some v) (hx : get env u = some x) (hy : get env s = some y) (h : Φ (.tuple #[v, x, y]) H) :
    VQ n B w0 (bodyPost P fn (Post B w0 Φ)) .ret env H :=
  ⟨fun a w ha hw => bodyPost_ret (v := .tuple #[v, x, y]) (by simp [results, hr, Array.getD_eq_getD_getElem?, ha.slot t v hv, ha.slot u x hx, ha.slot s y hy]) ha.defers ⟨_, H, rfl, hw, h⟩⟩
theorem VQ_end0 {fn : Func} {Φ : Value → List HP → Prop} (hr : fn.results = #[]) (h : Φ (.tuple #[]) H) : VQ n B w0 (bodyPost P fn (Post B w0 Φ)) .normal env H :=
  ⟨fun _ _ ha hw => bodyPost_end (results_none hr _ _ _) ha.defers ⟨_, H, rfl, hw, h⟩⟩
theorem VQ_ret0 {fn : Func} {Φ : Value → List HP → Prop} (hr : fn.results = #[]) (h : Φ (.tuple #[]) H) : VQ n B w0 (bodyPost P fn (Post B w0 Φ)) .ret env H :=
  ⟨fun _ _ ha hw => bodyPost_ret (results_none hr _ _ _) ha.defers ⟨_, H, rfl, hw, h⟩⟩

/-! ### Operations: the general laws -/

variable {ops : Array Oper} {rest : List Oper}

theorem VL_nil (h : VQ n B w0 Q .normal env H) : VL P none n B w0 ops Q [] env H := ⟨fun a ha w hw => wpList_nil (h.run a w ha hw)⟩
theorem VL_nilq (h : VQ n B w0 Q .normal env H) : VL P (some none) n B w0 ops Q [] env H := ⟨fun a ha => show ∀ w, St B w0 H w → Q .normal a w from fun w hw => h.run a w ha hw⟩

theorem VL_opE {o : Oper} {d : Nat} (Φ : Value → List HP → Prop) (hg : o.guard = none) (hd : o.dst = some d) (hn : Nat.ble (d + 1) n = true)
    (hr : ∀ a w, Fits n a env → St B w0 H w → ∃ v H' w', (execOp a.eval o).run P w = .ok (.value v) w' ∧ St B w0 H' w' ∧ Φ v H')
    (h : ∀ v H', Φ v H' → VL P none n B w0 ops Q rest ((d, v) :: env) H') : VL P none n B w0 ops Q (o :: rest) env H := by
  refine ⟨fun a ha w hw => wpList_plain hg fun K hK => ?_⟩
  obtain ⟨v, H', w', hrun, hst, hΦ⟩ := hr a w ha hw
  unfold Oper.wp
  rw [hrun, Oper.upon_value, hd]
  exact hK _ _ ((h v H' hΦ).run _ (ha.put (Nat.le_of_ble_eq_true hn) v) _ hst)

theorem VL_op {o : Oper} {d : Nat} {v : Value} {H' : List HP} (hg : o.guard = none) (hd : o.dst = some d) (hn : Nat.ble (d + 1) n = true)
    (hr : ∀ a w, Fits n a env → St B w0 H w → ∃ w', (execOp a.eval o).run P w = .ok (.value v) w' ∧ St B w0 H' w')
    (h : VL P none n B w0 ops Q rest ((d, v) :: env) H') : VL P none n B w0 ops Q (o :: rest) env H :=
  VL_opE (fun u K => u = v ∧ K = H') hg hd hn (fun a w ha hw => let ⟨w', h1, h2⟩ := hr a w ha hw; ⟨v, H', w', h1, h2, rfl, rfl⟩) (by rintro _ _ ⟨rfl, rfl⟩; exact h)

theorem yields_held {o : Oper} {a : Act} {w : World} {v : Value} (hne : eff o = false) (hy : YieldsIf P ops (St B w0 H) o v a) (h : wpHeld P ops Q (St B w0 H) rest (a.put o.dst v) w) :
    wpHeld P ops Q (St B w0 H) (o :: rest) a w := by
  unfold wpHeld
  rw [if_neg (by rw [hne]; simp)]
  exact ⟨v, hy, h⟩

/-- An operation that leaves the world alone. -/
theorem VL_pure {m : Mode} {o : Oper} {d : Nat} {v : Value} (hg : o.guard = none) (hd : o.dst = some d) (hn : Nat.ble (d + 1) n = true) (hne : eff o = false)
    (hr : ∀ a w, Fits n a env → St B w0 H w → (execOp a.eval o).run P w = .ok (.value v) w)
    (h : VL P m n B w0 ops Q rest ((d, v) :: env) H) : VL P m n B w0 ops Q (o :: rest) env H := by
  match m with
  | none => exact VL_op hg hd hn (fun a w ha hw => ⟨w, hr a w ha hw, hw⟩) h
  | some none =>
    refine ⟨fun a ha => wpQuiet_step fun K hK => ?_⟩
    rw [if_pos (by simp [Region.wanted, hg])]
    refine ⟨v, fun w hw => ?_, hK _ ?_⟩
    · unfold Oper.quietAt; rw [hr a w ha hw]; exact ⟨rfl, rfl⟩
    · rw [hd]; exact h.run _ (ha.put (Nat.le_of_ble_eq_true hn) v)
  | some (some F) =>
    refine ⟨fun a ha w hw => yields_held hne (.inl ⟨by simp [Region.wanted, hg], fun w' hw' => hr a w' ha hw'⟩) ?_⟩
    rw [hd]; exact h.run _ (ha.put (Nat.le_of_ble_eq_true hn) v) w hw

/-- An operation without a value. -/
theorem VL_skip {o : Oper} {H' : List HP} (hg : o.guard = none) (hd : o.dst = none)
    (hr : ∀ a w, Fits n a env → St B w0 H w → ∃ w', (execOp a.eval o).run P w = .ok .skip w' ∧ St B w0 H' w')
    (h : VL P none n B w0 ops Q rest env H') : VL P none n B w0 ops Q (o :: rest) env H := by
  refine ⟨fun a ha w hw => wpList_plain hg fun K hK => ?_⟩
  obtain ⟨w', hrun, hst⟩ := hr a w ha hw
  unfold Oper.wp
  rw [hrun, Oper.upon_skip, hd]
  exact hK _ _ (h.run _ ha _ hst)

theorem VL_guard_yes {m : Mode} {dst : Option Tmp} {op : Op} {ty : TypeId} {pos : String} {after : Array Edge} {j s : Nat} {b : Bool} {oj : Oper} (hj : ops[j]? = some oj) (hs : oj.dst = some s)
    (hv : get env s = some (.bool b)) (h : VL P m n B w0 ops Q (⟨dst, op, ty, pos, after, none⟩ :: rest) env H) : VL P m n B w0 ops Q (⟨dst, op, ty, pos, after, some (j, b)⟩ :: rest) env H := by
  have hy : ∀ a : Act, Fits n a env → Region.wanted ⟨dst, op, ty, pos, after, some (j, b)⟩ (yielded ops a.tmps) = true := fun a ha => by simp [Region.wanted, yielded, hj, hs, ha.slot s _ hv]
  match m with
  | none =>
    refine ⟨fun a ha w hw => ?_⟩
    have h1 := h.run a ha w hw
    unfold wpList at h1 ⊢
    rw [if_pos (by rfl)] at h1
    rw [if_pos (hy a ha)]
    exact h1
  | some none =>
    refine ⟨fun a ha => ?_⟩
    have h1 := h.run a ha
    unfold VLrun wpQuiet at h1 ⊢
    simp only at h1 ⊢
    rw [if_pos (by rfl)] at h1
    rw [if_pos (hy a ha)]
    exact h1
  | some (some F) =>
    refine ⟨fun a ha w hw => ?_⟩
    have h1 := h.run a ha w hw
    unfold wpHeld at h1 ⊢
    have he : eff ⟨dst, op, ty, pos, after, some (j, b)⟩ = eff ⟨dst, op, ty, pos, after, none⟩ := rfl
    rw [he]
    by_cases hef : eff ⟨dst, op, ty, pos, after, none⟩ = true
    · rw [if_pos hef] at h1 ⊢
      rw [if_pos (by rfl)] at h1
      rw [if_pos (hy a ha)]
      exact h1
    · rw [if_neg hef] at h1 ⊢
      obtain ⟨v, hyi, h2⟩ := h1
      refine ⟨v, ?_, h2⟩
      rcases hyi with ⟨_, h3⟩ | ⟨h3, _⟩
      · exact .inl ⟨hy a ha, h3⟩
      · cases h3

/-- v is not the bool b. -/
def notB (v : Value) (b : Bool) : Bool :=
  match v with
  | .bool c => c != b
  | _ => true

theorem VL_guard_no {m : Mode} {d : Nat} {op : Op} {ty : TypeId} {pos : String} {after : Array Edge} {j s : Nat} {b : Bool} {v : Value} {oj : Oper} (hj : ops[j]? = some oj) (hs : oj.dst = some s)
    (hv : get env s = some v) (hne : notB v b = true) (hn : Nat.ble (d + 1) n = true)
    (h : VL P m n B w0 ops Q rest ((d, undef) :: env) H) : VL P m n B w0 ops Q (⟨some d, op, ty, pos, after, some (j, b)⟩ :: rest) env H := by
  have hy : ∀ a : Act, Fits n a env → Region.wanted ⟨some d, op, ty, pos, after, some (j, b)⟩ (yielded ops a.tmps) = false := by
    intro a ha
    have hsl := ha.slot s _ hv
    cases v <;> simp [Region.wanted, yielded, hj, hs, hsl]
    rename_i c
    cases b <;> cases c <;> simp_all [notB]
  match m with
  | none => exact ⟨fun a ha w hw => wpList_skip (hy a ha) (h.run _ (ha.put (Nat.le_of_ble_eq_true hn) _) w hw)⟩
  | some none =>
    refine ⟨fun a ha => ?_⟩
    have h1 := h.run _ (ha.put (Nat.le_of_ble_eq_true hn) undef)
    unfold VLrun wpQuiet at h1 ⊢
    simp only at h1 ⊢
    rw [if_neg (by rw [hy a ha]; simp)]
    unfold wpQuiet
    exact h1
  | some (some F) =>
    refine ⟨fun a ha w hw => ?_⟩
    have h1 := h.run _ (ha.put (Nat.le_of_ble_eq_true hn) undef) w hw
    by_cases hef : eff ⟨some d, op, ty, pos, after, some (j, b)⟩ = true
    · unfold wpHeld
      rw [if_pos hef, if_neg (by rw [hy a ha]; simp)]
      exact h1
    · exact yields_held (by simpa using hef) (.inr ⟨hy a ha, rfl⟩) h1

/-- A region that draws its order, whose operations only read. -/
theorem VC_drawp {id : Nat} {l : List Oper} (hq : (l.all fun o => !eff o) = true) (hm : P.follows .mixedOrders = true) (hB : Region.lexB .any l.toArray = true) (h : VL P (some none) n B w0 l.toArray Q l env H) : VC P n B w0 (.region id l.toArray true) Q env H :=
  VC_draw hm (by have := hq; exact hB) h

/-- The operands are these values. -/
def Args (env : Env) : List Operand → List Value → Prop
  | [], [] => True
  | x :: l, v :: vs => evo env x = some v ∧ Args env l vs
  | _, _ => False
theorem args_nil {env : Env} : Args env [] [] := trivial
theorem args_cons {env : Env} {x : Operand} {v : Value} {l : List Operand} {vs : List Value} (h : evo env x = some v) (hl : Args env l vs) : Args env (x :: l) (v :: vs) := ⟨h, hl⟩

theorem map_evo {n : Nat} {a : Act} {env : Env} (ha : Fits n a env) : ∀ (l : List Operand) (us : List Value), Args env l us → l.map a.eval = us
  | [], [], _ => rfl
  | [], _ :: _, h => h.elim
  | _ :: _, [], h => h.elim
  | x :: l, u :: us, h => by rw [List.map_cons, ha.eval h.1, map_evo ha l us h.2]

theorem run_call {a : Act} (ha : Fits n a env) {d f : Nat} {args : List Operand} {tys : Array TypeId} {ty : TypeId} {pos : String} {after : Array Edge} {vs : List Value}
    (hc : ∀ xs w, (callFunc f xs).run P w = .ok (.enter f xs) w) (hargs : Args env args vs) (w : World) :
    (execOp a.eval ⟨some d, .call ⟨.value (.func f), args.toArray, tys⟩, ty, pos, after, none⟩).run P w = .ok (.enter f vs.toArray) w := by
  have hmap : args.toArray.map a.eval = vs.toArray := by rw [List.map_toArray, map_evo ha _ _ hargs]
  simp only [execOp, resolve, Act.eval, hmap, Deferred.ofValue, Sem.run_bind, Sem.run_pure, Result.andThen_ok, invoke]
  simpa using hc (vs.toArray) w

/-- A call of a Go function by its contract. -/
theorem VL_call {d f : Nat} {args : List Operand} {tys : Array TypeId} {ty : TypeId} {pos : String} {after : Array Edge} {vs : List Value} (Φ : Value → List HP → Prop)
    (hc : ∀ xs w, (callFunc f xs).run P w = .ok (.enter f xs) w) (hargs : Args env args vs) (hn : Nat.ble (d + 1) n = true)
    (hcall : ∀ w, St B w0 H w → Calls P f vs.toArray w (Post B w0 Φ))
    (h : ∀ v H', Φ v H' → VL P none n B w0 ops Q rest ((d, v) :: env) H') :
    VL P none n B w0 ops Q (⟨some d, .call ⟨.value (.func f), args.toArray, tys⟩, ty, pos, after, none⟩ :: rest) env H := by
  refine ⟨fun a ha w hw => wpList_plain rfl fun K hK => ?_⟩
  unfold Oper.wp
  rw [run_call ha hc hargs, Oper.upon_enter]
  refine (hcall w hw).mono ?_
  rintro e w' ⟨v, H', rfl, hst, hΦ⟩
  exact hK _ _ ((h v H' hΦ).run _ (ha.put (Nat.le_of_ble_eq_true hn) v) _ hst)

/-- A call that hands back one value, and leaves the pieces as they were. -/
theorem VL_callt {d f : Nat} {args : List Operand} {tys : Array TypeId} {ty : TypeId} {pos : String} {after : Array Edge} {vs : List Value} {v : Value}
    (hc : ∀ xs w, (callFunc f xs).run P w = .ok (.enter f xs) w) (hargs : Args env args vs) (hn : Nat.ble (d + 1) n = true)
    (hcall : ∀ w, St B w0 H w → Calls P f vs.toArray w (Post B w0 fun u K => u = v ∧ K = H))
    (h : VL P none n B w0 ops Q rest ((d, v) :: env) H) :
    VL P none n B w0 ops Q (⟨some d, .call ⟨.value (.func f), args.toArray, tys⟩, ty, pos, after, none⟩ :: rest) env H :=
  VL_call _ hc hargs hn hcall (by rintro _ _ ⟨rfl, rfl⟩; exact h)

/-- The same in every order. -/
theorem VL_callq {d f : Nat} {args : List Operand} {tys : Array TypeId} {ty : TypeId} {pos : String} {after : Array Edge} {vs : List Value} {v : Value}
    (hc : ∀ xs w, (callFunc f xs).run P w = .ok (.enter f xs) w) (hargs : Args env args vs) (hn : Nat.ble (d + 1) n = true)
    (hcall : ∀ w, St B w0 H w → Calls P f vs.toArray w (Post B w0 fun u K => u = v ∧ K = H))
    (h : VL P (some none) n B w0 ops Q rest ((d, v) :: env) H) :
    VL P (some none) n B w0 ops Q (⟨some d, .call ⟨.value (.func f), args.toArray, tys⟩, ty, pos, after, none⟩ :: rest) env H := by
  refine ⟨fun a ha => wpQuiet_step fun K hK => ?_⟩
  rw [if_pos (by simp [Region.wanted])]
  refine ⟨v, fun w hw => ?_, hK _ ?_⟩
  · unfold Oper.quietAt
    rw [run_call ha hc hargs]
    refine ⟨rfl, (hcall w hw).mono ?_⟩
    rintro e w' ⟨_, _, rfl, hst, rfl, rfl⟩
    exact ⟨rfl, hst⟩
  · exact h.run _ (ha.put (Nat.le_of_ble_eq_true hn) v)

/-! ### Regions that draw their order and write -/

/-- Whether operation i must come before operation j. -/
def ancB (ops : Array Oper) : Nat → Nat → Nat → Bool
  | 0, _, _ => false
  | f + 1, j, i => match ops[j]? with
    | some oj => oj.after.any fun e => Region.binds .any e && (e.on == i || ancB ops f e.on i)
    | none => false

/-- Whatever is listed, what must come before it is listed, too. -/
def Closed (ops : Array Oper) (listed : Array Bool) : Prop :=
  ∀ j oj, ops[j]? = some oj → listed.getD j false = true → ∀ e ∈ oj.after, Region.binds .any e = true → listed.getD e.on false = true

theorem Closed.set {ops : Array Oper} {listed : Array Bool} (h : Closed ops listed) {j : Nat} (hj : j ∈ Region.ready .any ops listed) : Closed ops (listed.setIfInBounds j true) := by
  obtain ⟨_, oj, hoj, hall⟩ := mem_ready.1 hj
  intro k ok hk hl e he hb
  by_cases hkj : j = k
  · subst hkj
    obtain rfl : ok = oj := Option.some.inj (hk.symm.trans hoj)
    exact getD_set_true (hall e he hb)
  · rw [getD_set_ne false hkj] at hl
    exact getD_set_true (h k ok hk hl e he hb)

theorem anc_listed {ops : Array Oper} {listed : Array Bool} (h : Closed ops listed) : ∀ (f j i : Nat), (∀ oj, ops[j]? = some oj → ∀ e ∈ oj.after, Region.binds .any e = true → listed.getD e.on false = true) → ancB ops f j i = true → listed.getD i false = true
  | 0, _, _, _, ha => by cases ha
  | f + 1, j, i, hp, ha => by
    unfold ancB at ha
    cases ho : ops[j]? with
    | none => rw [ho] at ha; cases ha
    | some oj =>
      rw [ho] at ha
      obtain ⟨e, he, hb⟩ := Array.any_eq_true'.1 ha
      simp only [Bool.and_eq_true, Bool.or_eq_true, beq_iff_eq] at hb
      have h1 := hp oj ho e he hb.1
      rcases hb.2 with h2 | h2
      · rw [← h2]; exact h1
      · exact anc_listed h f e.on i (fun ok hk => h e.on ok hk h1) h2

/-- Whatever order is picked from here on; behind each operation that is not among the last ones S holds. -/
def wpAnyN (P : Program) (ops : Array Oper) (Q : Exit → Act → World → Prop) (S : World → Prop) (last : List Nat) : Nat → Array Bool → Act → World → Prop
  | 0, listed, a, w => Region.ready .any ops listed = [] ∧ Q .normal a w
  | fuel + 1, listed, a, w =>
    (Region.ready .any ops listed = [] → Q .normal a w) ∧
    ∀ i ∈ Region.ready .any ops listed, wpOp P ops Q i (fun a' w' => (last.contains i = false → S w') ∧ wpAnyN P ops Q S last fuel (listed.setIfInBounds i true) a' w') a w

theorem wpAny_of_N {S : World → Prop} {last : List Nat} : ∀ (fuel : Nat) (listed : Array Bool) (a : Act) (w : World), wpAnyN P ops Q S last fuel listed a w → wpAny P .any ops Q fuel listed a w
  | 0, _, _, _, h => h
  | fuel + 1, _, _, _, h => ⟨h.1, fun i hi => wpOp_mono (fun a' w' h' => wpAny_of_N fuel _ a' w' h'.2) (h.2 i hi)⟩

theorem wpAnyN_first {S : World → Prop} {last : List Nat} {i : Nat} {oi : Oper} {v : Value} (hi : ops[i]? = some oi) (hsel : ∀ (j : Nat) (o : Oper) cs b, ops[j]? = some o → o.op ≠ .select cs b)
    (hQ : ∀ c (a : Act) (w : World), ¬ Q (.panic c) a w) (hlast : ∀ j, last.contains j = true → ∃ f, ancB ops f j i = true) (hil : last.contains i = false) :
    ∀ (fuel : Nat) (listed : Array Bool) (a : Act) (w : World), Closed ops listed →
      (∀ j oj, ops[j]? = some oj → j ≠ i → listed.getD j true = false → (∀ e ∈ oj.after, Region.binds .any e = true → e.on ≠ i) → oi.apart ops oj = true) →
      i ∈ Region.ready .any ops listed → YieldsIf P ops S oi v a → S w →
      wpAnyN P ops Q S last fuel (listed.setIfInBounds i true) (a.put oi.dst v) w → wpAnyN P ops Q S last (fuel + 1) listed a w := by
  intro fuel
  induction fuel with
  | zero =>
    intro listed a w _ _ hr hy hS H
    refine ⟨fun h => (by rw [h] at hr; cases hr), fun j hj => ?_⟩
    by_cases hji : j = i
    · subst hji; exact hy.wpOp hi hS ⟨fun _ => hS, H⟩
    · have := ready_mono hj hji
      rw [H.1] at this
      cases this
  | succ fuel ih =>
    intro listed a w hcl hfree hr hy hS H
    refine ⟨fun h => (by rw [h] at hr; cases hr), fun j hj => ?_⟩
    by_cases hji : j = i
    · subst hji; exact hy.wpOp hi hS ⟨fun _ => hS, H⟩
    · have h1 := H.2 j (ready_mono hj hji)
      obtain ⟨hjun, oj, hoj, hall⟩ := mem_ready.1 hj
      have hun := (mem_ready.1 hr).1
      have hun' : listed.getD i false = false := by
        rcases Nat.lt_or_ge i listed.size with h' | h'
        · simp [h'] at hun ⊢; exact hun
        · simp [Array.getElem?_eq_none h'] at hun
      have hnl : last.contains j = false := by
        cases hc : last.contains j with
        | false => rfl
        | true =>
          obtain ⟨f, hf⟩ := hlast j hc
          have := anc_listed hcl f j i (fun ok hk e he hb => by
            obtain rfl : ok = oj := Option.some.inj (hk.symm.trans hoj)
            exact hall e he hb) hf
          rw [hun'] at this
          cases this
      have hnot : ∀ e ∈ oj.after, Region.binds .any e = true → e.on ≠ i := fun e he hb heq => by
        have h2 := hall e he hb
        rw [heq, hun'] at h2
        cases h2
      have h2 := wpOp_putIf hoj (hfree j oj hoj hji hjun hnot) (fun cs b => hsel i oi cs b hi) (fun cs b => hsel j oj cs b hoj) (fun c a w h => (hQ c _ w h).elim) hy h1
      have hfree' : ∀ k ok, ops[k]? = some ok → k ≠ i → (listed.setIfInBounds j true).getD k true = false →
          (∀ e ∈ ok.after, Region.binds .any e = true → e.on ≠ i) → oi.apart ops ok = true := fun k ok hk hki hu hno => by
        refine hfree k ok hk hki ?_ hno
        by_cases hjk : j = k
        · subst hjk; exact hjun
        · rw [getD_set_ne true hjk] at hu; exact hu
      refine wpOp_mono (fun a' w' h3 => ⟨fun _ => h3.2.1 hnl, ih (listed.setIfInBounds j true) a' w' (hcl.set hj) hfree' (ready_mono hr (Ne.symm hji)) h3.1 (h3.2.1 hnl) ?_⟩) h2
      rw [Array.setIfInBounds_comm _ _ hji]
      exact h3.2.2

/-- The order in which the walk goes: what only reads may come up, and nobody touches its slots; what writes is the only one that may come up. -/
def orderB (ops : Array Oper) : List Nat → Array Bool → Bool
  | [], listed => (Region.ready .any ops listed).isEmpty
  | i :: rest, listed =>
    (match ops[i]? with
      | some o => if eff o then decide (Region.ready .any ops listed = [i]) else (Region.ready .any ops listed).contains i && Region.free .any ops listed i
      | none => false) && orderB ops rest (listed.setIfInBounds i true)

/-- The last ones write, and wait for all that only read. -/
def lastB (ops : Array Oper) (last : List Nat) : Bool :=
  last.all fun j => (match ops[j]? with | some o => eff o | none => false) && (List.range ops.size).all fun i => (match ops[i]? with | some o => eff o | none => false) || ancB ops ops.size j i

def nthO : List Oper → Nat → Oper
  | [], _ => default
  | o :: _, 0 => o
  | _ :: l, i + 1 => nthO l i
theorem nthO_eq : ∀ (l : List Oper) (i : Nat), nthO l i = l.getD i default
  | [], i => by simp [nthO]
  | o :: l, 0 => by simp [nthO]
  | o :: l, i + 1 => by simp [nthO, nthO_eq l i]
def pickOps (l : List Oper) : List Nat → List Oper
  | [] => []
  | i :: r => nthO l i :: pickOps l r

/-- What follows is a plain list of operations. -/
def TailQ (P : Program) (ops : Array Oper) (Q : Exit → Act → World → Prop) (l : List Oper) : Exit → Act → World → Prop
  | .normal, a, w => wpList P ops Q l a w
  | e, a, w => Q e a w

theorem Oper.wp_mono_noQ' {o : Oper} {a : Act} {w : World} {K : Act → World → Prop} {l : List Oper} (_h1 : ∀ c (a : Act) (w : World), False → ¬ Q (.panic c) a w) (h : o.wp P a w K (TailQ P ops Q l)) : o.wp P a w K Q := by
  unfold Oper.wp at h ⊢
  generalize (execOp a.eval o).run P w = r at *
  cases r with
  | ok nx w' =>
    cases nx <;> simp only [Oper.upon] at h ⊢ <;> first
      | exact h
      | (refine Calls.mono h fun e w'' he => ?_
         cases e with
         | returned u => exact he
         | panicked c => exact he
         | outgrown => obtain ⟨a', w', h'⟩ := he; exact ⟨a', w', h'⟩)
  | halt x w' =>
    cases x <;> simp only [Oper.upon] at h ⊢
    exact h

theorem lastB_spec {last : List Nat} (h : lastB ops last = true) : (∀ j, last.contains j = true → ∃ o, ops[j]? = some o ∧ eff o = true) ∧ ∀ i oi, ops[i]? = some oi → eff oi = false → ∀ j, last.contains j = true → ∃ f, ancB ops f j i = true := by
  refine ⟨fun j hj => ?_, fun i oi hi he j hj => ?_⟩
  · have h1 := List.all_eq_true.1 h j (by simpa using hj)
    simp only [Bool.and_eq_true] at h1
    cases ho : ops[j]? with
    | none => rw [ho] at h1; cases h1.1
    | some o => rw [ho] at h1; exact ⟨o, rfl, h1.1⟩
  · have h1 := List.all_eq_true.1 h j (by simpa using hj)
    simp only [Bool.and_eq_true] at h1
    have hlt : i < ops.size := (Array.getElem?_eq_some_iff.1 hi).1
    have h2 := List.all_eq_true.1 h1.2 i (List.mem_range.2 hlt)
    rw [hi] at h2
    simp only [he, Bool.false_or] at h2
    exact ⟨_, h2⟩

theorem tail_sound {S : World → Prop} {last : List Nat} (l : List Oper) (hl : ops = l.toArray) (hef : ∀ j, last.contains j = true → ∃ o, ops[j]? = some o ∧ eff o = true) (hlo : ¬ LetsOut Q) :
    ∀ (o2 : List Nat) (listed : Array Bool) (a : Act) (w : World), (∀ j ∈ o2, last.contains j = true) → orderB ops o2 listed = true → wpList P ops Q (pickOps l o2) a w → wpAnyN P ops Q S last o2.length listed a w
  | [], listed, a, w, _, hB, h => ⟨by simpa [orderB] using hB, h⟩
  | i :: rest, listed, a, w, hin, hB, h => by
    simp only [orderB, Bool.and_eq_true] at hB
    obtain ⟨h1, h2⟩ := hB
    obtain ⟨o, ho, he⟩ := hef i (hin i (by simp))
    rw [ho] at h1
    simp only [he, if_true, decide_eq_true_eq] at h1
    have hget : nthO l i = o := by
      rw [nthO_eq]
      rw [hl] at ho
      simp only [List.getElem?_toArray] at ho
      simp [List.getD, ho]
    simp only [pickOps, hget] at h
    unfold wpList at h
    refine ⟨fun h0 => (by rw [h1] at h0; cases h0), fun k hk => ?_⟩
    rw [h1] at hk
    obtain rfl : k = i := by simpa using hk
    unfold wpOp
    simp only [ho]
    have hc : last.contains k = true := hin k (by simp)
    by_cases hw : Region.wanted o (yielded ops a.tmps) = true
    · rw [if_pos hw] at h ⊢
      rcases h with h | ⟨_, h⟩
      · exact .inl (Oper.wp_mono (fun a' w' h' => ⟨fun hf => (by rw [hc] at hf; cases hf), tail_sound l hl hef hlo rest _ a' w' (fun j hj => hin j (by simp [hj])) h2 h'⟩) h)
      · exact (hlo h).elim
    · rw [if_neg hw] at h ⊢
      exact ⟨fun hf => (by rw [hc] at hf; cases hf), tail_sound l hl hef hlo rest _ _ w (fun j hj => hin j (by simp [hj])) h2 h⟩

theorem held_sound {S : World → Prop} {last : List Nat} (hs : Region.noSelect ops = true) (hQ : ∀ c (a : Act) (w : World), ¬ Q (.panic c) a w) (hlo : ¬ LetsOut Q) (l : List Oper) (hl : ops = l.toArray) (hlast : lastB ops last = true) :
    ∀ (o1 : List Nat) (listed : Array Bool) (a : Act) (w : World), Closed ops listed → (∀ j ∈ o1, last.contains j = false) → orderB ops (o1 ++ last) listed = true → S w → wpHeld P ops (TailQ P ops Q (pickOps l last)) S (pickOps l o1) a w →
      wpAnyN P ops Q S last (o1 ++ last).length listed a w
  | [], listed, a, w, _, _, hB, _, h => tail_sound l hl (lastB_spec hlast).1 hlo last listed a w (fun j hj => by simpa using hj) hB h
  | i :: rest, listed, a, w, hcl, hno, hB, hS, h => by
    simp only [List.cons_append, orderB, Bool.and_eq_true] at hB
    obtain ⟨h1, h2⟩ := hB
    have hno' : ∀ j ∈ rest, last.contains j = false := fun j hj => hno j (by simp [hj])
    cases ho : ops[i]? with
    | none => rw [ho] at h1; cases h1
    | some o =>
      rw [ho] at h1
      have hget : nthO l i = o := by
        rw [nthO_eq]
        rw [hl] at ho
        simp only [List.getElem?_toArray] at ho
        simp [List.getD, ho]
      simp only [pickOps, hget] at h
      by_cases he : eff o = true
      · simp only [he, if_true, decide_eq_true_eq] at h1
        unfold wpHeld at h
        rw [if_pos he] at h
        refine ⟨fun h0 => (by rw [h1] at h0; cases h0), fun k hk => ?_⟩
        have hk' := hk
        rw [h1] at hk
        obtain rfl : k = i := by simpa using hk
        unfold wpOp
        simp only [ho]
        by_cases hw : Region.wanted o (yielded ops a.tmps) = true
        · rw [if_pos hw] at h ⊢
          refine .inl (Oper.wp_mono_noQ' (fun c a w h => by cases h) (Oper.wp_mono (fun a' w' h' => ⟨fun _ => h'.1, held_sound hs hQ hlo l hl hlast rest _ a' w' (hcl.set hk') hno' h2 h'.1 h'.2⟩) h))
        · rw [if_neg hw] at h ⊢
          exact ⟨fun _ => hS, held_sound hs hQ hlo l hl hlast rest _ _ w (hcl.set hk') hno' h2 hS h⟩
      · simp only [he] at h1
        simp only [Bool.false_eq_true, if_false, Bool.and_eq_true] at h1
        unfold wpHeld at h
        rw [if_neg he] at h
        obtain ⟨v, hy, h3⟩ := h
        have hr : i ∈ Region.ready .any ops listed := by simpa using h1.1
        exact wpAnyN_first ho (Region.noSelect_spec hs) hQ ((lastB_spec hlast).2 i o ho (by simpa using he)) (hno i (by simp)) _ listed a w hcl (Region.free_spec ho h1.2) hr hy hS (held_sound hs hQ hlo l hl hlast rest _ _ w (hcl.set hr) hno' h2 hS h3)

/-- Split a list of pieces by a mask. -/
def Split : List Bool → List HP → List HP → List HP → Prop
  | [], L, Hc, F => Hc = [] ∧ F = L
  | true :: bs, A :: L, C :: Hc, F => C = A ∧ Split bs L Hc F
  | false :: bs, A :: L, Hc, C :: F => C = A ∧ Split bs L Hc F
  | _, _, _, _ => False
theorem split_nil {L : List HP} : Split [] L [] L := ⟨rfl, rfl⟩
theorem split_t {bs : List Bool} {A : HP} {L Hc F : List HP} (h : Split bs L Hc F) : Split (true :: bs) (A :: L) (A :: Hc) F := ⟨rfl, h⟩
theorem split_f {bs : List Bool} {A : HP} {L Hc F : List HP} (h : Split bs L Hc F) : Split (false :: bs) (A :: L) Hc (A :: F) := by
  cases Hc <;> exact ⟨rfl, h⟩
theorem perm_mid (A : HP) : ∀ (L M : List HP), Perm (A :: (L ++ M)) (L ++ A :: M)
  | [], _ => Perm.refl _
  | B :: L, M => (Perm.swap A B (L ++ M)).trans ((perm_mid A L M).cons B)
theorem split_perm : ∀ {bs : List Bool} {L Hc F : List HP}, Split bs L Hc F → Perm L (Hc ++ F)
  | [], L, Hc, F, h => by obtain ⟨rfl, rfl⟩ := h; exact Perm.refl _
  | true :: bs, A :: L, C :: Hc, F, h => by obtain ⟨rfl, h⟩ := h; exact (split_perm h).cons C
  | false :: bs, A :: L, [], C :: F, h => by
    obtain ⟨rfl, h⟩ : C = A ∧ Split bs L [] F := h
    exact (split_perm h).cons C
  | false :: bs, A :: L, D :: Hc, C :: F, h => by
    obtain ⟨rfl, h⟩ : C = A ∧ Split bs L (D :: Hc) F := h
    exact ((split_perm h).cons C).trans (perm_mid C (D :: Hc) F)
  | true :: _, [], _, _, h => h.elim
  | true :: _, _ :: _, [], _, h => h.elim
  | false :: _, [], _, _, h => by cases h
  | false :: _, _ :: _, [], [], h => by cases h
  | false :: _, _ :: _, _ :: _, [], h => by cases h

theorem St.prefix_ {B : Nat} {w0 w : World} : ∀ {L F : List HP}, St B w0 (L ++ F) w → St B w0 L w := by
  intro L F h
  refine ⟨h.below, h.le, ?_⟩
  have key : ∀ (L : List HP) (S : Nat → Prop), sepL (L ++ F) S w → sepL L S w := by
    intro L
    induction L with
    | nil => intros; trivial
    | cons A L ih =>
      intro S hh
      obtain ⟨S1, S2, h1, h2, h3, h4, h5⟩ := hh
      exact ⟨S1, S2, h1, h2, h3, h4, ih S2 h5⟩
  exact key L _ h.sep

/-- No panic, no lack of memory. -/
def Only (Q : Exit → Act → World → Prop) : Exit → Act → World → Prop
  | .normal, a, w => Q .normal a w
  | _, _, _ => False

theorem closed_none (ops : Array Oper) (k : Nat) : Closed ops (Array.replicate k false) := by
  intro j oj _ hl
  rcases Nat.lt_or_ge j k with h | h
  · simp [h] at hl
  · simp [h] at hl

/-- A region that draws its order: the pieces that the mask names are read; the others may be written, and in the last operations the first ones, too. -/
theorem VC_held {id : Nat} {l : List Oper} (o1 last : List Nat) (mask : List Bool) {Hc F : List HP} (hm : P.follows .mixedOrders = true)
    (hB : (Region.noSelect l.toArray && decide ((o1 ++ last).length = l.toArray.size) && lastB l.toArray last && (o1.all fun j => !last.contains j) && orderB l.toArray (o1 ++ last) (Array.replicate l.toArray.size false)) = true)
    (hsp : Split mask H Hc F) {l1 l2 : List Oper} (hl1 : pickOps l o1 = l1) (hl2 : pickOps l last = l2) (h : VL P (some (some F)) n B w0 l.toArray (TailQ P l.toArray (Only Q) l2) l1 env Hc) : VC P n B w0 (.region id l.toArray true) Q env H := by
  simp only [Bool.and_eq_true, decide_eq_true_eq] at hB
  obtain ⟨⟨⟨⟨h1, h2⟩, h3⟩, h4⟩, h5⟩ := hB
  refine ⟨fun a w ha hw => wp_mono (Q := Only Q) ?_ fun e a w h => by cases e <;> first | exact h | cases h⟩
  have hst : St B w0 (Hc ++ F) w.drew := (hw.perm (split_perm hsp)).drew
  have hr : wpHeld P l.toArray (TailQ P l.toArray (Only Q) l2) (St B w0 Hc) l1 a w.drew := h.run a ha w.drew hst
  rw [← hl1, ← hl2] at hr
  have := held_sound (S := St B w0 Hc) h1 (fun c a w h => h) (by rintro ⟨_, _, h⟩; exact h) l rfl h3 o1 _ a w.drew (closed_none _ _) (fun j hj => by simpa using List.all_eq_true.1 h4 j hj) h5 hst.prefix_ hr
  rw [h2] at this
  exact wp_region_any hm (wpAny_of_N _ _ _ _ this)

/-- What is asked behind one writing operation. -/
def HeldQ (P : Program) (B : Nat) (w0 : World) (ops : Array Oper) (Q : Exit → Act → World → Prop) (Hc : List HP) (rest : List Oper) : Exit → Act → World → Prop
  | .normal, a, w => St B w0 Hc w ∧ wpHeld P ops Q (St B w0 Hc) rest a w
  | _, _, _ => False

theorem Oper.wp_mono_noQ {o : Oper} {a : Act} {w : World} {K : Act → World → Prop} {Q1 Q2 : Exit → Act → World → Prop} (h1 : ∀ c a w, ¬ Q1 (.panic c) a w) (h2 : ¬ LetsOut Q1) (h : o.wp P a w K Q1) : o.wp P a w K Q2 := by
  unfold Oper.wp at h ⊢
  generalize (execOp a.eval o).run P w = r at *
  cases r with
  | ok nx w' =>
    cases nx <;> simp only [Oper.upon] at h ⊢ <;> first
      | exact h
      | (refine Calls.mono h fun e w'' he => ?_
         cases e with
         | returned u => exact he
         | panicked c => exact (h1 _ _ _ he).elim
         | outgrown => exact (h2 he).elim)
  | halt x w' =>
    cases x <;> simp only [Oper.upon] at h ⊢
    exact (h1 _ _ _ h).elim

/-- The list of pieces HF is H, and F behind it. -/
def App : List HP → List HP → List HP → Prop
  | [], F, HF => HF = F
  | A :: L, F, B :: HF => B = A ∧ App L F HF
  | _, _, _ => False
theorem app_nil {F : List HP} : App [] F F := rfl
theorem app_cons {A : HP} {L F HF : List HP} (h : App L F HF) : App (A :: L) F (A :: HF) := ⟨rfl, h⟩
theorem app_eq : ∀ {L F HF : List HP}, App L F HF → HF = L ++ F
  | [], _, _, h => h
  | A :: L, F, B :: HF, h => by obtain ⟨rfl, h⟩ := h; rw [app_eq h]; rfl
  | _ :: _, _, [], h => h.elim

/-- A writing operation is walked by the laws of the text's order, with all pieces. -/
theorem VL_heff {o : Oper} {F HF : List HP} (he : eff o = true) (hg : o.guard = none) (happ : App H F HF) (h : VL P none n B w0 ops (HeldQ P B w0 ops Q H rest) [o] env HF) : VL P (some (some F)) n B w0 ops Q (o :: rest) env H := by
  refine ⟨fun a ha w hw => ?_⟩
  rw [← app_eq happ] at hw
  have h1 : wpList P ops (HeldQ P B w0 ops Q H rest) [o] a w := h.run a ha w hw
  unfold wpHeld
  rw [if_pos he, if_pos (by simp [Region.wanted, hg])]
  unfold wpList at h1
  rw [if_pos (by simp [Region.wanted, hg])] at h1
  have hlo : ¬ LetsOut (HeldQ P B w0 ops Q H rest) := by rintro ⟨_, _, h⟩; exact h
  rcases h1 with h1 | ⟨_, h2⟩
  · refine Oper.wp_mono_noQ (fun c a w h => h) hlo (Oper.wp_mono (fun a' w' h' => ?_) h1)
    exact h'
  · exact (hlo h2).elim

/-- Take pieces out of a list. -/
def Rem (A : HP) (L M : List HP) : Prop := Perm L (A :: M)
theorem rem_here {A : HP} {L : List HP} : Rem A (A :: L) L := Perm.refl _
theorem rem_there {A X : HP} {L M : List HP} (h : Rem A L M) : Rem A (X :: L) (X :: M) := (Perm.cons X h).trans (Perm.swap X A M)
def Pull (Hc L F : List HP) : Prop := Perm L (Hc ++ F)
theorem pull_nil {L : List HP} : Pull [] L L := Perm.refl _
theorem pull_cons {A : HP} {Hc L M F : List HP} (h : Rem A L M) (h2 : Pull Hc M F) : Pull (A :: Hc) L F := Perm.trans h (Perm.cons A h2)

theorem VQ_heldq {F H' : List HP} {Hc : List HP} (hp : Pull Hc H' F) (h : VL P (some (some F)) n B w0 ops Q rest env Hc) : VQ n B w0 (HeldQ P B w0 ops Q Hc rest) .normal env H' :=
  ⟨fun a w ha hw => ⟨(hw.perm hp).prefix_, h.run a ha w (hw.perm hp)⟩⟩
theorem VL_nilh {F HF : List HP} (happ : App H F HF) (h : VQ n B w0 Q .normal env HF) : VL P (some (some F)) n B w0 ops Q [] env H :=
  ⟨fun a ha w hw => by rw [← app_eq happ] at hw; exact h.run a w ha hw⟩
theorem VQ_tailq {l : List Oper} (h : VL P none n B w0 ops Q l env H) : VQ n B w0 (TailQ P ops Q l) .normal env H := ⟨fun a w ha hw => h.run a ha w hw⟩
theorem VQ_only (h : VQ n B w0 Q .normal env H) : VQ n B w0 (Only Q) .normal env H := ⟨fun a w ha hw => h.run a w ha hw⟩
end
end Go.Eng
