/- Lemmas for the claim, part 1. -/
import Derived.WalkKit
import Derived.Lib.Hide
import Derived.Deep.LoopGhost
import Derived.Deep.Quiet
import Derived.OrdersHeld
import Derived.OrdersIn
import Derived.TacticsIn
import Derived.RangeFuncCalls
import Derived.Sort.LoopGhostIn
import Derived.KernelRfl
import Derived.Maps.AppendAt
import Derived.Laws.StructEq
import Derived.ChangeKeysEq
import Derived.MapKept
import Derived.Maps.RangeRun
import Derived.Laws.IdiomCopy
import Derived.Laws.ResultCell
import Derived.Deep.Slices
import Derived.Lib.SmallJoins
import Derived.OpenShut
import Derived.Laws.Tables
import Derived.Great.BuildSlice
import Derived.Test.YtmalhidldgfeoaaGreatDoorProg
namespace Go.Eng
end Go.Eng
namespace Go.Nw
end Go.Nw
namespace Go.Proofs
end Go.Proofs
namespace Go.Proofs.YtmalhidldgfeoaaGreatDoor
end Go.Proofs.YtmalhidldgfeoaaGreatDoor
namespace Go.Rt
end Go.Rt
namespace Go.Eng
theorem zk {p : Prop} (h : p := by first | ((intro w hw; refine hw.perm ?_; focus repeat (first | with_reducible exact Perm.refl _ | (with_reducible apply Ye7; focus ((repeat (first | with_reducible exact Yf | with_reducible apply Ye)); done)) | with_reducible apply Perm.dropK)); done) | fail) : p := h
theorem zu {p : Prop} (h : p := by first | ((repeat (first | exact Yhv _ | (apply YgJ; first | exact rfl | exact congrArg (fun z : Int => some (Value.int .i64 z)) (by omega)))); done) | fail) : p := h
theorem zr {p : Prop} (h : p := by first | ((first | (focus (repeat (first | assumption | apply Rd.cons)); done) | exact Rd.sl (by (focus repeat (first | with_reducible exact List.mem_cons_self | with_reducible apply List.mem_cons_of_mem | assumption)))); done) | fail) : p := h
theorem zm {p : Prop} (h : p := by first | ((focus repeat (first | with_reducible exact List.mem_cons_self | with_reducible apply List.mem_cons_of_mem | assumption)); done) | fail) : p := h
theorem za {p : Prop} (h : p := by first | ((repeat (first | exact Yf1 | (apply YeC; exact rfl))); done) | fail) : p := h
theorem zp {p : Prop} (h : p := by first | ((repeat (first | with_reducible exact Yhe | with_reducible apply Yf0 | exact Ycc _)); done) | fail) : p := h
theorem zy {p : Prop} (h : p := by first | ((repeat (first | with_reducible exact Yfp | with_reducible apply Yhu | with_reducible apply Yht)); done) | fail) : p := h
theorem zq {p : Prop} (h : p := by first | ((repeat (first | exact PutAt.nil | (apply PutAt.cons; (repeat (first | exact QH | apply W4))))); done) | fail) : p := h
theorem zt {p : Prop} (h : p := by first | ((repeat (first | exact QH | apply W4)); done) | fail) : p := h
theorem zd {p : Prop} (h : p := by first | ((repeat (first | with_reducible exact Upd.here _ | with_reducible apply Upd.there)); done) | fail) : p := h
theorem zv {p : Prop} (h : p := by first | ((simp only [subL, List.toList_toArray, List.drop_succ_cons, List.drop_zero, List.take_succ_cons, List.take_zero, Nat.zero_add]; rfl); done) | fail) : p := h
end Go.Eng

namespace Go.Eng
open Go.RowKit
theorem Y4 {α : Type} {c : Prop} [Decidable c] {x a b : α} (hc : c) (h : x = a) : x = if c then a else b := by rw [if_pos hc]; exact h
theorem Y3 {α : Type} {c : Prop} [Decidable c] {x a b : α} (hc : ¬ c) (h : x = b) : x = if c then a else b := by rw [if_neg hc]; exact h
theorem Ygp {a b : Int} (h0 : 0 ≤ a) (h1 : a ≤ 1000000) (h2 : 0 ≤ b) (h3 : b ≤ 1000000000000) : -9223372036854775808 ≤ a * b ∧ a * b ≤ 9223372036854775807 := by
  have h4 : 0 ≤ a * b := Int.mul_nonneg h0 h2
  have h5 : a * b ≤ 1000000 * b := Int.mul_le_mul_of_nonneg_right h1 h2
  omega
theorem Yhn {a b : Int} (h0 : 0 ≤ b) (h1 : b ≤ 1000000) (h2 : 0 ≤ a) (h3 : a ≤ 1000000000000) : -9223372036854775808 ≤ a * b ∧ a * b ≤ 9223372036854775807 := by
  rw [Int.mul_comm]; exact Ygp h0 h1 h2 h3
structure HP where
  holds : (Nat → Prop) → World → Prop
  loc : ∀ {S : Nat → Prop} {w w' : World}, (∀ b, S b → w'.heap[b]? = w.heap[b]?) → holds S w → holds S w'
def blk (g : Nat) (o : Obj) : HP := ⟨fun S w => S g ∧ w.heap[g]? = some o, fun h ⟨hs, hg⟩ => ⟨hs, (h _ hs).trans hg⟩⟩
def sepL : List HP → (Nat → Prop) → World → Prop
  | [], _, _ => True
  | A :: L, S, w => ∃ S1 S2 : Nat → Prop, (∀ b, S1 b → S b) ∧ (∀ b, S2 b → S b) ∧ (∀ b, S1 b → ¬ S2 b) ∧ A.holds S1 w ∧ sepL L S2 w
theorem JQ {L : List HP} {S T : Nat → Prop} {w : World} (h : sepL L S w) (hs : ∀ b, S b → T b) : sepL L T w := by
  cases L with
  | nil => trivial
  | cons A L =>
    obtain ⟨S1, S2, h1, h2, h3, h4, h5⟩ := h
    exact ⟨S1, S2, fun b hb => hs b (h1 b hb), fun b hb => hs b (h2 b hb), h3, h4, h5⟩
theorem U0 {L : List HP} : ∀ {S : Nat → Prop} {w w' : World}, sepL L S w → (∀ b, S b → w'.heap[b]? = w.heap[b]?) → sepL L S w' := by
  induction L with
  | nil => intros; trivial
  | cons A L ih =>
    intro S w w' h hs
    obtain ⟨S1, S2, h1, h2, h3, h4, h5⟩ := h
    exact ⟨S1, S2, h1, h2, h3, A.loc (fun b hb => hs b (h1 b hb)) h4, ih h5 (fun b hb => hs b (h2 b hb))⟩
theorem Yfg {A B : HP} {L : List HP} {S : Nat → Prop} {w : World} (h : sepL (A :: B :: L) S w) : sepL (B :: A :: L) S w := by
  obtain ⟨S1, S2, h1, h2, h3, h4, T1, T2, k1, k2, k3, k4, k5⟩ := h
  refine ⟨T1, fun b => S1 b ∨ T2 b, fun b hb => h2 b (k1 b hb), fun b hb => hb.elim (h1 b) (fun hb => h2 b (k2 b hb)), fun b hb hc => ?_, k4, S1, T2, fun b hb => .inl hb, fun b hb => .inr hb, fun b hb hc => h3 b hb (k2 b hc), h4, k5⟩
  rcases hc with hc | hc
  · exact h3 b hc (k1 b hb)
  · exact k3 b hb hc
theorem YaX {A : HP} {L : List HP} {S : Nat → Prop} {w : World} (h : sepL (A :: L) S w) : sepL L S w := by
  obtain ⟨S1, S2, _, h2, _, _, h5⟩ := h
  exact JQ h5 h2
structure Perm (L M : List HP) : Prop where
  go : ∀ (S : Nat → Prop) (w : World), sepL L S w → sepL M S w
theorem Perm.refl (L : List HP) : Perm L L := ⟨fun _ _ h => h⟩
theorem Perm.cons (A : HP) {L M : List HP} (p : Perm L M) : Perm (A :: L) (A :: M) := by
  refine ⟨fun S w h => ?_⟩
  obtain ⟨S1, S2, h1, h2, h3, h4, h5⟩ := h
  exact ⟨S1, S2, h1, h2, h3, h4, p.go _ _ h5⟩
theorem Perm.swap (A B : HP) (L : List HP) : Perm (A :: B :: L) (B :: A :: L) := ⟨fun _ _ => Yfg⟩
theorem Perm.trans {L M N : List HP} (p : Perm L M) (q : Perm M N) : Perm L N := ⟨fun _ _ h => q.go _ _ (p.go _ _ h)⟩
structure St (B : Nat) (w0 : World) (H : List HP) (w : World) : Prop where
  below : Below B w0 w
  le : B ≤ w.heap.size
  sep : sepL H (fun b => B ≤ b ∧ b < w.heap.size) w
theorem St.start (w : World) : St w.heap.size w [] w := ⟨Below.refl _ _, Nat.le_refl _, trivial⟩
theorem St.perm {B : Nat} {w0 w : World} {H K : List HP} (h : St B w0 H w) (p : Perm H K) : St B w0 K w := ⟨h.below, h.le, p.go _ _ h.sep⟩
theorem St.tail {B : Nat} {w0 w : World} {A : HP} {H : List HP} (h : St B w0 (A :: H) w) : St B w0 H w := ⟨h.below, h.le, YaX h.sep⟩
theorem Yep {L : List HP} {A : HP} (hA : A ∈ L) : ∀ {S : Nat → Prop} {w : World}, sepL L S w → ∃ S1 : Nat → Prop, (∀ b, S1 b → S b) ∧ A.holds S1 w := by
  induction L with
  | nil => cases hA
  | cons B L ih =>
    intro S w h
    obtain ⟨S1, S2, h1, h2, _, h4, h5⟩ := h
    rcases List.mem_cons.1 hA with e | e
    · subst e; exact ⟨S1, h1, h4⟩
    · obtain ⟨S3, h6, h7⟩ := ih e h5
      exact ⟨S3, fun b hb => h2 b (h6 b hb), h7⟩
theorem St.at_ {B : Nat} {w0 w : World} {H : List HP} {A : HP} (h : St B w0 H w) (hA : A ∈ H) : ∃ S1 : Nat → Prop, (∀ b, S1 b → B ≤ b ∧ b < w.heap.size) ∧ A.holds S1 w := Yep hA h.sep
theorem St.blk {B : Nat} {w0 w : World} {H : List HP} {g : Nat} {o : Obj} (h : St B w0 H w) (hA : blk g o ∈ H) : w.heap[g]? = some o ∧ B ≤ g ∧ g < w.heap.size := by
  obtain ⟨S1, h1, h2, h3⟩ := h.at_ hA
  exact ⟨h3, h1 g h2⟩
theorem St.grow {B : Nat} {w0 w w' : World} {H : List HP} (h : St B w0 H w) (k : Below w.heap.size w w') : St B w0 H w' :=
  ⟨h.below.trans (k.mono h.le), Nat.le_trans h.le k.size, JQ (U0 h.sep fun b hb => k.block b hb.2) fun _ hb => ⟨hb.1, Nat.lt_of_lt_of_le hb.2 k.size⟩⟩
theorem St.drew {B : Nat} {w0 w : World} {H : List HP} (h : St B w0 H w) : St B w0 H w.drew := h.grow (Below.refl _ _).drew
theorem St.alloc {B : Nat} {w0 w : World} {H : List HP} (h : St B w0 H w) (o : Obj) : St B w0 (Eng.blk w.heap.size o :: H) (w.alloc o) := by
  refine ⟨h.below.alloc h.le o, by have := h.le; simp; omega, fun b => b = w.heap.size, fun b => B ≤ b ∧ b < w.heap.size, ?_, ?_, ?_, ?_, ?_⟩
  · rintro b rfl; exact ⟨h.le, by simp⟩
  · rintro b ⟨h1, h2⟩; exact ⟨h1, by simp; omega⟩
  · rintro b rfl ⟨_, h2⟩; omega
  · exact ⟨rfl, heap_alloc_new w o⟩
  · exact U0 h.sep fun b hb => Below.heap_alloc w o b hb.2
def Upd (A A' : HP) (L M : List HP) : Prop := ∃ L1 L2, L = L1 ++ A :: L2 ∧ M = L1 ++ A' :: L2
theorem Upd.here {A A' : HP} (L : List HP) : Upd A A' (A :: L) (A' :: L) := ⟨[], L, rfl, rfl⟩
theorem Upd.there {A A' : HP} (X : HP) {L M : List HP} (u : Upd A A' L M) : Upd A A' (X :: L) (X :: M) := by
  obtain ⟨L1, L2, rfl, rfl⟩ := u
  exact ⟨X :: L1, L2, rfl, rfl⟩
theorem Yc1 {A A' : HP} {w w' : World}
    (hA : ∀ S1 : Nat → Prop, A.holds S1 w → (∃ S' : Nat → Prop, A'.holds S' w' ∧ ∀ b, S' b → S1 b ∨ (w.heap.size ≤ b ∧ b < w'.heap.size)) ∧ ∀ b, ¬ S1 b → b < w.heap.size → w'.heap[b]? = w.heap[b]?) (L2 : List HP) :
    ∀ (L1 : List HP) {S : Nat → Prop}, (∀ b, S b → b < w.heap.size) → sepL (L1 ++ A :: L2) S w →
      ∃ S1 : Nat → Prop, (∀ b, S1 b → S b) ∧ A.holds S1 w ∧ sepL (L1 ++ A' :: L2) (fun b => S b ∨ (w.heap.size ≤ b ∧ b < w'.heap.size)) w'
  | [], S, hS, h => by
    obtain ⟨S1, S2, h1, h2, h3, h4, h5⟩ := h
    obtain ⟨⟨S', k1, k3⟩, k2⟩ := hA S1 h4
    refine ⟨S1, h1, h4, S', S2, fun b hb => (k3 b hb).elim (fun h => .inl (h1 b h)) .inr, fun b hb => .inl (h2 b hb), fun b hb hc => ?_, k1, U0 h5 fun b hb => k2 b (fun hc => h3 b hc hb) (hS b (h2 b hb))⟩
    rcases k3 b hb with h | h
    · exact h3 b h hc
    · have := hS b (h2 b hc); omega
  | X :: L1, S, hS, h => by
    obtain ⟨S1, S2, h1, h2, h3, h4, h5⟩ := h
    obtain ⟨T, t1, t2, t3⟩ := Yc1 hA L2 L1 (fun b hb => hS b (h2 b hb)) h5
    obtain ⟨_, k2⟩ := hA T t2
    refine ⟨T, fun b hb => h2 b (t1 b hb), t2, S1, _, fun b hb => .inl (h1 b hb), fun b hb => hb.elim (fun h => .inl (h2 b h)) .inr, fun b hb hc => ?_, X.loc (fun b hb => k2 b (fun hc => h3 b hb (t1 b hc)) (hS b (h1 b hb))) h4, t3⟩
    rcases hc with hc | hc
    · exact h3 b hb hc
    · have := hS b (h1 b hb); omega
theorem St.updN {B : Nat} {w0 w w' : World} {A A' : HP} {H K : List HP} (h : St B w0 H w) (u : Upd A A' H K)
    (hos : w'.os = w.os) (ht : w'.tape = w.tape) (hout : w'.output = w.output) (hsz : w.heap.size ≤ w'.heap.size)
    (hA : ∀ S1 : Nat → Prop, A.holds S1 w → (∃ S' : Nat → Prop, A'.holds S' w' ∧ ∀ b, S' b → S1 b ∨ (w.heap.size ≤ b ∧ b < w'.heap.size)) ∧ ∀ b, ¬ S1 b → b < w.heap.size → w'.heap[b]? = w.heap[b]?) : St B w0 K w' := by
  obtain ⟨L1, L2, rfl, rfl⟩ := u
  obtain ⟨S1, h1, h2, h3⟩ := Yc1 hA L2 L1 (S := fun b => B ≤ b ∧ b < w.heap.size) (fun b hb => hb.2) h.sep
  obtain ⟨_, k2⟩ := hA S1 h2
  have hle := h.le
  refine ⟨⟨hos.trans h.below.os, ht.trans h.below.tape, hout.trans h.below.output, Nat.le_trans h.below.size hsz, fun b hb => ?_⟩, Nat.le_trans h.le hsz, JQ h3 fun b hb => ?_⟩
  · rw [k2 b (fun hc => by have := (h1 b hc).1; omega) (Nat.lt_of_lt_of_le hb h.le), h.below.block b hb]
  · rcases hb with hb | hb
    · exact ⟨hb.1, Nat.lt_of_lt_of_le hb.2 hsz⟩
    · exact ⟨by omega, hb.2⟩
theorem St.upd {B : Nat} {w0 w w' : World} {A A' : HP} {H K : List HP} (h : St B w0 H w) (u : Upd A A' H K)
    (hos : w'.os = w.os) (ht : w'.tape = w.tape) (hout : w'.output = w.output) (hsz : w.heap.size ≤ w'.heap.size)
    (hA : ∀ S1 : Nat → Prop, A.holds S1 w → A'.holds S1 w' ∧ ∀ b, ¬ S1 b → b < w.heap.size → w'.heap[b]? = w.heap[b]?) : St B w0 K w' :=
  h.updN u hos ht hout hsz fun S1 hS => let ⟨k1, k2⟩ := hA S1 hS; ⟨⟨S1, k1, fun _ hb => .inl hb⟩, k2⟩
theorem St.setCell {B : Nat} {w0 w : World} {H K : List HP} {g i : Nat} {cs : Array Value} {t : TypeId} {fr : Nat × Nat} {v : Value} (h : St B w0 H w)
    (u : Upd (Eng.blk g (.cells cs t fr)) (Eng.blk g (.cells (cs.setIfInBounds i v) t fr)) H K) : St B w0 K (w.setCell ⟨g, i, none⟩ v) := by
  refine h.upd u rfl rfl rfl (by simp) fun S1 ⟨h1, h2⟩ => ⟨⟨h1, ?_⟩, fun b hb _ => Below.heap_setCell w _ v b (fun e => hb (e ▸ h1))⟩
  simp [World.setCell, Array.getElem?_modify, h2]
abbrev Env := List (Nat × Value)
def get : Env → Nat → Option Value
  | [], _ => none
  | (s, v) :: e, t => if s = t then some v else get e t
def evo (env : Env) : Operand → Option Value
  | .tmp t => get env t
  | .const v => some v
  | .global g => some (.pointer (some ⟨g, 0, none⟩))
  | .func f => some (.func (.func f) #[] #[])
structure Shp where
  k : Nat
  ds : List Deferred
  r : Option Nat
structure Fits (n : Shp) (a : Act) (env : Env) : Prop where
  defers : a.defers = n.ds
  size : a.tmps.size = n.k
  slot : ∀ t v, get env t = some v → a.tmps[t]? = some v
theorem Fits.eval {n : Shp} {a : Act} {env : Env} (h : Fits n a env) {x : Operand} {v : Value} (hx : evo env x = some v) : a.eval x = v := by
  cases x with
  | tmp t => have := h.slot t v hx; simp [Act.eval, Array.getD_eq_getD_getElem?, this]
  | const c => exact Option.some.inj hx
  | global g => exact Option.some.inj hx
  | func f => exact Option.some.inj hx
theorem Fits.put {n : Shp} {a : Act} {env : Env} (h : Fits n a env) {d : Nat} (hd : d < n.k) (v : Value) : Fits n (a.put (some d) v) ((d, v) :: env) := by
  refine ⟨h.defers, by simp [Act.put, h.size], fun t u ht => ?_⟩
  by_cases e : d = t
  · subst e
    simp only [get, if_true, Option.some.injEq] at ht
    subst ht
    simp [Act.put, h.size, hd]
  · rw [get, if_neg e] at ht
    simp [Act.put, e, h.slot t u ht]
theorem Fits.sub {n : Shp} {a : Act} {env env' : Env} (h : Fits n a env) (hs : ∀ t v, get env' t = some v → get env t = some v) : Fits n a env' :=
  ⟨h.defers, h.size, fun t v ht => h.slot t v (hs t v ht)⟩
def Zv (o : Oper) : Bool :=
  match o.op with
  | .defer _ => false
  | _ => true
def calm : Code → Bool
  | .seq x y => calm x && calm y
  | .cond _ x y => calm x && calm y
  | .loop c => calm c
  | .block _ c => calm c
  | .region _ ops _ => ops.toList.all Zv
  | .rangeFunc _ _ x y => calm x && calm y
  | .scope _ => false
  | _ => true
def wpR (P : Program) (r : Option Nat) (c : Code) (Q : Exit → Act → World → Prop) (a : Act) (w : World) : Prop :=
  match r with
  | none => c.wp P Q a w
  | some l => ¬ LetsOut Q → calm c = true → c.wpIn (Fence.wide.inRound l) 0 P Q a w
section
variable {P : Program} {r : Option Nat} {Q : Exit → Act → World → Prop} {a : Act} {w : World}
theorem Ze {c : Code} {Q' : Exit → Act → World → Prop} (h : wpR P r c Q a w) (hq : ∀ e a w, Q e a w → Q' e a w) : wpR P r c Q' a w := by
  cases r with
  | none => exact wp_mono h hq
  | some l => exact fun hlo hc => wpIn_mono (h (fun ⟨a, w, hl⟩ => hlo ⟨a, w, hq _ _ _ hl⟩) hc) hq
theorem YhA {x y : Code} (h : wpR P r x (Exit.then (wpR P r y Q) Q) a w) : wpR P r (.seq x y) Q a w := by
  cases r with
  | none => exact wp_seq h
  | some l =>
    intro hlo hc
    simp only [calm, Bool.and_eq_true] at hc
    refine wpIn_seq (wpIn_mono (h (fun ⟨a, w, hl⟩ => hlo ⟨a, w, hl⟩) hc.1) fun e a w hq => ?_)
    cases e <;> first | exact hq | exact hq hlo hc.2
theorem Yfw {id : Nat} {c : Code} (h : wpR P r c (Exit.inBlock id Q) a w) : wpR P r (.block id c) Q a w := by
  cases r with
  | none => exact wp_block h
  | some l => exact fun hlo hc => wpIn_block (h (fun ⟨a, w, hl⟩ => hlo ⟨a, w, hl⟩) hc)
theorem YgU (h : Q .normal a w) : wpR P r .skip Q a w := by
  cases r with
  | none => exact wp_skip h
  | some l => exact fun _ _ => wpIn_skip h
theorem Yhz (h : Q .ret a w) : wpR P r .ret Q a w := by
  cases r with
  | none => exact wp_ret h
  | some l => exact fun _ _ => wpIn_ret h
theorem YgS {id : Nat} (h : Q (.exit id) a w) : wpR P r (.exit id) Q a w := by
  cases r with
  | none => exact wp_exit h
  | some l => exact fun _ _ => wpIn_exit h
theorem Ydc {c : Operand} {x y : Code} {t : Bool} (hc : a.eval c = .bool t) (ht : t = true → wpR P r x Q a w) (hf : t = false → wpR P r y Q a w) : wpR P r (.cond c x y) Q a w := by
  cases r with
  | none => exact wp_cond_split hc ht hf
  | some l =>
    intro hlo hca
    simp only [calm, Bool.and_eq_true] at hca
    exact wpIn_cond_split hc (fun e => ht e hlo hca.1) (fun e => hf e hlo hca.2)
theorem W0 {n l : Nat} {row : String} {args : Array Value} {R : Value → World → Prop} (h : Rows P row args w R) : RowsIn (Fence.wide.inRound l) n P row args w R := fun c cs _ => by
  obtain ⟨v, w', h1, h2⟩ := h c cs
  exact ⟨v, w', h1, stepsIn_wide.2 h2⟩
theorem YaT {l n : Nat} {o : Oper} {K : Act → World → Prop} (hp : Zv o = true) (h : o.wp P a w K Q) : o.wpIn (Fence.wide.inRound l) n P a w K Q := by
  have hs : Oper.semAt (some l) a.eval o = execOp a.eval o := Oper.semAt_some l _ o fun c e => by
    unfold Zv at hp
    rw [e] at hp
    cases hp
  refine ⟨fun f _ => trivial, ?_⟩
  rw [Fence.inRound_round, hs]
  unfold Oper.wp at h
  generalize (execOp a.eval o).run P w = res at h ⊢
  cases res with
  | ok x w' =>
    cases x <;> simp only [Oper.upon, Oper.uponIn] at h ⊢ <;> first
      | exact h
      | (refine ⟨fun hd => by simp [Fence.wide] at hd, ?_⟩
         refine CallsIn.mono (CallsIn.inRound l (callsIn_wide.2 h)) fun e w'' he => ?_
         cases e <;> exact he)
      | exact ⟨fun hd => by simp [Fence.wide] at hd, W0 h⟩
      | exact h.elim
  | halt x w' => cases x <;> simp only [Oper.upon, Oper.uponIn] at h ⊢ <;> first | exact h | exact h.elim
theorem JO {l n : Nat} {ops : Array Oper} (hlo : ¬ LetsOut Q) : ∀ (os : List Oper) (a : Act) (w : World), os.all Zv = true → wpList P ops Q os a w → wpListIn (Fence.wide.inRound l) n P ops Q os a w
  | [], _, _, _, h => h
  | o :: os, a, w, hc, h => by
    simp only [List.all_cons, Bool.and_eq_true] at hc
    unfold wpList at h
    unfold wpListIn
    split
    · rename_i hw
      rw [if_pos hw] at h
      rcases h with h | ⟨_, h⟩
      · exact YaT hc.1 (Oper.wp_mono (fun a w h => JO hlo os a w hc.2 h) h)
      · exact (hlo h).elim
    · rename_i hw
      rw [if_neg hw] at h
      exact ⟨fun f _ => trivial, JO hlo os _ w hc.2 h⟩
theorem UB {l n : Nat} {ops : Array Oper} (hlo : ¬ LetsOut Q) (hc : ops.toList.all Zv = true) : ∀ (fuel : Nat) (listed : Array Bool) (a : Act) (w : World), wpAny P .any ops Q fuel listed a w → wpAnyIn (Fence.wide.inRound l) n P .any ops Q fuel listed a w
  | 0, _, _, _, h => h
  | fuel + 1, listed, a, w, h => by
    refine ⟨h.1, fun i hi => ?_⟩
    have h2 := h.2 i hi
    unfold wpOp at h2
    unfold wpOpIn
    cases ho : ops[i]? with
    | none => rw [ho] at h2; exact UB hlo hc fuel _ a w h2
    | some o =>
      rw [ho] at h2
      have hpl : Zv o = true := by
        have := Array.getElem?_eq_some_iff.1 ho
        exact List.all_eq_true.1 hc o (by rw [← this.2]; simp)
      simp only at h2 ⊢
      split
      · rename_i hw
        rw [if_pos hw] at h2
        rcases h2 with h2 | ⟨_, h2⟩
        · exact YaT hpl (Oper.wp_mono (fun a w h => UB hlo hc fuel _ a w h) h2)
        · exact (hlo h2).elim
      · rename_i hw
        rw [if_neg hw] at h2
        exact ⟨fun f _ => trivial, UB hlo hc fuel _ _ w h2⟩
theorem YdQ {id : Nat} {l : List Oper} (h : wpList P l.toArray Q l a w) : wpR P r (.region id l.toArray false) Q a w := by
  cases r with
  | none => exact wp_region_lit h
  | some k => exact fun hlo hc => wpIn_region_lit (JO hlo l a w (by simpa [calm] using hc) h)
theorem Jz {id : Nat} {ops : Array Oper} (hm : P.follows .mixedOrders = true) (h : wpAny P .any ops Q ops.size (Array.replicate ops.size false) a w.drew) : wpR P r (.region id ops true) Q a w := by
  cases r with
  | none => exact wp_region_any hm h
  | some k => exact fun hlo hc => wpIn_region_any hm (UB hlo (by simpa [calm] using hc) _ _ a _ h)
theorem Yfx {id : Nat} {ops : Array Oper} {C : World → Prop} (hm : P.follows .mixedOrders = true) (hB : Region.lexB .any ops = true) (hC : C w.drew)
    (h : wpQuiet P ops C (fun a' => ∀ w', C w' → Q .normal a' w') ops.toList a) : wpR P r (.region id ops true) Q a w := by
  simp only [Region.lexB, Bool.and_eq_true] at hB
  refine Jz hm (wpAny_of_quiet (Q := fun a' => ∀ w', C w' → Q .normal a' w') (fun _ w' hw' h => h w' hw') _ _ _ _ hC ?_)
  have := wpAnyQ_lex (C := C) (md := .any) hB.1 ops.toList 0 (Array.replicate ops.size false) a (by simp) (by simpa using hB.2) h
  simpa using this
theorem YgT {c : Code} (I : Nat → Act → World → Prop) (n₀ : Nat) (h₀ : I n₀ a w)
    (round : ∀ n a w, I n a w → wpR P r c (Exit.then (fun a' w' => ∃ n', n' < n ∧ I n' a' w') Q) a w) : wpR P r (.loop c) Q a w := by
  cases r with
  | none => exact wp_loop_ghost I n₀ h₀ round
  | some l => exact fun hlo hc => wpIn_loop_ghost I n₀ h₀ fun n a w hI => round n a w hI (fun ⟨a, w, hl⟩ => hlo ⟨a, w, hl⟩) hc
end
structure VQ (n : Shp) (B : Nat) (w0 : World) (Q : Exit → Act → World → Prop) (e : Exit) (env : Env) (H : List HP) : Prop where
  run : ∀ a w, Fits n a env → St B w0 H w → Q e a w
structure VC (P : Program) (n : Shp) (B : Nat) (w0 : World) (c : Code) (Q : Exit → Act → World → Prop) (env : Env) (H : List HP) : Prop where
  run : ∀ a w, Fits n a env → St B w0 H w → wpR P n.r c Q a w
def eff (o : Oper) : Bool :=
  match o.op with
  | .move _ | .assign _ | .pick _ _ _ | .build _ _ | .load _ _ | .nilCheck _ | .binOp _ _ _ _ _ | .unOp _ _ _ | .slice _ _ _ _ _ | .fieldAddr _ _ _ | .field _ _ _ | .indexAddr _ _ _ | .index _ _ _ | .lookup _ _ _ _ | .extract _ _ => false
  | .call ⟨.builtin .len, _, _⟩ | .call ⟨.builtin .min, _, _⟩ | .call ⟨.builtin .max, _, _⟩ | .call ⟨.builtin .cap, _, _⟩ => false
  | .convert _ _ _ => false
  | _ => true
def Ys (P : Program) (ops : Array Oper) (Q : Exit → Act → World → Prop) (S : World → Prop) : List Oper → Act → World → Prop
  | [], a, w => Q .normal a w
  | o :: rest, a, w =>
    if eff o then
      (if Region.wanted o (yielded ops a.tmps) then o.wp P a w (fun a' w' => S w' ∧ Ys P ops Q S rest a' w') Q else Ys P ops Q S rest (a.put o.dst undef) w)
    else ∃ v, YieldsIf P ops S o v a ∧ Ys P ops Q S rest (a.put o.dst v) w
abbrev Mode := Option (Option (List HP))
def YfT (P : Program) (m : Mode) (B : Nat) (w0 : World) (ops : Array Oper) (Q : Exit → Act → World → Prop) (l : List Oper) (a : Act) (H : List HP) : Prop :=
  match m with
  | none => ∀ w, St B w0 H w → wpList P ops Q l a w
  | some none => wpQuiet P ops (St B w0 H) (fun a' => ∀ w, St B w0 H w → Q .normal a' w) l a
  | some (some F) => ∀ w, St B w0 (H ++ F) w → Ys P ops Q (St B w0 H) l a w
structure VL (P : Program) (m : Mode) (n : Shp) (B : Nat) (w0 : World) (ops : Array Oper) (Q : Exit → Act → World → Prop) (l : List Oper) (env : Env) (H : List HP) : Prop where
  run : ∀ a, Fits n a env → YfT P m B w0 ops Q l a H
def Post (B : Nat) (w0 : World) (Φ : Value → List HP → Prop) (e : Ending) (w : World) : Prop := ∃ v H, e = .returned v ∧ St B w0 H w ∧ Φ v H
section
variable {P : Program} {n : Shp} {B : Nat} {w0 : World} {Q : Exit → Act → World → Prop} {env : Env} {H : List HP}
theorem JT {x y : Code} (h : VC P n B w0 x (Exit.then (wpR P n.r y Q) Q) env H) : VC P n B w0 (.seq x y) Q env H := ⟨fun a w ha hw => YhA (h.run a w ha hw)⟩
theorem YfA {id : Nat} {c : Code} (h : VC P n B w0 c (Exit.inBlock id Q) env H) : VC P n B w0 (.block id c) Q env H := ⟨fun a w ha hw => Yfw (h.run a w ha hw)⟩
theorem YgY (h : VQ n B w0 Q .normal env H) : VC P n B w0 .skip Q env H := ⟨fun a w ha hw => YgU (h.run a w ha hw)⟩
theorem Yh0 (h : VQ n B w0 Q .ret env H) : VC P n B w0 .ret Q env H := ⟨fun a w ha hw => Yhz (h.run a w ha hw)⟩
theorem YgX {id : Nat} (h : VQ n B w0 Q (.exit id) env H) : VC P n B w0 (.exit id) Q env H := ⟨fun a w ha hw => YgS (h.run a w ha hw)⟩
theorem Ya1 {c : Operand} {x y : Code} (hc : evo env c = some (.bool true)) (h : VC P n B w0 x Q env H) : VC P n B w0 (.cond c x y) Q env H :=
  ⟨fun a w ha hw => Ydc (ha.eval hc) (fun _ => h.run a w ha hw) (fun e => by cases e)⟩
theorem QV {c : Operand} {x y : Code} (hc : evo env c = some (.bool false)) (h : VC P n B w0 y Q env H) : VC P n B w0 (.cond c x y) Q env H :=
  ⟨fun a w ha hw => Ydc (ha.eval hc) (fun e => by cases e) (fun _ => h.run a w ha hw)⟩
theorem ZR {id : Nat} {l : List Oper} (h : VL P none n B w0 l.toArray Q l env H) : VC P n B w0 (.region id l.toArray false) Q env H := ⟨fun a w ha hw => YdQ (h.run a ha w hw)⟩
theorem YdT {id : Nat} {l : List Oper} (hm : P.follows .mixedOrders = true) (hB : Region.lexB .any l.toArray = true) (h : VL P (some none) n B w0 l.toArray Q l env H) : VC P n B w0 (.region id l.toArray true) Q env H :=
  ⟨fun a _ ha hw => Yfx (C := St B w0 H) hm hB (hw.drew) (by rw [List.toList_toArray]; exact h.run a ha)⟩
theorem Ybf {y : Code} (h : VC P n B w0 y Q env H) : VQ n B w0 (Exit.then (wpR P n.r y Q) Q) .normal env H := ⟨fun a w ha hw => h.run a w ha hw⟩
theorem Yb7 {K : Act → World → Prop} (h : VQ n B w0 Q .ret env H) : VQ n B w0 (Exit.then K Q) .ret env H := ⟨fun a w ha hw => h.run a w ha hw⟩
theorem Ybg {K : Act → World → Prop} {id : Nat} (h : VQ n B w0 Q (.exit id) env H) : VQ n B w0 (Exit.then K Q) (.exit id) env H := ⟨fun a w ha hw => h.run a w ha hw⟩
theorem Od {id : Nat} (h : VQ n B w0 Q .normal env H) : VQ n B w0 (Exit.inBlock id Q) .normal env H := ⟨fun a w ha hw => h.run a w ha hw⟩
theorem Ybd {id : Nat} (h : VQ n B w0 Q .ret env H) : VQ n B w0 (Exit.inBlock id Q) .ret env H := ⟨fun a w ha hw => h.run a w ha hw⟩
theorem QZ {id : Nat} (h : VQ n B w0 Q .normal env H) : VQ n B w0 (Exit.inBlock id Q) (.exit id) env H :=
  ⟨fun a w ha hw => by simp only [Exit.inBlock, if_true]; exact h.run a w ha hw⟩
def Next {α : Type} (n : Shp) (B : Nat) (w0 : World) (E : α → Env) (HH : α → List HP) (I : α → Prop) (μ : α → Nat) (x : α) (a : Act) (w : World) : Prop :=
  ∃ y, I y ∧ μ y < μ x ∧ Fits n a (E y) ∧ St B w0 (HH y) w
theorem YdU {α : Type} (E : α → Env) (HH : α → List HP) (I : α → Prop) (μ : α → Nat) {c : Code} (x0 : α) (h0 : I x0)
    (he : ∀ t v, get (E x0) t = some v → get env t = some v) (hH : ∀ w, St B w0 H w → St B w0 (HH x0) w)
    (round : ∀ x, I x → VC P n B w0 c (Exit.then (Next n B w0 E HH I μ x) Q) (E x) (HH x)) : VC P n B w0 (.loop c) Q env H := by
  refine ⟨fun a w ha hw => YgT (fun k a w => ∃ x, μ x = k ∧ I x ∧ Fits n a (E x) ∧ St B w0 (HH x) w) (μ x0) ⟨x0, rfl, h0, ha.sub he, hH w hw⟩ ?_⟩
  rintro k a w ⟨x, rfl, hx, ha, hw⟩
  refine Ze ((round x hx).run a w ha hw) ?_
  intro e a w hq
  cases e with
  | normal => obtain ⟨y, h1, h2, h3, h4⟩ := hq; exact ⟨μ y, h2, y, rfl, h1, h3, h4⟩
  | exit id => exact hq
  | goto l => exact hq
  | ret => exact hq
  | panic ch => exact hq
  | outgrown => exact hq
theorem Yb6 {α : Type} {E : α → Env} {HH : α → List HP} {I : α → Prop} {μ : α → Nat} {x : α} (y : α) (hI : I y) (hμ : μ y < μ x)
    (he : ∀ t v, get (E y) t = some v → get env t = some v) (hH : ∀ w, St B w0 H w → St B w0 (HH y) w) : VQ n B w0 (Exit.then (Next n B w0 E HH I μ x) Q) .normal env H :=
  ⟨fun _ w ha hw => ⟨y, hI, hμ, ha.sub he, hH w hw⟩⟩
theorem Yhv (env : Env) : ∀ t v, get [] t = some v → get env t = some v := fun _ _ h => by cases h
theorem YgJ {env e : Env} {t : Nat} {v : Value} (h : get env t = some v) (he : ∀ t v, get e t = some v → get env t = some v) : ∀ t' v', get ((t, v) :: e) t' = some v' → get env t' = some v' := by
  intro t' v' h'
  by_cases e' : t = t'
  · subst e'; rw [get, if_pos rfl] at h'; rw [← h']; exact h
  · rw [get, if_neg e'] at h'; exact he _ _ h'
theorem Yal {c : Code} (H' : List HP) (hH : ∀ w, St B w0 H w → St B w0 H' w) (h : VC P n B w0 c Q env H') : VC P n B w0 c Q env H := ⟨fun a w ha hw => h.run a w ha (hH w hw)⟩
theorem Uv {ops : Array Oper} {l : List Oper} (H' : List HP) (hH : ∀ w, St B w0 H w → St B w0 H' w) (h : VL P none n B w0 ops Q l env H') : VL P none n B w0 ops Q l env H := ⟨fun a ha w hw => h.run a ha w (hH w hw)⟩
theorem Yq {e : Exit} {A : HP} (h : VQ n B w0 Q e env H) : VQ n B w0 Q e env (A :: H) := ⟨fun a w ha hw => h.run a w ha hw.tail⟩
theorem Yi {e : Exit} (H' : List HP) (hH : ∀ w, St B w0 H w → St B w0 H' w) (h : VQ n B w0 Q e env H') : VQ n B w0 Q e env H := ⟨fun a w ha hw => h.run a w ha (hH w hw)⟩
def Vm : Nat → List Value → Env
  | _, [] => []
  | i, v :: l => (i, v) :: Vm (i + 1) l
theorem Uk : ∀ (l : List Value) (i t : Nat) (v : Value), get (Vm i l) t = some v → i ≤ t ∧ l[t - i]? = some v
  | [], i, t, v, h => by cases h
  | u :: l, i, t, v, h => by
    by_cases e : i = t
    · subst e; rw [Vm, get, if_pos rfl] at h; simp at h; simp [h]
    · rw [Vm, get, if_neg e] at h
      obtain ⟨h1, h2⟩ := Uk l (i + 1) t v h
      refine ⟨by omega, ?_⟩
      rw [show t - i = (t - (i + 1)) + 1 by omega]
      simpa using h2
theorem Yd {n : Nat} {f : FuncId} {fn : Func} {c : Code} {args : List Value} {w : World} {Φ : Value → List HP → Prop} (hf : P.funcs[f]? = some fn) (hn : fn.ntmps = n) (hb : fn.body = some c)
    (hle : Nat.ble args.length n = true) (hw : St B w0 H w) (h : VC P ⟨n, [], none⟩ B w0 c (bodyPost P fn (Post B w0 Φ)) (Vm 0 args) H) : Calls P f args.toArray w (Post B w0 Φ) := by
  refine calls_of_wp hf hb (h.run _ w ⟨rfl, ?_, fun t v ht => ?_⟩ hw)
  · have := Nat.le_of_ble_eq_true hle; simp; omega
  · obtain ⟨_, h2⟩ := Uk args 0 t v ht
    rw [Nat.sub_zero] at h2
    have hlt : t < args.length := by
      rcases Nat.lt_or_ge t args.length with h | h
      · exact h
      · rw [List.getElem?_eq_none h] at h2; cases h2
    rw [Array.getElem?_append_left (by simpa using hlt)]
    simpa using h2
theorem Yc {n : Nat} {fn : Func} {Φ : Value → List HP → Prop} {t : Nat} {v : Value} (hr : fn.results = #[.tmp t]) (hv : get env t = some v) (h : Φ v H) : VQ ⟨n, [], none⟩ B w0 (bodyPost P fn (Post B w0 Φ)) .ret env H :=
  ⟨fun a w ha hw => bodyPost_ret (results_tmp hr _ _ _) ha.defers ⟨v, H, by rw [Array.getD_eq_getD_getElem?, ha.slot t v hv]; rfl, hw, h⟩⟩
theorem Yp {n : Nat} {fn : Func} {Φ : Value → List HP → Prop} {t u : Nat} {v x : Value} (hr : fn.results = #[.tmp t, .tmp u]) (hv : get env t = some v) (hx : get env u = some x) (h : Φ (.tuple #[v, x]) H) :
    VQ ⟨n, [], none⟩ B w0 (bodyPost P fn (Post B w0 Φ)) .ret env H :=
  ⟨fun a w ha hw => bodyPost_ret (results_tmp2 hr _ _ _) ha.defers ⟨_, H, by rw [Array.getD_eq_getD_getElem?, Array.getD_eq_getD_getElem?, ha.slot t v hv, ha.slot u x hx]; rfl, hw, h⟩⟩
theorem Y6 {n : Nat} {fn : Func} {Φ : Value → List HP → Prop} {t u s : Nat} {v x y : Value} (hr : fn.results = #[.tmp t, .tmp u, .tmp s]) (hv : get env t = some v) (hx : get env u = some x) (hy : get env s = some y) (h : Φ (.tuple #[v, x, y]) H) :
    VQ ⟨n, [], none⟩ B w0 (bodyPost P fn (Post B w0 Φ)) .ret env H :=
  ⟨fun a w ha hw => bodyPost_ret (v := .tuple #[v, x, y]) (by simp [results, hr, Array.getD_eq_getD_getElem?, ha.slot t v hv, ha.slot u x hx, ha.slot s y hy]) ha.defers ⟨_, H, rfl, hw, h⟩⟩
theorem Zs {n : Nat} {fn : Func} {Φ : Value → List HP → Prop} (hr : fn.results = #[]) (h : Φ (.tuple #[]) H) : VQ ⟨n, [], none⟩ B w0 (bodyPost P fn (Post B w0 Φ)) .normal env H :=
  ⟨fun _ _ ha hw => bodyPost_end (results_none hr _ _ _) ha.defers ⟨_, H, rfl, hw, h⟩⟩
theorem Ux {n : Nat} {fn : Func} {Φ : Value → List HP → Prop} (hr : fn.results = #[]) (h : Φ (.tuple #[]) H) : VQ ⟨n, [], none⟩ B w0 (bodyPost P fn (Post B w0 Φ)) .ret env H :=
  ⟨fun _ _ ha hw => bodyPost_ret (results_none hr _ _ _) ha.defers ⟨_, H, rfl, hw, h⟩⟩
variable {ops : Array Oper} {rest : List Oper}
theorem YfK (h : VQ n B w0 Q .normal env H) : VL P none n B w0 ops Q [] env H := ⟨fun a ha w hw => wpList_nil (h.run a w ha hw)⟩
theorem Yg6 (h : VQ n B w0 Q .normal env H) : VL P (some none) n B w0 ops Q [] env H := ⟨fun a ha => show ∀ w, St B w0 H w → Q .normal a w from fun w hw => h.run a w ha hw⟩
theorem Z1 {o : Oper} {d : Nat} (Φ : Value → List HP → Prop) (hg : o.guard = none) (hd : o.dst = some d) (hn : Nat.ble (d + 1) n.k = true)
    (hr : ∀ a w, Fits n a env → St B w0 H w → ∃ v H' w', (execOp a.eval o).run P w = .ok (.value v) w' ∧ St B w0 H' w' ∧ Φ v H')
    (h : ∀ v H', Φ v H' → VL P none n B w0 ops Q rest ((d, v) :: env) H') : VL P none n B w0 ops Q (o :: rest) env H := by
  refine ⟨fun a ha w hw => wpList_plain hg fun K hK => ?_⟩
  obtain ⟨v, H', w', hrun, hst, hΦ⟩ := hr a w ha hw
  unfold Oper.wp
  rw [hrun, Oper.upon_value, hd]
  exact hK _ _ ((h v H' hΦ).run _ (ha.put (Nat.le_of_ble_eq_true hn) v) _ hst)
theorem YhB {o : Oper} {d : Nat} {v : Value} {H' : List HP} (hg : o.guard = none) (hd : o.dst = some d) (hn : Nat.ble (d + 1) n.k = true)
    (hr : ∀ a w, Fits n a env → St B w0 H w → ∃ w', (execOp a.eval o).run P w = .ok (.value v) w' ∧ St B w0 H' w')
    (h : VL P none n B w0 ops Q rest ((d, v) :: env) H') : VL P none n B w0 ops Q (o :: rest) env H :=
  Z1 (fun u K => u = v ∧ K = H') hg hd hn (fun a w ha hw => let ⟨w', h1, h2⟩ := hr a w ha hw; ⟨v, H', w', h1, h2, rfl, rfl⟩) (by rintro _ _ ⟨rfl, rfl⟩; exact h)
theorem Ob {o : Oper} {a : Act} {w : World} {v : Value} (hne : eff o = false) (hy : YieldsIf P ops (St B w0 H) o v a) (h : Ys P ops Q (St B w0 H) rest (a.put o.dst v) w) :
    Ys P ops Q (St B w0 H) (o :: rest) a w := by
  unfold Ys
  rw [if_neg (by rw [hne]; simp)]
  exact ⟨v, hy, h⟩
theorem Yu {m : Mode} {o : Oper} {d : Nat} {v : Value} (hg : o.guard = none) (hd : o.dst = some d) (hn : Nat.ble (d + 1) n.k = true) (hne : eff o = false)
    (hr : ∀ a w, Fits n a env → St B w0 H w → (execOp a.eval o).run P w = .ok (.value v) w)
    (h : VL P m n B w0 ops Q rest ((d, v) :: env) H) : VL P m n B w0 ops Q (o :: rest) env H := by
  match m with
  | none => exact YhB hg hd hn (fun a w ha hw => ⟨w, hr a w ha hw, hw⟩) h
  | some none =>
    refine ⟨fun a ha => wpQuiet_step fun K hK => ?_⟩
    rw [if_pos (by simp [Region.wanted, hg])]
    refine ⟨v, fun w hw => ?_, hK _ ?_⟩
    · unfold Oper.quietAt; rw [hr a w ha hw]; exact ⟨rfl, rfl⟩
    · rw [hd]; exact h.run _ (ha.put (Nat.le_of_ble_eq_true hn) v)
  | some (some F) =>
    refine ⟨fun a ha w hw => Ob hne (.inl ⟨by simp [Region.wanted, hg], fun w' hw' => hr a w' ha hw'⟩) ?_⟩
    rw [hd]; exact h.run _ (ha.put (Nat.le_of_ble_eq_true hn) v) w hw
theorem Oo {o : Oper} {H' : List HP} (hg : o.guard = none) (hd : o.dst = none)
    (hr : ∀ a w, Fits n a env → St B w0 H w → ∃ w', (execOp a.eval o).run P w = .ok .skip w' ∧ St B w0 H' w')
    (h : VL P none n B w0 ops Q rest env H') : VL P none n B w0 ops Q (o :: rest) env H := by
  refine ⟨fun a ha w hw => wpList_plain hg fun K hK => ?_⟩
  obtain ⟨w', hrun, hst⟩ := hr a w ha hw
  unfold Oper.wp
  rw [hrun, Oper.upon_skip, hd]
  exact hK _ _ (h.run _ ha _ hst)
theorem Ya7 {m : Mode} {dst : Option Tmp} {op : Op} {ty : TypeId} {pos : String} {after : Array Edge} {j s : Nat} {b : Bool} {oj : Oper} (hj : ops[j]? = some oj) (hs : oj.dst = some s)
    (hv : get env s = some (.bool b)) (h : VL P m n B w0 ops Q (⟨dst, op, ty, pos, after, none⟩ :: rest) env H) : VL P m n B w0 ops Q (⟨dst, op, ty, pos, after, some (j, b)⟩ :: rest) env H := by
  have hy : ∀ a : Act, Fits n a env → Region.wanted ⟨dst, op, ty, pos, after, some (j, b)⟩ (yielded ops a.tmps) = true := fun a ha => by simp [Region.wanted, yielded, hj, hs, ha.slot s _ hv]
  match m with
  | none =>
    refine ⟨fun a ha w hw => ?_⟩
    have h1 := h.run a ha w hw
    unfold wpList at h1 ⊢
    rw [if_pos (by rfl)] at h1
    rw [if_pos (hy a ha)]
    exact h1
  | some none =>
    refine ⟨fun a ha => ?_⟩
    have h1 := h.run a ha
    unfold YfT wpQuiet at h1 ⊢
    simp only at h1 ⊢
    rw [if_pos (by rfl)] at h1
    rw [if_pos (hy a ha)]
    exact h1
  | some (some F) =>
    refine ⟨fun a ha w hw => ?_⟩
    have h1 := h.run a ha w hw
    unfold Ys at h1 ⊢
    have he : eff ⟨dst, op, ty, pos, after, some (j, b)⟩ = eff ⟨dst, op, ty, pos, after, none⟩ := rfl
    rw [he]
    by_cases hef : eff ⟨dst, op, ty, pos, after, none⟩ = true
    · rw [if_pos hef] at h1 ⊢
      rw [if_pos (by rfl)] at h1
      rw [if_pos (hy a ha)]
      exact h1
    · rw [if_neg hef] at h1 ⊢
      obtain ⟨v, hyi, h2⟩ := h1
      refine ⟨v, ?_, h2⟩
      rcases hyi with ⟨_, h3⟩ | ⟨h3, _⟩
      · exact .inl ⟨hy a ha, h3⟩
      · cases h3
def notB (v : Value) (b : Bool) : Bool :=
  match v with
  | .bool c => c != b
  | _ => true
theorem YbU {m : Mode} {d : Nat} {op : Op} {ty : TypeId} {pos : String} {after : Array Edge} {j s : Nat} {b : Bool} {v : Value} {oj : Oper} (hj : ops[j]? = some oj) (hs : oj.dst = some s)
    (hv : get env s = some v) (hne : notB v b = true) (hn : Nat.ble (d + 1) n.k = true)
    (h : VL P m n B w0 ops Q rest ((d, undef) :: env) H) : VL P m n B w0 ops Q (⟨some d, op, ty, pos, after, some (j, b)⟩ :: rest) env H := by
  have hy : ∀ a : Act, Fits n a env → Region.wanted ⟨some d, op, ty, pos, after, some (j, b)⟩ (yielded ops a.tmps) = false := by
    intro a ha
    have hsl := ha.slot s _ hv
    cases v <;> simp [Region.wanted, yielded, hj, hs, hsl]
    rename_i c
    cases b <;> cases c <;> simp_all [notB]
  match m with
  | none => exact ⟨fun a ha w hw => wpList_skip (hy a ha) (h.run _ (ha.put (Nat.le_of_ble_eq_true hn) _) w hw)⟩
  | some none =>
    refine ⟨fun a ha => ?_⟩
    have h1 := h.run _ (ha.put (Nat.le_of_ble_eq_true hn) undef)
    unfold YfT wpQuiet at h1 ⊢
    simp only at h1 ⊢
    rw [if_neg (by rw [hy a ha]; simp)]
    unfold wpQuiet
    exact h1
  | some (some F) =>
    refine ⟨fun a ha w hw => ?_⟩
    have h1 := h.run _ (ha.put (Nat.le_of_ble_eq_true hn) undef) w hw
    by_cases hef : eff ⟨some d, op, ty, pos, after, some (j, b)⟩ = true
    · unfold Ys
      rw [if_pos hef, if_neg (by rw [hy a ha]; simp)]
      exact h1
    · exact Ob (by simpa using hef) (.inr ⟨hy a ha, rfl⟩) h1
theorem YfC {id : Nat} {l : List Oper} (hq : (l.all fun o => !eff o) = true) (hm : P.follows .mixedOrders = true) (hB : Region.lexB .any l.toArray = true) (h : VL P (some none) n B w0 l.toArray Q l env H) : VC P n B w0 (.region id l.toArray true) Q env H :=
  YdT hm (by have := hq; exact hB) h
def Args (env : Env) : List Operand → List Value → Prop
  | [], [] => True
  | x :: l, v :: vs => evo env x = some v ∧ Args env l vs
  | _, _ => False
theorem Yf1 {env : Env} : Args env [] [] := trivial
theorem YeC {env : Env} {x : Operand} {v : Value} {l : List Operand} {vs : List Value} (h : evo env x = some v) (hl : Args env l vs) : Args env (x :: l) (v :: vs) := ⟨h, hl⟩
theorem J3 {n : Shp} {a : Act} {env : Env} (ha : Fits n a env) : ∀ (l : List Operand) (us : List Value), Args env l us → l.map a.eval = us
  | [], [], _ => rfl
  | [], _ :: _, h => h.elim
  | _ :: _, [], h => h.elim
  | x :: l, u :: us, h => by rw [List.map_cons, ha.eval h.1, J3 ha l us h.2]
theorem YcZ {a : Act} (ha : Fits n a env) {d f : Nat} {args : List Operand} {tys : Array TypeId} {ty : TypeId} {pos : String} {after : Array Edge} {vs : List Value}
    (hc : ∀ xs w, (callFunc f xs).run P w = .ok (.enter f xs) w) (hargs : Args env args vs) (w : World) :
    (execOp a.eval ⟨some d, .call ⟨.value (.func f), args.toArray, tys⟩, ty, pos, after, none⟩).run P w = .ok (.enter f vs.toArray) w := by
  have hmap : args.toArray.map a.eval = vs.toArray := by rw [List.map_toArray, J3 ha _ _ hargs]
  simp only [execOp, resolve, Act.eval, hmap, Deferred.ofValue, Sem.run_bind, Sem.run_pure, Result.andThen_ok, invoke]
  simpa using hc (vs.toArray) w
theorem Yo {d f : Nat} {args : List Operand} {tys : Array TypeId} {ty : TypeId} {pos : String} {after : Array Edge} {vs : List Value} (Φ : Value → List HP → Prop)
    (hc : ∀ xs w, (callFunc f xs).run P w = .ok (.enter f xs) w) (hargs : Args env args vs) (hn : Nat.ble (d + 1) n.k = true)
    (hcall : ∀ w, St B w0 H w → Calls P f vs.toArray w (Post B w0 Φ))
    (h : ∀ v H', Φ v H' → VL P none n B w0 ops Q rest ((d, v) :: env) H') :
    VL P none n B w0 ops Q (⟨some d, .call ⟨.value (.func f), args.toArray, tys⟩, ty, pos, after, none⟩ :: rest) env H := by
  refine ⟨fun a ha w hw => wpList_plain rfl fun K hK => ?_⟩
  unfold Oper.wp
  rw [YcZ ha hc hargs, Oper.upon_enter]
  refine (hcall w hw).mono ?_
  rintro e w' ⟨v, H', rfl, hst, hΦ⟩
  exact hK _ _ ((h v H' hΦ).run _ (ha.put (Nat.le_of_ble_eq_true hn) v) _ hst)
theorem Ya {d f : Nat} {args : List Operand} {tys : Array TypeId} {ty : TypeId} {pos : String} {after : Array Edge} {vs : List Value} {v : Value}
    (hc : ∀ xs w, (callFunc f xs).run P w = .ok (.enter f xs) w) (hargs : Args env args vs) (hn : Nat.ble (d + 1) n.k = true)
    (hcall : ∀ w, St B w0 H w → Calls P f vs.toArray w (Post B w0 fun u K => u = v ∧ K = H))
    (h : VL P none n B w0 ops Q rest ((d, v) :: env) H) :
    VL P none n B w0 ops Q (⟨some d, .call ⟨.value (.func f), args.toArray, tys⟩, ty, pos, after, none⟩ :: rest) env H :=
  Yo _ hc hargs hn hcall (by rintro _ _ ⟨rfl, rfl⟩; exact h)
theorem Yb {d f : Nat} {args : List Operand} {tys : Array TypeId} {ty : TypeId} {pos : String} {after : Array Edge} {vs : List Value} {v : Value}
    (hc : ∀ xs w, (callFunc f xs).run P w = .ok (.enter f xs) w) (hargs : Args env args vs) (hn : Nat.ble (d + 1) n.k = true)
    (hcall : ∀ w, St B w0 H w → Calls P f vs.toArray w (Post B w0 fun u K => u = v ∧ K = H))
    (h : VL P (some none) n B w0 ops Q rest ((d, v) :: env) H) :
    VL P (some none) n B w0 ops Q (⟨some d, .call ⟨.value (.func f), args.toArray, tys⟩, ty, pos, after, none⟩ :: rest) env H := by
  refine ⟨fun a ha => wpQuiet_step fun K hK => ?_⟩
  rw [if_pos (by simp [Region.wanted])]
  refine ⟨v, fun w hw => ?_, hK _ ?_⟩
  · unfold Oper.quietAt
    rw [YcZ ha hc hargs]
    refine ⟨rfl, (hcall w hw).mono ?_⟩
    rintro e w' ⟨_, _, rfl, hst, rfl, rfl⟩
    exact ⟨rfl, hst⟩
  · exact h.run _ (ha.put (Nat.le_of_ble_eq_true hn) v)
def ancB (ops : Array Oper) : Nat → Nat → Nat → Bool
  | 0, _, _ => false
  | f + 1, j, i => match ops[j]? with
    | some oj => oj.after.any fun e => Region.binds .any e && (e.on == i || ancB ops f e.on i)
    | none => false
def Closed (ops : Array Oper) (listed : Array Bool) : Prop :=
  ∀ j oj, ops[j]? = some oj → listed.getD j false = true → ∀ e ∈ oj.after, Region.binds .any e = true → listed.getD e.on false = true
theorem Closed.set {ops : Array Oper} {listed : Array Bool} (h : Closed ops listed) {j : Nat} (hj : j ∈ Region.ready .any ops listed) : Closed ops (listed.setIfInBounds j true) := by
  obtain ⟨_, oj, hoj, hall⟩ := mem_ready.1 hj
  intro k ok hk hl e he hb
  by_cases hkj : j = k
  · subst hkj
    obtain rfl : ok = oj := Option.some.inj (hk.symm.trans hoj)
    exact getD_set_true (hall e he hb)
  · rw [getD_set_ne false hkj] at hl
    exact getD_set_true (h k ok hk hl e he hb)
theorem Ui {ops : Array Oper} {listed : Array Bool} (h : Closed ops listed) : ∀ (f j i : Nat), (∀ oj, ops[j]? = some oj → ∀ e ∈ oj.after, Region.binds .any e = true → listed.getD e.on false = true) → ancB ops f j i = true → listed.getD i false = true
  | 0, _, _, _, ha => by cases ha
  | f + 1, j, i, hp, ha => by
    unfold ancB at ha
    cases ho : ops[j]? with
    | none => rw [ho] at ha; cases ha
    | some oj =>
      rw [ho] at ha
      obtain ⟨e, he, hb⟩ := Array.any_eq_true'.1 ha
      simp only [Bool.and_eq_true, Bool.or_eq_true, beq_iff_eq] at hb
      have h1 := hp oj ho e he hb.1
      rcases hb.2 with h2 | h2
      · rw [← h2]; exact h1
      · exact Ui h f e.on i (fun ok hk => h e.on ok hk h1) h2
def XF (P : Program) (ops : Array Oper) (Q : Exit → Act → World → Prop) (S : World → Prop) (last : List Nat) : Nat → Array Bool → Act → World → Prop
  | 0, listed, a, w => Region.ready .any ops listed = [] ∧ Q .normal a w
  | fuel + 1, listed, a, w =>
    (Region.ready .any ops listed = [] → Q .normal a w) ∧
    ∀ i ∈ Region.ready .any ops listed, wpOp P ops Q i (fun a' w' => (last.contains i = false → S w') ∧ XF P ops Q S last fuel (listed.setIfInBounds i true) a' w') a w
theorem XG {S : World → Prop} {last : List Nat} : ∀ (fuel : Nat) (listed : Array Bool) (a : Act) (w : World), XF P ops Q S last fuel listed a w → wpAny P .any ops Q fuel listed a w
  | 0, _, _, _, h => h
  | fuel + 1, _, _, _, h => ⟨h.1, fun i hi => wpOp_mono (fun a' w' h' => XG fuel _ a' w' h'.2) (h.2 i hi)⟩
theorem Zd {S : World → Prop} {last : List Nat} {i : Nat} {oi : Oper} {v : Value} (hi : ops[i]? = some oi) (hsel : ∀ (j : Nat) (o : Oper) cs b, ops[j]? = some o → o.op ≠ .select cs b)
    (hQ : ∀ c (a : Act) (w : World), ¬ Q (.panic c) a w) (hlast : ∀ j, last.contains j = true → ∃ f, ancB ops f j i = true) (hil : last.contains i = false) :
    ∀ (fuel : Nat) (listed : Array Bool) (a : Act) (w : World), Closed ops listed →
      (∀ j oj, ops[j]? = some oj → j ≠ i → listed.getD j true = false → (∀ e ∈ oj.after, Region.binds .any e = true → e.on ≠ i) → oi.apart ops oj = true) →
      i ∈ Region.ready .any ops listed → YieldsIf P ops S oi v a → S w →
      XF P ops Q S last fuel (listed.setIfInBounds i true) (a.put oi.dst v) w → XF P ops Q S last (fuel + 1) listed a w := by
  intro fuel
  induction fuel with
  | zero =>
    intro listed a w _ _ hr hy hS H
    refine ⟨fun h => (by rw [h] at hr; cases hr), fun j hj => ?_⟩
    by_cases hji : j = i
    · subst hji; exact hy.wpOp hi hS ⟨fun _ => hS, H⟩
    · have := ready_mono hj hji
      rw [H.1] at this
      cases this
  | succ fuel ih =>
    intro listed a w hcl hfree hr hy hS H
    refine ⟨fun h => (by rw [h] at hr; cases hr), fun j hj => ?_⟩
    by_cases hji : j = i
    · subst hji; exact hy.wpOp hi hS ⟨fun _ => hS, H⟩
    · have h1 := H.2 j (ready_mono hj hji)
      obtain ⟨hjun, oj, hoj, hall⟩ := mem_ready.1 hj
      have hun := (mem_ready.1 hr).1
      have hun' : listed.getD i false = false := by
        rcases Nat.lt_or_ge i listed.size with h' | h'
        · simp [h'] at hun ⊢; exact hun
        · simp [Array.getElem?_eq_none h'] at hun
      have hnl : last.contains j = false := by
        cases hc : last.contains j with
        | false => rfl
        | true =>
          obtain ⟨f, hf⟩ := hlast j hc
          have := Ui hcl f j i (fun ok hk e he hb => by
            obtain rfl : ok = oj := Option.some.inj (hk.symm.trans hoj)
            exact hall e he hb) hf
          rw [hun'] at this
          cases this
      have hnot : ∀ e ∈ oj.after, Region.binds .any e = true → e.on ≠ i := fun e he hb heq => by
        have h2 := hall e he hb
        rw [heq, hun'] at h2
        cases h2
      have h2 := wpOp_putIf hoj (hfree j oj hoj hji hjun hnot) (fun cs b => hsel i oi cs b hi) (fun cs b => hsel j oj cs b hoj) (fun c a w h => (hQ c _ w h).elim) hy h1
      have hfree' : ∀ k ok, ops[k]? = some ok → k ≠ i → (listed.setIfInBounds j true).getD k true = false →
          (∀ e ∈ ok.after, Region.binds .any e = true → e.on ≠ i) → oi.apart ops ok = true := fun k ok hk hki hu hno => by
        refine hfree k ok hk hki ?_ hno
        by_cases hjk : j = k
        · subst hjk; exact hjun
        · rw [getD_set_ne true hjk] at hu; exact hu
      refine wpOp_mono (fun a' w' h3 => ⟨fun _ => h3.2.1 hnl, ih (listed.setIfInBounds j true) a' w' (hcl.set hj) hfree' (ready_mono hr (Ne.symm hji)) h3.1 (h3.2.1 hnl) ?_⟩) h2
      rw [Array.setIfInBounds_comm _ _ hji]
      exact h3.2.2
def J4 (ops : Array Oper) : List Nat → Array Bool → Bool
  | [], listed => (Region.ready .any ops listed).isEmpty
  | i :: rest, listed =>
    (match ops[i]? with
      | some o => if eff o then decide (Region.ready .any ops listed = [i]) else (Region.ready .any ops listed).contains i && Region.free .any ops listed i
      | none => false) && J4 ops rest (listed.setIfInBounds i true)
def YaL (ops : Array Oper) (last : List Nat) : Bool :=
  last.all fun j => (match ops[j]? with | some o => eff o | none => false) && (List.range ops.size).all fun i => (match ops[i]? with | some o => eff o | none => false) || ancB ops ops.size j i
def nthO : List Oper → Nat → Oper
  | [], _ => default
  | o :: _, 0 => o
  | _ :: l, i + 1 => nthO l i
theorem Ox : ∀ (l : List Oper) (i : Nat), nthO l i = l.getD i default
  | [], i => by simp [nthO]
  | o :: l, 0 => by simp [nthO]
  | o :: l, i + 1 => by simp [nthO, Ox l i]
def Yj (l : List Oper) : List Nat → List Oper
  | [] => []
  | i :: r => nthO l i :: Yj l r
def XH (P : Program) (ops : Array Oper) (Q : Exit → Act → World → Prop) (l : List Oper) : Exit → Act → World → Prop
  | .normal, a, w => wpList P ops Q l a w
  | e, a, w => Q e a w
theorem Oper.wp_mono_noQ' {o : Oper} {a : Act} {w : World} {K : Act → World → Prop} {l : List Oper} (_h1 : ∀ c (a : Act) (w : World), False → ¬ Q (.panic c) a w) (h : o.wp P a w K (XH P ops Q l)) : o.wp P a w K Q := by
  unfold Oper.wp at h ⊢
  generalize (execOp a.eval o).run P w = r at *
  cases r with
  | ok nx w' =>
    cases nx <;> simp only [Oper.upon] at h ⊢ <;> first
      | exact h
      | (refine Calls.mono h fun e w'' he => ?_
         cases e with
         | returned u => exact he
         | panicked c => exact he
         | outgrown => obtain ⟨a', w', h'⟩ := he; exact ⟨a', w', h'⟩)
  | halt x w' =>
    cases x <;> simp only [Oper.upon] at h ⊢
    exact h
theorem J0 {last : List Nat} (h : YaL ops last = true) : (∀ j, last.contains j = true → ∃ o, ops[j]? = some o ∧ eff o = true) ∧ ∀ i oi, ops[i]? = some oi → eff oi = false → ∀ j, last.contains j = true → ∃ f, ancB ops f j i = true := by
  refine ⟨fun j hj => ?_, fun i oi hi he j hj => ?_⟩
  · have h1 := List.all_eq_true.1 h j (by simpa using hj)
    simp only [Bool.and_eq_true] at h1
    cases ho : ops[j]? with
    | none => rw [ho] at h1; cases h1.1
    | some o => rw [ho] at h1; exact ⟨o, rfl, h1.1⟩
  · have h1 := List.all_eq_true.1 h j (by simpa using hj)
    simp only [Bool.and_eq_true] at h1
    have hlt : i < ops.size := (Array.getElem?_eq_some_iff.1 hi).1
    have h2 := List.all_eq_true.1 h1.2 i (List.mem_range.2 hlt)
    rw [hi] at h2
    simp only [he, Bool.false_or] at h2
    exact ⟨_, h2⟩
theorem J9 {S : World → Prop} {last : List Nat} (l : List Oper) (hl : ops = l.toArray) (hef : ∀ j, last.contains j = true → ∃ o, ops[j]? = some o ∧ eff o = true) (hlo : ¬ LetsOut Q) :
    ∀ (o2 : List Nat) (listed : Array Bool) (a : Act) (w : World), (∀ j ∈ o2, last.contains j = true) → J4 ops o2 listed = true → wpList P ops Q (Yj l o2) a w → XF P ops Q S last o2.length listed a w
  | [], listed, a, w, _, hB, h => ⟨by simpa [J4] using hB, h⟩
  | i :: rest, listed, a, w, hin, hB, h => by
    simp only [J4, Bool.and_eq_true] at hB
    obtain ⟨h1, h2⟩ := hB
    obtain ⟨o, ho, he⟩ := hef i (hin i (by simp))
    rw [ho] at h1
    simp only [he, if_true, decide_eq_true_eq] at h1
    have hget : nthO l i = o := by
      rw [Ox]
      rw [hl] at ho
      simp only [List.getElem?_toArray] at ho
      simp [List.getD, ho]
    simp only [Yj, hget] at h
    unfold wpList at h
    refine ⟨fun h0 => (by rw [h1] at h0; cases h0), fun k hk => ?_⟩
    rw [h1] at hk
    obtain rfl : k = i := by simpa using hk
    unfold wpOp
    simp only [ho]
    have hc : last.contains k = true := hin k (by simp)
    by_cases hw : Region.wanted o (yielded ops a.tmps) = true
    · rw [if_pos hw] at h ⊢
      rcases h with h | ⟨_, h⟩
      · exact .inl (Oper.wp_mono (fun a' w' h' => ⟨fun hf => (by rw [hc] at hf; cases hf), J9 l hl hef hlo rest _ a' w' (fun j hj => hin j (by simp [hj])) h2 h'⟩) h)
      · exact (hlo h).elim
    · rw [if_neg hw] at h ⊢
      exact ⟨fun hf => (by rw [hc] at hf; cases hf), J9 l hl hef hlo rest _ _ w (fun j hj => hin j (by simp [hj])) h2 h⟩
theorem Z8 {S : World → Prop} {last : List Nat} (hs : Region.noSelect ops = true) (hQ : ∀ c (a : Act) (w : World), ¬ Q (.panic c) a w) (hlo : ¬ LetsOut Q) (l : List Oper) (hl : ops = l.toArray) (hlast : YaL ops last = true) :
    ∀ (o1 : List Nat) (listed : Array Bool) (a : Act) (w : World), Closed ops listed → (∀ j ∈ o1, last.contains j = false) → J4 ops (o1 ++ last) listed = true → S w → Ys P ops (XH P ops Q (Yj l last)) S (Yj l o1) a w →
      XF P ops Q S last (o1 ++ last).length listed a w
  | [], listed, a, w, _, _, hB, _, h => J9 l hl (J0 hlast).1 hlo last listed a w (fun j hj => by simpa using hj) hB h
  | i :: rest, listed, a, w, hcl, hno, hB, hS, h => by
    simp only [List.cons_append, J4, Bool.and_eq_true] at hB
    obtain ⟨h1, h2⟩ := hB
    have hno' : ∀ j ∈ rest, last.contains j = false := fun j hj => hno j (by simp [hj])
    cases ho : ops[i]? with
    | none => rw [ho] at h1; cases h1
    | some o =>
      rw [ho] at h1
      have hget : nthO l i = o := by
        rw [Ox]
        rw [hl] at ho
        simp only [List.getElem?_toArray] at ho
        simp [List.getD, ho]
      simp only [Yj, hget] at h
      by_cases he : eff o = true
      · simp only [he, if_true, decide_eq_true_eq] at h1
        unfold Ys at h
        rw [if_pos he] at h
        refine ⟨fun h0 => (by rw [h1] at h0; cases h0), fun k hk => ?_⟩
        have hk' := hk
        rw [h1] at hk
        obtain rfl : k = i := by simpa using hk
        unfold wpOp
        simp only [ho]
        by_cases hw : Region.wanted o (yielded ops a.tmps) = true
        · rw [if_pos hw] at h ⊢
          refine .inl (Oper.wp_mono_noQ' (fun c a w h => by cases h) (Oper.wp_mono (fun a' w' h' => ⟨fun _ => h'.1, Z8 hs hQ hlo l hl hlast rest _ a' w' (hcl.set hk') hno' h2 h'.1 h'.2⟩) h))
        · rw [if_neg hw] at h ⊢
          exact ⟨fun _ => hS, Z8 hs hQ hlo l hl hlast rest _ _ w (hcl.set hk') hno' h2 hS h⟩
      · simp only [he] at h1
        simp only [Bool.false_eq_true, if_false, Bool.and_eq_true] at h1
        unfold Ys at h
        rw [if_neg he] at h
        obtain ⟨v, hy, h3⟩ := h
        have hr : i ∈ Region.ready .any ops listed := by simpa using h1.1
        exact Zd ho (Region.noSelect_spec hs) hQ ((J0 hlast).2 i o ho (by simpa using he)) (hno i (by simp)) _ listed a w hcl (Region.free_spec ho h1.2) hr hy hS (Z8 hs hQ hlo l hl hlast rest _ _ w (hcl.set hr) hno' h2 hS h3)
def Split : List Bool → List HP → List HP → List HP → Prop
  | [], L, Hc, F => Hc = [] ∧ F = L
  | true :: bs, A :: L, C :: Hc, F => C = A ∧ Split bs L Hc F
  | false :: bs, A :: L, Hc, C :: F => C = A ∧ Split bs L Hc F
  | _, _, _, _ => False
theorem Yfp {L : List HP} : Split [] L [] L := ⟨rfl, rfl⟩
theorem Yhu {bs : List Bool} {A : HP} {L Hc F : List HP} (h : Split bs L Hc F) : Split (true :: bs) (A :: L) (A :: Hc) F := ⟨rfl, h⟩
theorem Yht {bs : List Bool} {A : HP} {L Hc F : List HP} (h : Split bs L Hc F) : Split (false :: bs) (A :: L) Hc (A :: F) := by
  cases Hc <;> exact ⟨rfl, h⟩
theorem YcP (A : HP) : ∀ (L M : List HP), Perm (A :: (L ++ M)) (L ++ A :: M)
  | [], _ => Perm.refl _
  | B :: L, M => (Perm.swap A B (L ++ M)).trans ((YcP A L M).cons B)
theorem Y5 : ∀ {bs : List Bool} {L Hc F : List HP}, Split bs L Hc F → Perm L (Hc ++ F)
  | [], L, Hc, F, h => by obtain ⟨rfl, rfl⟩ := h; exact Perm.refl _
  | true :: bs, A :: L, C :: Hc, F, h => by obtain ⟨rfl, h⟩ := h; exact (Y5 h).cons C
  | false :: bs, A :: L, [], C :: F, h => by
    obtain ⟨rfl, h⟩ : C = A ∧ Split bs L [] F := h
    exact (Y5 h).cons C
  | false :: bs, A :: L, D :: Hc, C :: F, h => by
    obtain ⟨rfl, h⟩ : C = A ∧ Split bs L (D :: Hc) F := h
    exact ((Y5 h).cons C).trans (YcP C (D :: Hc) F)
  | true :: _, [], _, _, h => h.elim
  | true :: _, _ :: _, [], _, h => h.elim
  | false :: _, [], _, _, h => by cases h
  | false :: _, _ :: _, [], [], h => by cases h
  | false :: _, _ :: _, _ :: _, [], h => by cases h
theorem St.prefix_ {B : Nat} {w0 w : World} : ∀ {L F : List HP}, St B w0 (L ++ F) w → St B w0 L w := by
  intro L F h
  refine ⟨h.below, h.le, ?_⟩
  have key : ∀ (L : List HP) (S : Nat → Prop), sepL (L ++ F) S w → sepL L S w := by
    intro L
    induction L with
    | nil => intros; trivial
    | cons A L ih =>
      intro S hh
      obtain ⟨S1, S2, h1, h2, h3, h4, h5⟩ := hh
      exact ⟨S1, S2, h1, h2, h3, h4, ih S2 h5⟩
  exact key L _ h.sep
def Only (Q : Exit → Act → World → Prop) : Exit → Act → World → Prop
  | .normal, a, w => Q .normal a w
  | _, _, _ => False
theorem Xq (ops : Array Oper) (k : Nat) : Closed ops (Array.replicate k false) := by
  intro j oj _ hl
  rcases Nat.lt_or_ge j k with h | h
  · simp [h] at hl
  · simp [h] at hl
theorem ZL {id : Nat} {l : List Oper} (o1 last : List Nat) (mask : List Bool) {Hc F : List HP} (hm : P.follows .mixedOrders = true)
    (hB : (Region.noSelect l.toArray && decide ((o1 ++ last).length = l.toArray.size) && YaL l.toArray last && (o1.all fun j => !last.contains j) && J4 l.toArray (o1 ++ last) (Array.replicate l.toArray.size false)) = true)
    (hsp : Split mask H Hc F) {l1 l2 : List Oper} (hl1 : Yj l o1 = l1) (hl2 : Yj l last = l2) (h : VL P (some (some F)) n B w0 l.toArray (XH P l.toArray (Only Q) l2) l1 env Hc) : VC P n B w0 (.region id l.toArray true) Q env H := by
  simp only [Bool.and_eq_true, decide_eq_true_eq] at hB
  obtain ⟨⟨⟨⟨h1, h2⟩, h3⟩, h4⟩, h5⟩ := hB
  refine ⟨fun a w ha hw => Ze (Q := Only Q) ?_ fun e a w h => by cases e <;> first | exact h | cases h⟩
  have hst : St B w0 (Hc ++ F) w.drew := (hw.perm (Y5 hsp)).drew
  have hr : Ys P l.toArray (XH P l.toArray (Only Q) l2) (St B w0 Hc) l1 a w.drew := h.run a ha w.drew hst
  rw [← hl1, ← hl2] at hr
  have := Z8 (S := St B w0 Hc) h1 (fun c a w h => h) (by rintro ⟨_, _, h⟩; exact h) l rfl h3 o1 _ a w.drew (Xq _ _) (fun j hj => by simpa using List.all_eq_true.1 h4 j hj) h5 hst.prefix_ hr
  rw [h2] at this
  exact Jz hm (XG _ _ _ _ this)
def YbM (P : Program) (B : Nat) (w0 : World) (ops : Array Oper) (Q : Exit → Act → World → Prop) (Hc : List HP) (rest : List Oper) : Exit → Act → World → Prop
  | .normal, a, w => St B w0 Hc w ∧ Ys P ops Q (St B w0 Hc) rest a w
  | _, _, _ => False
theorem Oper.wp_mono_noQ {o : Oper} {a : Act} {w : World} {K : Act → World → Prop} {Q1 Q2 : Exit → Act → World → Prop} (h1 : ∀ c a w, ¬ Q1 (.panic c) a w) (h2 : ¬ LetsOut Q1) (h : o.wp P a w K Q1) : o.wp P a w K Q2 := by
  unfold Oper.wp at h ⊢
  generalize (execOp a.eval o).run P w = r at *
  cases r with
  | ok nx w' =>
    cases nx <;> simp only [Oper.upon] at h ⊢ <;> first
      | exact h
      | (refine Calls.mono h fun e w'' he => ?_
         cases e with
         | returned u => exact he
         | panicked c => exact (h1 _ _ _ he).elim
         | outgrown => exact (h2 he).elim)
  | halt x w' =>
    cases x <;> simp only [Oper.upon] at h ⊢
    exact (h1 _ _ _ h).elim
def App : List HP → List HP → List HP → Prop
  | [], F, HF => HF = F
  | A :: L, F, B :: HF => B = A ∧ App L F HF
  | _, _, _ => False
theorem Yhe {F : List HP} : App [] F F := rfl
theorem Yf0 {A : HP} {L F HF : List HP} (h : App L F HF) : App (A :: L) F (A :: HF) := ⟨rfl, h⟩
theorem JA : ∀ {L F HF : List HP}, App L F HF → HF = L ++ F
  | [], _, _, h => h
  | A :: L, F, B :: HF, h => by obtain ⟨rfl, h⟩ := h; rw [JA h]; rfl
  | _ :: _, _, [], h => h.elim
theorem Yg1 {o : Oper} {F HF : List HP} (he : eff o = true) (hg : o.guard = none) (happ : App H F HF) (h : VL P none n B w0 ops (YbM P B w0 ops Q H rest) [o] env HF) : VL P (some (some F)) n B w0 ops Q (o :: rest) env H := by
  refine ⟨fun a ha w hw => ?_⟩
  rw [← JA happ] at hw
  have h1 : wpList P ops (YbM P B w0 ops Q H rest) [o] a w := h.run a ha w hw
  unfold Ys
  rw [if_pos he, if_pos (by simp [Region.wanted, hg])]
  unfold wpList at h1
  rw [if_pos (by simp [Region.wanted, hg])] at h1
  have hlo : ¬ LetsOut (YbM P B w0 ops Q H rest) := by rintro ⟨_, _, h⟩; exact h
  rcases h1 with h1 | ⟨_, h2⟩
  · refine Oper.wp_mono_noQ (fun c a w h => h) hlo (Oper.wp_mono (fun a' w' h' => ?_) h1)
    exact h'
  · exact (hlo h2).elim
def Rem (A : HP) (L M : List HP) : Prop := Perm L (A :: M)
theorem Yf {A : HP} {L : List HP} : Rem A (A :: L) L := Perm.refl _
theorem Ye {A X : HP} {L M : List HP} (h : Rem A L M) : Rem A (X :: L) (X :: M) := (Perm.cons X h).trans (Perm.swap X A M)
def Pull (Hc L F : List HP) : Prop := Perm L (Hc ++ F)
theorem Yh {L : List HP} : Pull [] L L := Perm.refl _
theorem Yg {A : HP} {Hc L M F : List HP} (h : Rem A L M) (h2 : Pull Hc M F) : Pull (A :: Hc) L F := Perm.trans h (Perm.cons A h2)
theorem Yl {F H' : List HP} {Hc : List HP} (hp : Pull Hc H' F) (h : VL P (some (some F)) n B w0 ops Q rest env Hc) : VQ n B w0 (YbM P B w0 ops Q Hc rest) .normal env H' :=
  ⟨fun a w ha hw => ⟨(hw.perm hp).prefix_, h.run a ha w (hw.perm hp)⟩⟩
theorem Yn {F HF : List HP} (happ : App H F HF) (h : VQ n B w0 Q .normal env HF) : VL P (some (some F)) n B w0 ops Q [] env H :=
  ⟨fun a ha w hw => by rw [← JA happ] at hw; exact h.run a w ha hw⟩
theorem YfU {l : List Oper} (h : VL P none n B w0 ops Q l env H) : VQ n B w0 (XH P ops Q l) .normal env H := ⟨fun a w ha hw => h.run a ha w hw⟩
theorem Yhc (h : VQ n B w0 Q .normal env H) : VQ n B w0 (Only Q) .normal env H := ⟨fun a w ha hw => h.run a w ha hw⟩
end
open Go.RowKit
def Oz (P : Program) (t : TypeId) : Bool :=
  match P.underlying t with
  | some (.struct _) | some (.array _ _) | none => false
  | some _ => true
def aggT (P : Program) (t : TypeId) : Option Nat :=
  match P.underlying t with
  | some (.struct _) | some (.array _ _) => (P.info? t).map (·.size)
  | _ => none
def Vt (P : Program) (s f : Nat) : Option Nat :=
  match P.underlying s with
  | some (.struct fs) => (fs[f]?).bind fun fld => (P.info? fld.type).bind fun i => if i.size = 0 then none else some fld.offset
  | _ => none
def QJ (P : Program) (t : TypeId) : Option (Nat × Nat × Nat) :=
  match P.underlying t with
  | some (.slice e) => (P.info? e).bind fun i => i.zero.bind fun z => if z.cells.size = i.size ∧ 0 < i.size ∧ 0 < i.bytes then some (e, i.size, i.bytes) else none
  | _ => none
def OP (P : Program) (t : TypeId) : Option (Nat × Nat × Nat) :=
  match P.underlying t with
  | some (.array n e) => (P.info? e).map fun i => (n, e, i.size)
  | _ => none
def intT (P : Program) (t : TypeId) : Option IntKind :=
  match P.underlying t with
  | some (.int k) => some k
  | _ => none
def YbK (P : Program) (t : TypeId) : Bool :=
  match P.underlying t with
  | some .string => true
  | _ => false
def oneT (P : Program) (t : TypeId) : Bool := Oz P t && ((P.info? t).map (·.size)) == some 1
def look {β : Type} : List (Nat × β) → Nat → Option β
  | [], _ => none
  | (s, v) :: l, t => if s = t then some v else look l t
theorem Zy {β : Type} : ∀ {l : List (Nat × β)} {t : Nat} {v : β}, look l t = some v → (t, v) ∈ l
  | (s, u) :: l, t, v, h => by
    by_cases e : s = t
    · subst e; rw [look, if_pos rfl] at h; cases h; exact List.mem_cons_self
    · rw [look, if_neg e] at h; exact List.mem_cons_of_mem _ (Zy h)
def Vz : List (Nat × Nat × Nat) → Nat → Nat → Option Nat
  | [], _, _ => none
  | (s, f, v) :: l, t, g => if s = t then (if f = g then some v else Vz l t g) else Vz l t g
theorem Wp : ∀ {l : List (Nat × Nat × Nat)} {t g v : Nat}, Vz l t g = some v → (t, g, v) ∈ l
  | (s, f, u) :: l, t, g, v, h => by
    by_cases e : s = t
    · subst e
      rw [Vz, if_pos rfl] at h
      by_cases e' : f = g
      · subst e'; rw [if_pos rfl] at h; cases h; exact List.mem_cons_self
      · rw [if_neg e'] at h; exact List.mem_cons_of_mem _ (Wp h)
    · rw [Vz, if_neg e] at h; exact List.mem_cons_of_mem _ (Wp h)
structure Tab (P : Program) where
  sc : List (Nat × Unit)
  ag : List (Nat × Nat)
  fo : List (Nat × Nat × Nat)
  sl : List (Nat × (Nat × Nat × Nat))
  ar : List (Nat × (Nat × Nat × Nat))
  ik : List (Nat × IntKind)
  st : List (Nat × Unit)
  sc_ok : (sc.all fun x => oneT P x.1) = true
  ag_ok : (ag.all fun x => aggT P x.1 == some x.2) = true
  fo_ok : (fo.all fun x => Vt P x.1 x.2.1 == some x.2.2) = true
  sl_ok : (sl.all fun x => QJ P x.1 == some x.2) = true
  ar_ok : (ar.all fun x => OP P x.1 == some x.2) = true
  ik_ok : (ik.all fun x => decide (intT P x.1 = some x.2)) = true
  st_ok : (st.all fun x => YbK P x.1) = true
section
variable {P : Program} (T : Tab P)
theorem Tab.scal {t : Nat} (h : look T.sc t = some ()) : Oz P t = true ∧ (P.info? t).map (·.size) = some 1 := by
  have := List.all_eq_true.1 T.sc_ok _ (Zy h)
  simpa [oneT] using this
theorem Tab.aggs {t k : Nat} (h : look T.ag t = some k) : aggT P t = some k := by simpa using List.all_eq_true.1 T.ag_ok _ (Zy h)
theorem Tab.offs {s f k : Nat} (h : Vz T.fo s f = some k) : Vt P s f = some k := by simpa using List.all_eq_true.1 T.fo_ok _ (Wp h)
theorem Tab.slic {t e k b : Nat} (h : look T.sl t = some (e, k, b)) : QJ P t = some (e, k, b) := by simpa using List.all_eq_true.1 T.sl_ok _ (Zy h)
theorem Tab.arra {t m e k : Nat} (h : look T.ar t = some (m, e, k)) : OP P t = some (m, e, k) := by simpa using List.all_eq_true.1 T.ar_ok _ (Zy h)
theorem Tab.strs {t : Nat} (h : look T.st t = some ()) : P.underlying t = some .string := by
  have := List.all_eq_true.1 T.st_ok _ (Zy h)
  simp only [YbK] at this
  split at this <;> simp_all
theorem Tab.ints {t : Nat} {k : IntKind} (h : look T.ik t = some k) : intT P t = some k := by simpa using List.all_eq_true.1 T.ik_ok _ (Zy h)
end
theorem YaJ {P : Program} {t : TypeId} {k : IntKind} (h : intT P t = some k) : P.underlying t = some (.int k) := by
  unfold intT at h
  split at h
  · cases h; assumption
  · cases h
theorem XC {P : Program} {t : TypeId} (h : Oz P t = true) (w : World) : (isAgg t).run P w = .ok false w := by
  unfold Oz at h
  cases hu : P.underlying t with
  | none => rw [hu] at h; cases h
  | some d => rw [hu] at h; cases d <;> first | (simp [isAgg, run_underlying hu]; done) | cases h
theorem X9 {P : Program} {t : TypeId} {k : Nat} (h : aggT P t = some k) (w : World) : (isAgg t).run P w = .ok true w := by
  unfold aggT at h
  cases hu : P.underlying t with
  | none => rw [hu] at h; cases h
  | some d => rw [hu] at h; cases d <;> first | (simp [isAgg, run_underlying hu]; done) | cases h
theorem Xv {P : Program} {t : TypeId} {k : Nat} (h : (P.info? t).map (·.size) = some k) (w : World) : (sizeOf t).run P w = .ok k w := by
  cases hi : P.info? t with
  | none => rw [hi] at h; cases h
  | some i => rw [hi] at h; simp at h; subst h; simp [sizeOf, typeInfo, hi]
theorem ZS {P : Program} {t : TypeId} {k : Nat} (h : aggT P t = some k) : (P.info? t).map (·.size) = some k := by
  unfold aggT at h
  split at h <;> first | exact h | cases h
def nth : List Value → Nat → Option Value
  | [], _ => none
  | v :: _, 0 => some v
  | _ :: l, i + 1 => nth l i
theorem YdA : ∀ (l : List Value) (i : Nat), nth l i = l[i]?
  | [], i => by simp [nth]
  | v :: l, 0 => by simp [nth]
  | v :: l, i + 1 => by simp [nth, YdA l i]
theorem Ybx (cs : Array Value) (i : Nat) : nth cs.toList i = cs[i]? := by rw [YdA]; simp
section
variable {P : Program} {m : Mode} {n : Shp} {B : Nat} {w0 : World} {Q : Exit → Act → World → Prop} {env : Env} {H : List HP} {ops : Array Oper} {rest : List Oper}
variable {d : Nat} {ty : TypeId} {pos : String} {after : Array Edge}
theorem Yg5 {x : Operand} {v : Value} (hx : evo env x = some v) (hn : Nat.ble (d + 1) n.k = true) (h : VL P m n B w0 ops Q rest ((d, v) :: env) H) :
    VL P m n B w0 ops Q (⟨some d, .move x, ty, pos, after, none⟩ :: rest) env H :=
  Yu rfl rfl hn rfl (fun a w ha _ => by simp [execOp, ha.eval hx]) h
theorem Yew {x : Operand} {v : Value} (hx : evo env x = some v) (hn : Nat.ble (d + 1) n.k = true) (h : VL P m n B w0 ops Q rest ((d, v) :: env) H) :
    VL P m n B w0 ops Q (⟨some d, .assign x, ty, pos, after, none⟩ :: rest) env H :=
  Yu rfl rfl hn rfl (fun a w ha _ => by simp [execOp, ha.eval hx]) h
theorem Yba {c x y : Operand} {v : Value} (hc : evo env c = some (.bool true)) (hx : evo env x = some v) (hn : Nat.ble (d + 1) n.k = true) (h : VL P m n B w0 ops Q rest ((d, v) :: env) H) :
    VL P m n B w0 ops Q (⟨some d, .pick c x y, ty, pos, after, none⟩ :: rest) env H :=
  Yu rfl rfl hn rfl (fun a w ha _ => by simp [execOp, ha.eval hx, ha.eval hc, asBool]) h
theorem QX {c x y : Operand} {v : Value} (hc : evo env c = some (.bool false)) (hx : evo env y = some v) (hn : Nat.ble (d + 1) n.k = true) (h : VL P m n B w0 ops Q rest ((d, v) :: env) H) :
    VL P m n B w0 ops Q (⟨some d, .pick c x y, ty, pos, after, none⟩ :: rest) env H :=
  Yu rfl rfl hn rfl (fun a w ha _ => by simp [execOp, ha.eval hx, ha.eval hc, asBool]) h
theorem WA {x : Operand} {p : Addr} (hx : evo env x = some (.pointer (some p))) (hn : Nat.ble (d + 1) n.k = true) (h : VL P m n B w0 ops Q rest ((d, .pointer (some p)) :: env) H) :
    VL P m n B w0 ops Q (⟨some d, .nilCheck x, ty, pos, after, none⟩ :: rest) env H :=
  Yu rfl rfl hn rfl (fun a w ha _ => by simp [execOp, ha.eval hx]) h
theorem Ydh {x : Operand} {i : Nat} {vs : Array Value} {v : Value} (hx : evo env x = some (.tuple vs)) (hv : nth vs.toList i = some v) (hn : Nat.ble (d + 1) n.k = true) (h : VL P m n B w0 ops Q rest ((d, v) :: env) H) :
    VL P m n B w0 ops Q (⟨some d, .extract x i, ty, pos, after, none⟩ :: rest) env H :=
  Yu rfl rfl hn rfl (fun a w ha _ => by rw [Ybx] at hv; simp [execOp, ha.eval hx, Instr.extract, hv]) h
theorem YfM {x : Operand} {b : Bool} {xt : TypeId} (hx : evo env x = some (.bool b)) (hn : Nat.ble (d + 1) n.k = true) (h : VL P m n B w0 ops Q rest ((d, .bool (!b)) :: env) H) :
    VL P m n B w0 ops Q (⟨some d, .unOp .not xt x, ty, pos, after, none⟩ :: rest) env H :=
  Yu rfl rfl hn rfl (fun a w ha _ => by simp [execOp, ha.eval hx, Op.unary]) h
theorem YbZ {x : Operand} {xt : TypeId} (hx : evo env x = some (.bool true)) (hn : Nat.ble (d + 1) n.k = true) (h : VL P m n B w0 ops Q rest ((d, .bool false) :: env) H) :
    VL P m n B w0 ops Q (⟨some d, .unOp .not xt x, ty, pos, after, none⟩ :: rest) env H := YfM hx hn h
theorem Ya9 {x : Operand} {xt : TypeId} (hx : evo env x = some (.bool false)) (hn : Nat.ble (d + 1) n.k = true) (h : VL P m n B w0 ops Q rest ((d, .bool true) :: env) H) :
    VL P m n B w0 ops Q (⟨some d, .unOp .not xt x, ty, pos, after, none⟩ :: rest) env H := YfM hx hn h
theorem YI {op : BinOp} {xt yt : TypeId} {x y : Operand} {u v z : Value} (hx : evo env x = some u) (hy : evo env y = some v) (hn : Nat.ble (d + 1) n.k = true)
    (hg : ∀ w, (eqGuard op xt x y u v).run P w = .ok () w) (hb : ∀ w, (binOp op xt u v).run P w = .ok z w)
    (h : VL P m n B w0 ops Q rest ((d, z) :: env) H) : VL P m n B w0 ops Q (⟨some d, .binOp op xt x y yt, ty, pos, after, none⟩ :: rest) env H :=
  Yu rfl rfl hn rfl (fun a w ha _ => by simp [execOp, ha.eval hx, ha.eval hy, hg w, hb w]) h
section
variable {xt yt : TypeId} {x y : Operand} {k : IntKind} {a b : Int}
theorem YbR (hx : evo env x = some (.int k a)) (hy : evo env y = some (.int k b)) (hn : Nat.ble (d + 1) n.k = true) (h : VL P m n B w0 ops Q rest ((d, .int k (k.wrap (a + b))) :: env) H) :
    VL P m n B w0 ops Q (⟨some d, .binOp .add xt x y yt, ty, pos, after, none⟩ :: rest) env H := YI hx hy hn (fun _ => rfl) (fun _ => by rw [binOp_add]; rfl) h
theorem Yb3 (hx : evo env x = some (.int k a)) (hy : evo env y = some (.int k b)) (hn : Nat.ble (d + 1) n.k = true) (h : VL P m n B w0 ops Q rest ((d, .int k (k.wrap (a - b))) :: env) H) :
    VL P m n B w0 ops Q (⟨some d, .binOp .sub xt x y yt, ty, pos, after, none⟩ :: rest) env H := YI hx hy hn (fun _ => rfl) (fun _ => by rw [binOp_sub]; rfl) h
theorem YfJ (hx : evo env x = some (.int k a)) (hy : evo env y = some (.int k b)) (hn : Nat.ble (d + 1) n.k = true) (h : VL P m n B w0 ops Q rest ((d, .int k (k.wrap (a * b))) :: env) H) :
    VL P m n B w0 ops Q (⟨some d, .binOp .mul xt x y yt, ty, pos, after, none⟩ :: rest) env H := YI hx hy hn (fun _ => rfl) (fun _ => by rw [binOp_mul]; rfl) h
theorem Yh1 (hx : evo env x = some (.int .i64 a)) (hy : evo env y = some (.int .i64 b)) (hn : Nat.ble (d + 1) n.k = true) (hb : -9223372036854775808 ≤ a + b ∧ a + b ≤ 9223372036854775807) (h : VL P m n B w0 ops Q rest ((d, .int .i64 (a + b)) :: env) H) :
    VL P m n B w0 ops Q (⟨some d, .binOp .add xt x y yt, ty, pos, after, none⟩ :: rest) env H := YbR hx hy hn (by rw [IntWalk.i64_in _ hb]; exact h)
theorem Yif (hx : evo env x = some (.int .i64 a)) (hy : evo env y = some (.int .i64 b)) (hn : Nat.ble (d + 1) n.k = true) (hb : -9223372036854775808 ≤ a - b ∧ a - b ≤ 9223372036854775807) (h : VL P m n B w0 ops Q rest ((d, .int .i64 (a - b)) :: env) H) :
    VL P m n B w0 ops Q (⟨some d, .binOp .sub xt x y yt, ty, pos, after, none⟩ :: rest) env H := Yb3 hx hy hn (by rw [IntWalk.i64_in _ hb]; exact h)
theorem Yh9 (hx : evo env x = some (.int .i64 a)) (hy : evo env y = some (.int .i64 b)) (hn : Nat.ble (d + 1) n.k = true) (hb : -9223372036854775808 ≤ a * b ∧ a * b ≤ 9223372036854775807) (h : VL P m n B w0 ops Q rest ((d, .int .i64 (a * b)) :: env) H) :
    VL P m n B w0 ops Q (⟨some d, .binOp .mul xt x y yt, ty, pos, after, none⟩ :: rest) env H := YfJ hx hy hn (by rw [IntWalk.i64_in _ hb]; exact h)
theorem YfO (hx : evo env x = some (.int k a)) (hy : evo env y = some (.int k b)) (hn : Nat.ble (d + 1) n.k = true) (hb : b ≠ 0) (h : VL P m n B w0 ops Q rest ((d, .int k (k.wrap (a.tdiv b))) :: env) H) :
    VL P m n B w0 ops Q (⟨some d, .binOp .quo xt x y yt, ty, pos, after, none⟩ :: rest) env H := YI hx hy hn (fun _ => rfl) (fun _ => by rw [binOp_quo]; simp [Op.intDiv, hb]) h
theorem YfP (hx : evo env x = some (.int k a)) (hy : evo env y = some (.int k b)) (hn : Nat.ble (d + 1) n.k = true) (hb : b ≠ 0) (h : VL P m n B w0 ops Q rest ((d, .int k (a.tmod b)) :: env) H) :
    VL P m n B w0 ops Q (⟨some d, .binOp .rem xt x y yt, ty, pos, after, none⟩ :: rest) env H := YI hx hy hn (fun _ => rfl) (fun _ => by rw [binOp_rem]; simp [Op.intDiv, hb]) h
theorem Yic (hx : evo env x = some (.int .i64 a)) (hy : evo env y = some (.int .i64 b)) (hn : Nat.ble (d + 1) n.k = true) (hb : 0 ≤ a ∧ a ≤ 9223372036854775807 ∧ 1 ≤ b) (h : VL P m n B w0 ops Q rest ((d, .int .i64 (a / b)) :: env) H) :
    VL P m n B w0 ops Q (⟨some d, .binOp .quo xt x y yt, ty, pos, after, none⟩ :: rest) env H := by
  refine YfO hx hy hn (by omega) ?_
  have h1 : a / b ≤ a := Int.ediv_le_self _ hb.1
  have h2 : 0 ≤ a / b := Int.ediv_nonneg hb.1 (by omega)
  rw [Int.tdiv_eq_ediv_of_nonneg hb.1, IntWalk.i64_in _ (by omega)]
  exact h
theorem Yid (hx : evo env x = some (.int k a)) (hy : evo env y = some (.int k b)) (hn : Nat.ble (d + 1) n.k = true) (hb : 0 ≤ a ∧ 1 ≤ b) (h : VL P m n B w0 ops Q rest ((d, .int k (a % b)) :: env) H) :
    VL P m n B w0 ops Q (⟨some d, .binOp .rem xt x y yt, ty, pos, after, none⟩ :: rest) env H := by
  refine YfP hx hy hn (by omega) ?_
  rw [Int.tmod_eq_emod_of_nonneg hb.1]
  exact h
theorem Yh7 (hx : evo env x = some (.int k a)) (hy : evo env y = some (.int k b)) (hn : Nat.ble (d + 1) n.k = true) (h1 : a < b → VL P m n B w0 ops Q rest ((d, .bool true) :: env) H) (h2 : b ≤ a → VL P m n B w0 ops Q rest ((d, .bool false) :: env) H) :
    VL P m n B w0 ops Q (⟨some d, .binOp .lss xt x y yt, ty, pos, after, none⟩ :: rest) env H := by
  by_cases hc : a < b
  · exact YI hx hy hn (fun _ => rfl) (fun _ => by rw [binOp_lss, decide_eq_true hc]; rfl) (h1 hc)
  · exact YI hx hy hn (fun _ => rfl) (fun _ => by rw [binOp_lss, decide_eq_false hc]; rfl) (h2 (by omega))
theorem Yh6 (hx : evo env x = some (.int k a)) (hy : evo env y = some (.int k b)) (hn : Nat.ble (d + 1) n.k = true) (h1 : a ≤ b → VL P m n B w0 ops Q rest ((d, .bool true) :: env) H) (h2 : b < a → VL P m n B w0 ops Q rest ((d, .bool false) :: env) H) :
    VL P m n B w0 ops Q (⟨some d, .binOp .leq xt x y yt, ty, pos, after, none⟩ :: rest) env H := by
  by_cases hc : a ≤ b
  · exact YI hx hy hn (fun _ => rfl) (fun _ => by rw [binOp_leq, decide_eq_true hc]; rfl) (h1 hc)
  · exact YI hx hy hn (fun _ => rfl) (fun _ => by rw [binOp_leq, decide_eq_false hc]; rfl) (h2 (by omega))
theorem Yh4 (hx : evo env x = some (.int k a)) (hy : evo env y = some (.int k b)) (hn : Nat.ble (d + 1) n.k = true) (h1 : b < a → VL P m n B w0 ops Q rest ((d, .bool true) :: env) H) (h2 : a ≤ b → VL P m n B w0 ops Q rest ((d, .bool false) :: env) H) :
    VL P m n B w0 ops Q (⟨some d, .binOp .gtr xt x y yt, ty, pos, after, none⟩ :: rest) env H := by
  by_cases hc : a > b
  · exact YI hx hy hn (fun _ => rfl) (fun _ => by rw [binOp_gtr, decide_eq_true hc]; rfl) (h1 hc)
  · exact YI hx hy hn (fun _ => rfl) (fun _ => by rw [binOp_gtr, decide_eq_false hc]; rfl) (h2 (by omega))
theorem Yh3 (hx : evo env x = some (.int k a)) (hy : evo env y = some (.int k b)) (hn : Nat.ble (d + 1) n.k = true) (h1 : b ≤ a → VL P m n B w0 ops Q rest ((d, .bool true) :: env) H) (h2 : a < b → VL P m n B w0 ops Q rest ((d, .bool false) :: env) H) :
    VL P m n B w0 ops Q (⟨some d, .binOp .geq xt x y yt, ty, pos, after, none⟩ :: rest) env H := by
  by_cases hc : a ≥ b
  · exact YI hx hy hn (fun _ => rfl) (fun _ => by rw [binOp_geq, decide_eq_true hc]; rfl) (h1 hc)
  · exact YI hx hy hn (fun _ => rfl) (fun _ => by rw [binOp_geq, decide_eq_false hc]; rfl) (h2 (by omega))
theorem Yh2 (hx : evo env x = some (.int k a)) (hy : evo env y = some (.int k b)) (hn : Nat.ble (d + 1) n.k = true) (h1 : a = b → VL P m n B w0 ops Q rest ((d, .bool true) :: env) H) (h2 : a ≠ b → VL P m n B w0 ops Q rest ((d, .bool false) :: env) H) :
    VL P m n B w0 ops Q (⟨some d, .binOp .eql xt x y yt, ty, pos, after, none⟩ :: rest) env H := by
  by_cases hc : a = b
  · exact YI hx hy hn (fun _ => rfl) (fun _ => by rw [binOp_eql, beq_iff_eq.2 hc]; rfl) (h1 hc)
  · exact YI hx hy hn (fun _ => rfl) (fun _ => by rw [binOp_eql, beq_eq_false_iff_ne.2 hc]; rfl) (h2 hc)
theorem Yia (hx : evo env x = some (.int k a)) (hy : evo env y = some (.int k b)) (hn : Nat.ble (d + 1) n.k = true) (h1 : a ≠ b → VL P m n B w0 ops Q rest ((d, .bool true) :: env) H) (h2 : a = b → VL P m n B w0 ops Q rest ((d, .bool false) :: env) H) :
    VL P m n B w0 ops Q (⟨some d, .binOp .neq xt x y yt, ty, pos, after, none⟩ :: rest) env H := by
  by_cases hc : a = b
  · exact YI hx hy hn (fun _ => rfl) (fun _ => by rw [binOp_neq]; simp [hc]) (h2 hc)
  · exact YI hx hy hn (fun _ => rfl) (fun _ => by rw [binOp_neq]; simp [hc]) (h1 hc)
theorem Yie (hx : evo env x = some (.int k a)) {yk : IntKind} (hy : evo env y = some (.int yk b)) (hn : Nat.ble (d + 1) n.k = true) (hb : 0 ≤ b ∧ b ≤ k.bits) (h : VL P m n B w0 ops Q rest ((d, .int k (a / 2 ^ b.toNat)) :: env) H) :
    VL P m n B w0 ops Q (⟨some d, .binOp .shr xt x y yt, ty, pos, after, none⟩ :: rest) env H :=
  YI hx hy hn (fun _ => rfl) (fun _ => by rw [binOp_shr, shift_shr _ _ _ _ hb.1 hb.2]; rfl) h
theorem YfQ {yk : IntKind} {D : Int} (hx : evo env x = some (.int k a)) (hn : Nat.ble (d + 1) n.k = true) (hb : 0 ≤ b ∧ b ≤ k.bits) (hD : (2 : Int) ^ b.toNat = D) (h : VL P m n B w0 ops Q rest ((d, .int k (a / D)) :: env) H) :
    VL P m n B w0 ops Q (⟨some d, .binOp .shr xt x (.const (.int yk b)) yt, ty, pos, after, none⟩ :: rest) env H :=
  Yie hx (y := .const (.int yk b)) rfl hn hb (by rw [hD]; exact h)
theorem On (T : Tab P) {src dst : TypeId} {j : IntKind} (hx : evo env x = some (.int k a)) (hs : look T.ik src = some j) {kd : IntKind} (ht : look T.ik dst = some kd) (hn : Nat.ble (d + 1) n.k = true) (h : VL P m n B w0 ops Q rest ((d, .int kd (kd.wrap a)) :: env) H) :
    VL P m n B w0 ops Q (⟨some d, .convert src dst x, ty, pos, after, none⟩ :: rest) env H := by
  refine Yu rfl rfl hn rfl (fun f w ha _ => ?_) h
  simp [execOp, ha.eval hx, convert, run_underlying (YaJ (T.ints hs)), run_underlying (YaJ (T.ints ht)), Conv.intToInt]
theorem Ydg (T : Tab P) {src dst : TypeId} {j : IntKind} (hx : evo env x = some (.int k a)) (hs : look T.ik src = some j) (ht : look T.ik dst = some .i64) (hn : Nat.ble (d + 1) n.k = true) (hb : -9223372036854775808 ≤ a ∧ a ≤ 9223372036854775807)
    (h : VL P m n B w0 ops Q rest ((d, .int .i64 a) :: env) H) : VL P m n B w0 ops Q (⟨some d, .convert src dst x, ty, pos, after, none⟩ :: rest) env H :=
  On T hx hs ht hn (by rw [IntWalk.i64_in _ hb]; exact h)
end
theorem UC (s t : ByteArray) : (s.toList == t.toList) = true ↔ s = t := by
  rw [beq_iff_eq]
  constructor
  · intro h
    rw [ByteArray.toList_eq, ByteArray.toList_eq] at h
    cases s; cases t
    simp at h
    rw [h]
  · rintro rfl; rfl
section
variable {xt yt : TypeId} {x y : Operand} {s t : ByteArray}
theorem YdY (hx : evo env x = some (.string s)) (hy : evo env y = some (.string t)) (hn : Nat.ble (d + 1) n.k = true) (h1 : s = t → VL P m n B w0 ops Q rest ((d, .bool true) :: env) H) (h2 : s ≠ t → VL P m n B w0 ops Q rest ((d, .bool false) :: env) H) :
    VL P m n B w0 ops Q (⟨some d, .binOp .eql xt x y yt, ty, pos, after, none⟩ :: rest) env H := by
  by_cases hc : s = t
  · exact YI hx hy hn (fun _ => rfl) (fun _ => by simp [binOp, Op.stringOp, hc]) (h1 hc)
  · refine YI hx hy hn (fun _ => rfl) (fun _ => ?_) (h2 hc)
    have : (s.toList == t.toList) = false := by rw [Bool.eq_false_iff]; exact fun e => hc ((UC s t).1 e)
    simp only [binOp, Op.stringOp, this]; rfl
theorem Yg9 (hx : evo env x = some (.string s)) (hy : evo env y = some (.string t)) (hn : Nat.ble (d + 1) n.k = true) (h1 : s ≠ t → VL P m n B w0 ops Q rest ((d, .bool true) :: env) H) (h2 : s = t → VL P m n B w0 ops Q rest ((d, .bool false) :: env) H) :
    VL P m n B w0 ops Q (⟨some d, .binOp .neq xt x y yt, ty, pos, after, none⟩ :: rest) env H := by
  by_cases hc : s = t
  · exact YI hx hy hn (fun _ => rfl) (fun _ => by simp [binOp, Op.stringOp, hc]) (h2 hc)
  · refine YI hx hy hn (fun _ => rfl) (fun _ => ?_) (h1 hc)
    have : (s.toList == t.toList) = false := by rw [Bool.eq_false_iff]; exact fun e => hc ((UC s t).1 e)
    simp only [binOp, Op.stringOp, this]; rfl
theorem Yg7 (hx : evo env x = some (.string s)) (hy : evo env y = some (.string t)) (hn : Nat.ble (d + 1) n.k = true) (hb : s.size + t.size ≤ 9223372036854775807) (h : VL P m n B w0 ops Q rest ((d, .string (s ++ t)) :: env) H) :
    VL P m n B w0 ops Q (⟨some d, .binOp .add xt x y yt, ty, pos, after, none⟩ :: rest) env H := by
  refine YI hx hy hn (fun _ => rfl) (fun _ => ?_) h
  have : ¬ ((s.size + t.size : Nat) : Int) > IntKind.i64.max := by rw [IntKind.max_i64]; omega
  simp only [binOp, Op.stringOp, if_neg this]; rfl
theorem Yg8 (T : Tab P) (hx : evo env x = some (.string s)) {tx : TypeId} (ht : look T.st tx = some ()) (hn : Nat.ble (d + 1) n.k = true) (h : VL P m n B w0 ops Q rest ((d, .int .i64 s.size) :: env) H) :
    VL P m n B w0 ops Q (⟨some d, .call ⟨.builtin .len, #[x], #[tx]⟩, ty, pos, after, none⟩ :: rest) env H :=
  Yu rfl rfl hn rfl (fun f w ha _ => by simp [execOp, resolve, invoke, builtin, ha.eval hx, Builtin.len_, run_underlying (T.strs ht), goInt]) h
end
theorem Ya5 (T : Tab P) {s f k g i : Nat} {x : Operand} (hx : evo env x = some (.pointer (some ⟨g, i, none⟩))) (hf : Vz T.fo s f = some k) (hn : Nat.ble (d + 1) n.k = true)
    (h : VL P m n B w0 ops Q rest ((d, .pointer (some ⟨g, i + k, none⟩)) :: env) H) : VL P m n B w0 ops Q (⟨some d, .fieldAddr s x f, ty, pos, after, none⟩ :: rest) env H := by
  refine Yu rfl rfl hn rfl (fun a w ha _ => ?_) h
  have h1 := T.offs hf
  unfold Vt at h1
  split at h1
  · rename_i fs hu
    cases hfl : fs[f]? with
    | none => rw [hfl] at h1; cases h1
    | some fld =>
      rw [hfl] at h1
      simp only [Option.bind_some] at h1
      cases hi : P.info? fld.type with
      | none => rw [hi] at h1; cases h1
      | some inf =>
        rw [hi] at h1
        simp only [Option.bind_some] at h1
        by_cases hz : inf.size = 0
        · rw [if_pos hz] at h1; cases h1
        · rw [if_neg hz] at h1
          have h2 : fld.offset = k := by simpa using h1
          subst h2
          simp [execOp, ha.eval hx, Instr.fieldAt, run_underlying hu, hfl, Instr.sureAddr, fieldPlace, sizeOf, typeInfo, hi, hz, Addr.add_lit]
  · cases h1
theorem YT {w : World} {g i : Nat} {cs : Array Value} {t : TypeId} {fr : Nat × Nat} (h : w.heap[g]? = some (.cells cs t fr)) : w.cell? ⟨g, i, none⟩ = cs[i]? := by simp [World.cell?, h]
theorem Yg2 (T : Tab P) {t g i : Nat} {cs : Array Value} {tt : TypeId} {fr : Nat × Nat} {v : Value} {x : Operand} (hx : evo env x = some (.pointer (some ⟨g, i, none⟩))) (hm : blk g (.cells cs tt fr) ∈ H) (hv : nth cs.toList i = some v)
    (ht : look T.sc t = some ()) (hn : Nat.ble (d + 1) n.k = true) (h : VL P m n B w0 ops Q rest ((d, v) :: env) H) : VL P m n B w0 ops Q (⟨some d, .load t x, ty, pos, after, none⟩ :: rest) env H := by
  refine Yu rfl rfl hn rfl (fun a w ha hw => ?_) h
  rw [Ybx] at hv
  have hc := YT (i := i) (hw.blk hm).1
  simp [execOp, ha.eval hx, Instr.loadAt, Instr.sureAddr, loadVar, XC (T.scal ht).1, hc, hv]
theorem QW (T : Tab P) {t g k : Nat} {cs : Array Value} {tt : TypeId} {fr : Nat × Nat} {x : Operand} (hx : evo env x = some (.pointer (some ⟨g, 0, none⟩))) (hm : blk g (.cells cs tt fr) ∈ H)
    (ht : look T.ag t = some k) (hk : cs.size = k) (hn : Nat.ble (d + 1) n.k = true) (h : VL P m n B w0 ops Q rest ((d, .agg cs) :: env) H) :
    VL P m n B w0 ops Q (⟨some d, .load t x, ty, pos, after, none⟩ :: rest) env H := by
  refine Yu rfl rfl hn rfl (fun a w ha hw => ?_) h
  have hb := (hw.blk hm).1
  have hl := run_loadCells_list (P := P) w ⟨g, 0, none⟩ cs.toList (fun j v hj => by rw [Addr.add_lit, YT hb, Nat.zero_add]; simpa using hj)
  rw [show cs.toList.length = k by simpa using hk] at hl
  simp [execOp, ha.eval hx, Instr.loadAt, Instr.sureAddr, loadVar, X9 (T.aggs ht), Xv (ZS (T.aggs ht)), hl]
theorem YbX (T : Tab P) {t g i k : Nat} {cs : Array Value} {vs : List Value} {tt : TypeId} {fr : Nat × Nat} {x : Operand} (hx : evo env x = some (.pointer (some ⟨g, i, none⟩))) (hm : blk g (.cells cs tt fr) ∈ H)
    (ht : look T.ag t = some k) (hk : vs.length = k) (hv : ∀ j v, vs[j]? = some v → cs[i + j]? = some v) (hn : Nat.ble (d + 1) n.k = true) (h : VL P m n B w0 ops Q rest ((d, .agg vs.toArray) :: env) H) :
    VL P m n B w0 ops Q (⟨some d, .load t x, ty, pos, after, none⟩ :: rest) env H := by
  refine Yu rfl rfl hn rfl (fun a w ha hw => ?_) h
  have hb := (hw.blk hm).1
  have hl := run_loadCells_list (P := P) w ⟨g, i, none⟩ vs (fun j v hj => by rw [Addr.add_lit, YT hb]; exact hv j v hj)
  rw [hk] at hl
  simp [execOp, ha.eval hx, Instr.loadAt, Instr.sureAddr, loadVar, X9 (T.aggs ht), Xv (ZS (T.aggs ht)), hl]
def Yak (l : List Value) (i : Nat) (v : Value) (l' : List Value) : Prop := i < l.length ∧ l' = l.set i v
theorem QH {x v : Value} {l : List Value} : Yak (x :: l) 0 v (v :: l) := ⟨by simp, rfl⟩
theorem W4 {x v : Value} {l l' : List Value} {i : Nat} (h : Yak l i v l') : Yak (x :: l) (i + 1) v (x :: l') := ⟨by have := h.1; simp; omega, by rw [h.2]; rfl⟩
theorem YfR (T : Tab P) {t g i : Nat} {cs cs' : List Value} {tt : TypeId} {v : Value} {x y : Operand} {K : List HP} (hx : evo env x = some (.pointer (some ⟨g, i, none⟩))) (hy : evo env y = some v) (h1 : v.oneCell' = true)
    (hu : Upd (blk g (.cells cs.toArray tt (0, 0))) (blk g (.cells cs'.toArray tt (0, 0))) H K) (hs : Yak cs i v cs')
    (ht : look T.sc t = some ()) (h : VL P none n B w0 ops Q rest env K) : VL P none n B w0 ops Q (⟨none, .store t x y, ty, pos, after, none⟩ :: rest) env H := by
  obtain ⟨hi, rfl⟩ := hs
  have hu' : Upd (blk g (.cells cs.toArray tt (0, 0))) (blk g (.cells (cs.toArray.setIfInBounds i v) tt (0, 0))) H K := by rw [List.setIfInBounds_toArray]; exact hu
  refine Oo rfl rfl (fun a w ha hw => ⟨w.setCell ⟨g, i, none⟩ v, ?_, hw.setCell hu'⟩) h
  have hb : w.heap[g]? = some (.cells cs.toArray tt (0, 0)) := by
    obtain ⟨L1, L2, rfl, _⟩ := hu
    exact (hw.blk (by simp)).1
  have hc := YT (i := i) hb
  have hcs : v.cells = #[v] := by cases v <;> first | rfl | simp [Value.oneCell'] at h1
  have hz : w.frozen? ⟨g, i, none⟩ = false := by simp [World.frozen?, hb]
  have hv : (cs.toArray)[i]? = some cs[i] := by simp [hi]
  rw [hv] at hc
  simp [execOp, ha.eval hx, ha.eval hy, Instr.storeAt, Instr.sureAddr, storeVar, hcs, Xv (T.scal ht).2, storeCells, run_store _ _ _ _ _ h1, Addr.add_zero', hc, hz]
theorem Zi {t : TypeId} {x : Operand} {cs : Array Value} (hx : evo env x = some (.agg cs)) (hn : Nat.ble (d + 1) n.k = true)
    (h : ∀ g, VL P none n B w0 ops Q rest ((d, .pointer (some ⟨g, 0, none⟩)) :: env) (blk g (.cells cs t (0, 0)) :: H)) : VL P none n B w0 ops Q (⟨some d, .box t x, ty, pos, after, none⟩ :: rest) env H :=
  Z1 (fun v K => ∃ g, v = .pointer (some ⟨g, 0, none⟩) ∧ K = blk g (.cells cs t (0, 0)) :: H) rfl rfl hn
    (fun a w ha hw => ⟨_, _, w.alloc (.cells cs t (0, 0)), by simp [execOp, ha.eval hx, Instr.box, newVar, newRow, Value.cells], hw.alloc _, w.heap.size, rfl, rfl⟩)
    (by rintro _ _ ⟨g, rfl, rfl⟩; exact h g)
theorem Ydf {t : TypeId} {x : Operand} {v : Value} (hx : evo env x = some v) (h1 : v.cells = #[v]) (hn : Nat.ble (d + 1) n.k = true)
    (h : ∀ g, VL P none n B w0 ops Q rest ((d, .pointer (some ⟨g, 0, none⟩)) :: env) (blk g (.cells #[v] t (0, 0)) :: H)) : VL P none n B w0 ops Q (⟨some d, .box t x, ty, pos, after, none⟩ :: rest) env H :=
  Z1 (fun v' K => ∃ g, v' = .pointer (some ⟨g, 0, none⟩) ∧ K = blk g (.cells #[v] t (0, 0)) :: H) rfl rfl hn
    (fun a w ha hw => ⟨_, _, w.alloc (.cells #[v] t (0, 0)), by simp [execOp, ha.eval hx, Instr.box, newVar, newRow, h1], hw.alloc _, w.heap.size, rfl, rfl⟩)
    (by rintro _ _ ⟨g, rfl, rfl⟩; exact h g)
theorem YfF {t : TypeId} {z : Value} {cs : Array Value} (hz : ∀ w, (zeroValue t).run P w = .ok z w) (hc : z.cells = cs) (hn : Nat.ble (d + 1) n.k = true)
    (h : ∀ g, VL P none n B w0 ops Q rest ((d, .pointer (some ⟨g, 0, none⟩)) :: env) (blk g (.cells cs t (0, 0)) :: H)) : VL P none n B w0 ops Q (⟨some d, .alloc t, ty, pos, after, none⟩ :: rest) env H :=
  Z1 (fun v' K => ∃ g, v' = .pointer (some ⟨g, 0, none⟩) ∧ K = blk g (.cells cs t (0, 0)) :: H) rfl rfl hn
    (fun a w _ hw => ⟨_, _, w.alloc (.cells cs t (0, 0)), by simp [execOp, Instr.alloc, hz, newVar, newRow, hc], hw.alloc _, w.heap.size, rfl, rfl⟩)
    (by rintro _ _ ⟨g, rfl, rfl⟩; exact h g)
def Wy (env : Env) : List (Nat × Operand) → List (Nat × Value) → Prop
  | [], [] => True
  | x :: l, v :: vs => x.1 = v.1 ∧ evo env x.2 = some v.2 ∧ Wy env l vs
  | _, _ => False
theorem YaU {env : Env} : Wy env [] [] := trivial
theorem YdD {env : Env} {i : Nat} {x : Operand} {v : Value} {l : List (Nat × Operand)} {vs : List (Nat × Value)} (h : evo env x = some v) (hl : Wy env l vs) : Wy env ((i, x) :: l) ((i, v) :: vs) := ⟨rfl, h, hl⟩
theorem Wq {n : Shp} {a : Act} {env : Env} (ha : Fits n a env) : ∀ (l : List (Nat × Operand)) (us : List (Nat × Value)), Wy env l us → l.map (fun p => (p.1, a.eval p.2)) = us
  | [], [], _ => rfl
  | [], _ :: _, h => h.elim
  | _ :: _, [], h => h.elim
  | x :: l, u :: us, h => by rw [List.map_cons, ha.eval h.2.1, Wq ha l us h.2.2, h.1]
theorem YfG {t : TypeId} {parts : List (Nat × Operand)} {ps : List (Nat × Value)} {v : Value} (hp : Wy env parts ps) (hb : ∀ w, (Instr.build t ps.toArray).run P w = .ok v w) (hn : Nat.ble (d + 1) n.k = true)
    (h : VL P m n B w0 ops Q rest ((d, v) :: env) H) : VL P m n B w0 ops Q (⟨some d, .build t parts.toArray, ty, pos, after, none⟩ :: rest) env H := by
  refine Yu rfl rfl hn rfl (fun a w ha _ => ?_) h
  have hm : (parts.toArray.map fun (i, x) => (i, a.eval x)) = ps.toArray := by rw [List.map_toArray]; exact congrArg List.toArray (Wq ha _ _ hp)
  simp only [execOp, hm]
  simp [hb]
end
open Go.RowKit
def sl (e size : Nat) (A : Option Addr) (k cap : Nat) (xs : List Value) : HP :=
  ⟨fun S w => w.ownsRow 0 e size (.slice A k cap) k xs ∧ ∀ a, A = some a → S a.block, by
    rintro S w w' hs ⟨⟨h1, h2⟩, h3⟩
    refine ⟨⟨h1, ?_⟩, h3⟩
    rcases h2 with h2 | ⟨g, c, cur, e1, e2, e3, e4⟩
    · exact .inl h2
    · refine .inr ⟨g, c, cur, e1, e2, ?_, e4⟩
      injection e1 with e1
      rw [hs g (h3 _ e1)]
      exact e3⟩
theorem Yil {e size : Nat} (S : Nat → Prop) (w : World) : (sl e size none 0 0 []).holds S w := ⟨⟨by simp, .inl ⟨rfl, rfl⟩⟩, fun a h => by cases h⟩
theorem St.nilSlice {B : Nat} {w0 w : World} {H : List HP} (h : St B w0 H w) (e size : Nat) : St B w0 (sl e size none 0 0 [] :: H) w :=
  ⟨h.below, h.le, fun _ => False, fun b => B ≤ b ∧ b < w.heap.size, fun _ hb => hb.elim, fun _ hb => hb, fun _ hb => hb.elim, Yil _ _, h.sep⟩
theorem St.sl {B : Nat} {w0 w : World} {H : List HP} {e size : Nat} {A : Option Addr} {k cap : Nat} {xs : List Value} (h : St B w0 H w) (hm : Eng.sl e size A k cap xs ∈ H) :
    w.ownsRow 0 e size (.slice A k cap) k xs := by
  obtain ⟨S, _, h2, _⟩ := h.at_ hm
  exact h2
theorem OB {w : World} {e size : Nat} {A : Option Addr} {k cap : Nat} {xs : List Value} (h : w.ownsRow 0 e size (.slice A k cap) k xs) {j : Nat} {v : Value} (hv : xs[j]? = some v) :
    ∃ g, A = some ⟨g, 0, none⟩ ∧ w.cell? ⟨g, j, none⟩ = some v ∧ ∃ cur, w.heap[g]? = some (.cells cur e (0, 0)) ∧ cur[j]? = some v := by
  rcases h.2 with ⟨e1, e2⟩ | ⟨g, c, cur, e1, _, e3, _, _, _, e4⟩
  · exfalso
    have := h.1
    rw [e2, Nat.zero_mul] at this
    rw [List.eq_nil_of_length_eq_zero this] at hv
    cases hv
  · injection e1 with e1
    have hc : cur[j]? = some v := by
      rw [← e4] at hv
      rw [List.getElem?_take] at hv
      split at hv
      · simpa using hv
      · cases hv
    exact ⟨g, e1, by rw [YT e3]; exact hc, cur, e3, hc⟩
theorem YP {P : Program} {t e size bytes : Nat} (h : QJ P t = some (e, size, bytes)) :
    P.underlying t = some (.slice e) ∧ ∃ i z, P.info? e = some i ∧ i.zero = some z ∧ z.cells.size = size ∧ i.size = size ∧ i.bytes = bytes ∧ 0 < size ∧ 0 < bytes := by
  unfold QJ at h
  split at h
  · rename_i e' hu
    cases hi : P.info? e' with
    | none => rw [hi] at h; cases h
    | some i =>
      rw [hi] at h
      simp only [Option.bind_some] at h
      cases hz : i.zero with
      | none => rw [hz] at h; cases h
      | some z =>
        rw [hz] at h
        simp only [Option.bind_some] at h
        split at h
        · rename_i hc
          simp only [Option.some.injEq, Prod.mk.injEq] at h
          obtain ⟨rfl, rfl, rfl⟩ := h
          exact ⟨hu, i, z, hi, hz, hc.1, rfl, rfl, hc.2⟩
        · cases h
  · cases h
def Z3 : List Value → Bool
  | [] => true
  | v :: l => v.oneCell' && Z3 l
theorem XK : ∀ {l : List Value}, Z3 l = true → ∀ u ∈ l, u.oneCell' = true
  | [], _, u, hu => by cases hu
  | v :: l, h, u, hu => by
    simp only [Z3, Bool.and_eq_true] at h
    rcases List.mem_cons.1 hu with e | e
    · rw [e]; exact h.1
    · exact XK h.2 u e
def sptr (A : Option Addr) (j : Nat) : Value := .pointer (A.map fun a => a.add j)
section
variable {P : Program} {m : Mode} {n : Shp} {B : Nat} {w0 : World} {Q : Exit → Act → World → Prop} {env : Env} {H : List HP} {ops : Array Oper} {rest : List Oper}
variable {d : Nat} {ty : TypeId} {pos : String} {after : Array Edge}
theorem Jo (e size : Nat) {c : Code} (h : VC P n B w0 c Q env (sl e size none 0 0 [] :: H)) : VC P n B w0 c Q env H := ⟨fun a w ha hw => h.run a w ha (hw.nilSlice e size)⟩
theorem Yh5 (T : Tab P) {tx : Nat} {x : Operand} {A : Option Addr} {k cap : Nat} {es : Nat × Nat × Nat} (hx : evo env x = some (.slice A k cap)) (ht : look T.sl tx = some es) (hn : Nat.ble (d + 1) n.k = true) (h : VL P m n B w0 ops Q rest ((d, .int .i64 k) :: env) H) :
    VL P m n B w0 ops Q (⟨some d, .call ⟨.builtin .len, #[x], #[tx]⟩, ty, pos, after, none⟩ :: rest) env H := by
  obtain ⟨e, size, bytes⟩ := es
  obtain ⟨hu, _⟩ := YP (T.slic ht)
  exact Yu rfl rfl hn rfl (fun f w ha _ => by simp [execOp, resolve, invoke, builtin, ha.eval hx, Builtin.len_, run_underlying hu, goInt]) h
theorem Yev (T : Tab P) {t tt : Nat} {x y : Operand} {A : Option Addr} {k cap : Nat} {xs : List Value} {g mm c : Nat} {cs : Array Value} {fr : Nat × Nat} {e size bytes : Nat} {K : Option Addr → Nat → List HP}
    (hx : evo env x = some (.slice A k cap)) (ht : look T.sl t = some (e, size, bytes))
    (hy : evo env y = some (.slice (some ⟨g, 0, none⟩) mm c)) (hb : blk g (.cells cs tt fr) ∈ H) (hk : cs.size = mm * size) (h1 : Z3 cs.toList = true) (hn : Nat.ble (d + 1) n.k = true)
    (hu : ∀ A' cap', Upd (sl e size A k cap xs) (sl e size A' (k + mm) cap' (xs ++ cs.toList)) H (K A' cap')) (hby : (k + mm) * bytes ≤ 140737488355328)
    (h : ∀ A' cap', VL P none n B w0 ops Q rest ((d, .slice A' (k + mm) cap') :: env) (K A' cap')) :
    VL P none n B w0 ops Q (⟨some d, .call ⟨.builtin .append, #[x, y], #[t, t]⟩, ty, pos, after, none⟩ :: rest) env H := by
  obtain ⟨hut, i, z, hi, hz, hzs, hsi, hbi, hs0, hb0⟩ := YP (T.slic ht)
  refine Z1 (fun v K' => ∃ A' cap', v = .slice A' (k + mm) cap' ∧ K' = K A' cap') rfl rfl hn (fun a w ha hw => ?_) (by rintro _ _ ⟨A', cap', rfl, rfl⟩; exact h A' cap')
  have hmem : sl e size A k cap xs ∈ H := by
    obtain ⟨L1, L2, rfl, _⟩ := hu none 0
    simp
  have hown := hw.sl hmem
  have hblk := (hw.blk hb).1
  have h63 : k + mm ≤ maxLen := by
    have : k + mm ≤ (k + mm) * bytes := Nat.le_mul_of_pos_right _ hb0
    simp only [maxLen]; omega
  obtain ⟨v', w', hrun, hown', hgrow, _, hat⟩ := run_append_own_at (P := P) w 0 t ty e i z size bytes hut hi hz hsi hbi hzs hs0 (.slice A k cap) k xs hown ⟨g, 0, none⟩ mm c cs.toList (by simpa using hk)
    (fun j u hj => by rw [Addr.add_lit, YT hblk, Nat.zero_add]; simpa using hj) (XK h1) h63 hby (Nat.zero_le _)
  have hshape : ∃ A' cap', v' = .slice A' (k + mm) cap' := by
    rcases hown'.2 with ⟨e1, e2⟩ | ⟨g', c', _, e1, _⟩
    · exact ⟨none, 0, by rw [e1, e2]⟩
    · exact ⟨_, _, e1⟩
  obtain ⟨A', cap', rfl⟩ := hshape
  refine ⟨_, K A' cap', w', by simp [execOp, resolve, invoke, builtin, ha.eval hx, ha.eval hy, hrun], ?_, A', cap', rfl, rfl⟩
  refine hw.updN (hu A' cap') hgrow.os hgrow.tape hgrow.output hgrow.size fun S1 ⟨_, hS⟩ => ⟨⟨fun b => Value.ownBlock (.slice A' (k + mm) cap') = some b, ⟨hown', ?_⟩, fun b hb => ?_⟩, fun b hb hlt => hgrow.block b hlt (fun e => hb ?_)⟩
  · rintro a rfl; rfl
  · rcases hat with e | e
    · rw [e] at hb
      cases A with
      | none => cases hb
      | some a => left; have := hS a rfl; simp only [Value.ownBlock, Option.some.injEq] at hb; rwa [← hb]
    · rw [e] at hb
      right
      simp only [Option.some.injEq] at hb
      subst hb
      refine ⟨Nat.le_refl _, ?_⟩
      rcases hown'.2 with ⟨e1, _⟩ | ⟨g', _, _, e1, _, e3, _⟩
      · rw [e1] at e; cases e
      · rw [e1] at e
        simp only [Value.ownBlock, Option.some.injEq] at e
        subst e
        rcases Nat.lt_or_ge w.heap.size w'.heap.size with h | h
        · exact h
        · rw [Array.getElem?_eq_none h] at e3; cases e3
  · cases A with
    | none => cases e
    | some a => simp only [Value.ownBlock, Option.some.injEq] at e; rw [e]; exact hS a rfl
theorem YbW (T : Tab P) {t : Nat} {x y : Operand} {A : Option Addr} {k cap : Nat} {xs : List Value} {e size bytes : Nat} {ki : IntKind} {i : Int} (hx : evo env x = some (.slice A k cap)) (hm : sl e size A k cap xs ∈ H) (hy : evo env y = some (.int ki i))
    (ht : look T.sl t = some (e, size, bytes)) (hn : Nat.ble (d + 1) n.k = true) (hi : 0 ≤ i ∧ i < k) (h : VL P m n B w0 ops Q rest ((d, sptr A (i.toNat * size)) :: env) H) :
    VL P m n B w0 ops Q (⟨some d, .indexAddr t x y, ty, pos, after, none⟩ :: rest) env H := by
  obtain ⟨hut, inf, z, hinf, _, _, hsi, _, _, _⟩ := YP (T.slic ht)
  refine Yu rfl rfl hn rfl (fun a w ha hw => ?_) h
  have hown := hw.sl hm
  rcases hown.2 with ⟨_, e2⟩ | ⟨g, c, cur, e1, _⟩
  · exfalso; omega
  · injection e1 with e1
    subst e1
    simp [execOp, ha.eval hx, ha.eval hy, Instr.indexAt, asIntOf, run_underlying hut, hi, sizeOf, typeInfo, hinf, hsi, sptr]
theorem OJ (T : Tab P) {t j : Nat} {x : Operand} {A : Option Addr} {k cap : Nat} {xs : List Value} {e size : Nat} {v : Value} (hx : evo env x = some (sptr A j)) (hm : sl e size A k cap xs ∈ H) (ht : look T.sc t = some ()) (hn : Nat.ble (d + 1) n.k = true) (hv : xs[j]? = some v)
    (h : VL P m n B w0 ops Q rest ((d, v) :: env) H) : VL P m n B w0 ops Q (⟨some d, .load t x, ty, pos, after, none⟩ :: rest) env H := by
  refine Yu rfl rfl hn rfl (fun a w ha hw => ?_) h
  obtain ⟨g, rfl, hc, _⟩ := OB (hw.sl hm) hv
  simp [execOp, ha.eval hx, sptr, Instr.loadAt, Instr.sureAddr, loadVar, XC (T.scal ht).1, Addr.add_lit, hc]
theorem Yb2 (T : Tab P) {t j : Nat} {x y : Operand} {A : Option Addr} {k cap : Nat} {xs : List Value} {e size : Nat} {v : Value} {K : List HP} (hx : evo env x = some (sptr A j)) (hy : evo env y = some v) (h1 : v.oneCell' = true)
    (hu : Upd (sl e size A k cap xs) (sl e size A k cap (xs.set j v)) H K) (ht : look T.sc t = some ()) (hj : j < xs.length)
    (h : VL P none n B w0 ops Q rest env K) : VL P none n B w0 ops Q (⟨none, .store t x y, ty, pos, after, none⟩ :: rest) env H := by
  have hmem : sl e size A k cap xs ∈ H := by
    obtain ⟨L1, L2, rfl, _⟩ := hu
    simp
  refine Oo rfl rfl (fun a w ha hw => ?_) h
  obtain ⟨g, rfl, hc, cur, hb, hcj⟩ := OB (hw.sl hmem) (List.getElem?_eq_getElem hj)
  refine ⟨w.setCell ⟨g, j, none⟩ v, ?_, ?_⟩
  · have hcs : v.cells = #[v] := by cases v <;> first | rfl | simp [Value.oneCell'] at h1
    have hz : w.frozen? ⟨g, j, none⟩ = false := by simp [World.frozen?, hb]
    simp [execOp, ha.eval hx, ha.eval hy, sptr, Instr.storeAt, Instr.sureAddr, storeVar, hcs, Xv (T.scal ht).2, storeCells, run_store _ _ _ _ _ h1, Addr.add_lit, hc, hz]
  · refine hw.upd hu rfl rfl rfl (by simp) fun S1 ⟨hown, hS⟩ => ⟨⟨⟨?_, ?_⟩, hS⟩, fun b hb' _ => Below.heap_setCell w _ v b (fun e => hb' (by rw [e]; exact hS ⟨g, 0, none⟩ rfl))⟩
    · simpa using hown.1
    · rcases hown.2 with ⟨e1, _⟩ | ⟨g', c', cur', e1, e2, e3, e4, e5, e6, e7⟩
      · cases e1
      · injection e1 with e1 e8 e9
        injection e1 with e1
        injection e1 with e1
        subst e1
        refine .inr ⟨g, c', cur'.setIfInBounds j v, by rw [e9], e2, ?_, e4, e5, by simpa using e6, ?_⟩
        · simp [World.setCell, Array.getElem?_modify, e3]
        · rw [← e7]
          simp only [Array.toList_setIfInBounds]
          rw [List.take_set]
theorem Yey (T : Tab P) {t : Nat} {x lo hi : Operand} {s : ByteArray} {k1 k2 : IntKind} {i j : Int} (hx : evo env x = some (.string s)) (hl : evo env lo = some (.int k1 i)) (hh : evo env hi = some (.int k2 j)) (ht : look T.st t = some ()) (hn : Nat.ble (d + 1) n.k = true)
    (hb : 0 ≤ i ∧ i ≤ j ∧ j ≤ s.size) (h : VL P m n B w0 ops Q rest ((d, .string (s.extract i.toNat j.toNat)) :: env) H) : VL P m n B w0 ops Q (⟨some d, .slice t x (some lo) (some hi) none, ty, pos, after, none⟩ :: rest) env H := by
  refine Yu rfl rfl hn rfl (fun a w ha _ => ?_) h
  have hu := T.strs ht
  simp [execOp, ha.eval hx, ha.eval hl, ha.eval hh, Instr.sliceAt, run_underlying hu, run_slice_string w t s k1 k2 i j hu hb.1 hb.2.1 hb.2.2]
theorem Ya8 (T : Tab P) {t : Nat} {x y : Operand} {s : ByteArray} {k : IntKind} {i : Int} (hx : evo env x = some (.string s)) (hy : evo env y = some (.int k i)) (ht : look T.st t = some ()) (hn : Nat.ble (d + 1) n.k = true)
    (hi : 0 ≤ i ∧ i < s.size) (h : ∀ b : UInt8, s[i.toNat]? = some b → VL P m n B w0 ops Q rest ((d, .int .u8 b.toNat) :: env) H) : VL P m n B w0 ops Q (⟨some d, .index t x y, ty, pos, after, none⟩ :: rest) env H := by
  have hlt : i.toNat < s.size := by omega
  refine Yu (v := .int .u8 (s[i.toNat]'hlt).toNat) rfl rfl hn rfl (fun a w ha _ => ?_) (h _ (by simp [hlt]))
  have hu := T.strs ht
  simp [execOp, ha.eval hx, ha.eval hy, Instr.index, asIntOf, run_underlying hu, hi.1, hlt]
theorem Yg4 {x y : Operand} {k : IntKind} {a b : Int} {tys : Array TypeId} (hx : evo env x = some (.int k a)) (hy : evo env y = some (.int k b)) (hn : Nat.ble (d + 1) n.k = true) (h1 : b < a → VL P m n B w0 ops Q rest ((d, .int k b) :: env) H) (h2 : a ≤ b → VL P m n B w0 ops Q rest ((d, .int k a) :: env) H) :
    VL P m n B w0 ops Q (⟨some d, .call ⟨.builtin .min, #[x, y], tys⟩, ty, pos, after, none⟩ :: rest) env H := by
  by_cases hc : b < a
  · exact Yu rfl rfl hn rfl (fun f w ha _ => by simp [execOp, resolve, invoke, builtin, ha.eval hx, ha.eval hy, run_min_int2, hc]) (h1 hc)
  · exact Yu rfl rfl hn rfl (fun f w ha _ => by simp [execOp, resolve, invoke, builtin, ha.eval hx, ha.eval hy, run_min_int2, hc]) (h2 (by omega))
theorem V7 {t e len : Nat} {parts : List (Nat × Operand)} {ps : List (Nat × Value)} {cs : Array Value} (hp : Wy env parts ps) (hb : ∀ w, (Instr.buildSlice t len ps.toArray).run P w = .ok (.slice (some ⟨w.heap.size, 0, none⟩) len len) (w.alloc (.cells cs e (0, 0)))) (hn : Nat.ble (d + 1) n.k = true)
    (h : ∀ g, VL P none n B w0 ops Q rest ((d, .slice (some ⟨g, 0, none⟩) len len) :: env) (blk g (.cells cs e (0, 0)) :: H)) : VL P none n B w0 ops Q (⟨some d, .buildSlice t len parts.toArray, ty, pos, after, none⟩ :: rest) env H := by
  refine Z1 (fun v K => ∃ g, v = .slice (some ⟨g, 0, none⟩) len len ∧ K = blk g (.cells cs e (0, 0)) :: H) rfl rfl hn (fun a w ha hw => ?_) (by rintro _ _ ⟨g, rfl, rfl⟩; exact h g)
  have hm : (parts.toArray.map fun (i, x) => (i, a.eval x)) = ps.toArray := by rw [List.map_toArray]; exact congrArg List.toArray (Wq ha _ _ hp)
  refine ⟨_, _, w.alloc (.cells cs e (0, 0)), ?_, hw.alloc _, w.heap.size, rfl, rfl⟩
  simp only [execOp, hm]
  simp [hb]
theorem WB (e size : Nat) {ex : Exit} (h : VQ n B w0 Q ex env (sl e size none 0 0 [] :: H)) : VQ n B w0 Q ex env H := ⟨fun a w ha hw => h.run a w ha (hw.nilSlice e size)⟩
theorem YfD {α β : Type} (E : α → β → Env) (HH : α → β → List HP) (I : α → β → Prop) (μ : α → β → Nat) {c : Code} (x0 : α) (y0 : β) (h0 : I x0 y0)
    (he : ∀ t v, get (E x0 y0) t = some v → get env t = some v) (hH : ∀ w, St B w0 H w → St B w0 (HH x0 y0) w)
    (round : ∀ x y, I x y → ∀ K : Act → World → Prop, (∀ x' y', I x' y' → μ x' y' < μ x y → ∀ env' H', (∀ t v, get (E x' y') t = some v → get env' t = some v) → (∀ w, St B w0 H' w → St B w0 (HH x' y') w) → VQ n B w0 (Exit.then K Q) .normal env' H') →
      VC P n B w0 c (Exit.then K Q) (E x y) (HH x y)) : VC P n B w0 (.loop c) Q env H :=
  YdU (α := α × β) (fun p => E p.1 p.2) (fun p => HH p.1 p.2) (fun p => I p.1 p.2) (fun p => μ p.1 p.2) (x0, y0) h0 he hH fun p hp =>
    round p.1 p.2 hp _ fun x' y' hI hμ _ _ he' hH' => Yb6 (x', y') hI hμ he' hH'
theorem Yk {α : Type} (E : α → Env) (HH : α → List HP) (I : α → Prop) (μ : α → Nat) {c : Code} (x0 : α) (h0 : I x0)
    (he : ∀ t v, get (E x0) t = some v → get env t = some v) (hH : ∀ w, St B w0 H w → St B w0 (HH x0) w)
    (round : ∀ x, I x → ∀ K : Act → World → Prop, (∀ x', I x' → μ x' < μ x → ∀ env' H', (∀ t v, get (E x') t = some v → get env' t = some v) → (∀ w, St B w0 H' w → St B w0 (HH x') w) → VQ n B w0 (Exit.then K Q) .normal env' H') →
      VC P n B w0 c (Exit.then K Q) (E x) (HH x)) : VC P n B w0 (.loop c) Q env H :=
  YdU E HH I μ x0 h0 he hH fun p hp => round p hp _ fun x' hI hμ _ _ he' hH' => Yb6 x' hI hμ he' hH'
end
open Go.RowKit
open Go.ChangeMaps (setBlock)
section
variable {P : Program}
end
section
variable {P : Program} {n : Shp} {B : Nat} {w0 : World} {Q : Exit → Act → World → Prop} {env : Env} {H : List HP} {m : Mode} {ops : Array Oper} {rest : List Oper} {d : Nat} {ty : TypeId} {pos : String} {after : Array Edge}
theorem Ws (w : World) (k : Nat) {t e : TypeId} (a : Option Addr) (hu : P.underlying t = some (.pointer e)) : (Op.equalIn (k + 1) t (.pointer a) (.pointer none)).run P w = .ok a.isNone w := by
  unfold Op.equalIn
  cases a <;> simp [run_underlying hu]
def Ygk (P : Program) (t : TypeId) : Bool := match P.underlying t with | some (.pointer _) => true | _ => false
theorem Ydy {t : TypeId} (h : Ygk P t = true) : ∃ e, P.underlying t = some (.pointer e) := by
  unfold Ygk at h
  split at h
  · rename_i e hu; exact ⟨e, hu⟩
  · cases h
theorem Yb0 {xt yt : TypeId} {x : Operand} {a : Option Addr} (hx : evo env x = some (.pointer a)) (hn : Nat.ble (d + 1) n.k = true) (hu : Ygk P xt = true)
    (h : VL P m n B w0 ops Q rest ((d, .bool a.isNone) :: env) H) : VL P m n B w0 ops Q (⟨some d, .binOp .eql xt x (.const (.pointer none)) yt, ty, pos, after, none⟩ :: rest) env H := by
  obtain ⟨e, hu⟩ := Ydy hu
  refine YI hx (y := .const (.pointer none)) rfl hn (fun w => by simp [eqGuard]) (fun w => ?_) h
  simp only [binOp, Op.equal]
  rw [Sem.run_bind, show Op.maxDepth = 9999 + 1 from rfl, Ws w 9999 a hu]
  simp
theorem WC {t k e size : Nat} (h : OP P t = some (k, e, size)) : ∃ i, P.underlying t = some (.array k e) ∧ P.info? e = some i ∧ i.size = size := by
  unfold OP at h
  split at h
  · rename_i k' e' hu
    cases hi : P.info? e' with
    | none => rw [hi] at h; cases h
    | some i =>
      rw [hi] at h
      simp only [Option.map_some, Option.some.injEq, Prod.mk.injEq] at h
      obtain ⟨rfl, rfl, rfl⟩ := h
      exact ⟨i, hu, hi, rfl⟩
  · cases h
theorem JU (T : Tab P) {t g o k e size : Nat} {x y : Operand} {ki : IntKind} {i : Int} (hx : evo env x = some (.pointer (some ⟨g, o, none⟩))) (hy : evo env y = some (.int ki i)) (ht : look T.ar t = some (k, e, size)) (hn : Nat.ble (d + 1) n.k = true) (hi : 0 ≤ i ∧ i < k)
    (h : VL P m n B w0 ops Q rest ((d, .pointer (some ⟨g, o + i.toNat * size, none⟩)) :: env) H) :
    VL P m n B w0 ops Q (⟨some d, .indexAddr t x y, ty, pos, after, none⟩ :: rest) env H := by
  obtain ⟨inf, hu, hinf, hs⟩ := WC (T.arra ht)
  refine Yu rfl rfl hn rfl (fun a w ha hw => ?_) h
  simp [execOp, ha.eval hx, ha.eval hy, Instr.indexAt, Instr.sureAddr, asIntOf, run_underlying hu, hi, sizeOf, typeInfo, hinf, hs, Addr.add_lit]
abbrev Ents := List (Int × Value × Nat)
def mget (es : Ents) (k : Int) : Option Value := (es.find? fun e => e.1 == k).map (·.2.1)
theorem Yib {o : Oper} {v : Value} {H' : List HP} (hg : o.guard = none) (hd : o.dst = none)
    (hr : ∀ a w, Fits n a env → St B w0 H w → ∃ w', (execOp a.eval o).run P w = .ok (.value v) w' ∧ St B w0 H' w')
    (h : VL P none n B w0 ops Q rest env H') : VL P none n B w0 ops Q (o :: rest) env H := by
  refine ⟨fun a ha w hw => wpList_plain hg fun K hK => ?_⟩
  obtain ⟨w', hrun, hst⟩ := hr a w ha hw
  unfold Oper.wp
  rw [hrun, Oper.upon_value, hd]
  exact hK _ _ (h.run _ ha _ hst)
theorem Yr {fn : Fn} {caps : List Operand} {cs : List Value} (hc : Args env caps cs) (hn : Nat.ble (d + 1) n.k = true) (h : VL P none n B w0 ops Q rest ((d, .func fn #[] cs.toArray) :: env) H) :
    VL P none n B w0 ops Q (⟨some d, .makeFunc fn #[] caps.toArray, ty, pos, after, none⟩ :: rest) env H := by
  refine YhB rfl rfl hn (fun a w ha hw => ⟨w, ?_, hw⟩) h
  have hmap : caps.toArray.map a.eval = cs.toArray := by rw [List.map_toArray, J3 ha _ _ hc]
  simp [execOp, Instr.makeFunc, hmap]
theorem Ut {f : Nat} {x : Operand} {args : List Operand} {tys : Array TypeId} {vs cs : List Value} (Φ : Value → List HP → Prop) (hx : evo env x = some (.func (.func f) #[] cs.toArray))
    (hc : ∀ xs w, (callFunc f xs).run P w = .ok (.enter f xs) w) (hargs : Args env args vs) (hn : Nat.ble (d + 1) n.k = true)
    (hcall : ∀ w, St B w0 H w → Calls P f (vs ++ cs).toArray w (Post B w0 Φ))
    (h : ∀ v H', Φ v H' → VL P none n B w0 ops Q rest ((d, v) :: env) H') :
    VL P none n B w0 ops Q (⟨some d, .call ⟨.value x, args.toArray, tys⟩, ty, pos, after, none⟩ :: rest) env H := by
  refine ⟨fun a ha w hw => wpList_plain rfl fun K hK => ?_⟩
  unfold Oper.wp
  have hmap : args.toArray.map a.eval = vs.toArray := by rw [List.map_toArray, J3 ha _ _ hargs]
  have hrun : (execOp a.eval ⟨some d, .call ⟨.value x, args.toArray, tys⟩, ty, pos, after, none⟩).run P w = .ok (.enter f (vs ++ cs).toArray) w := by
    simp only [execOp, resolve, ha.eval hx, hmap, Deferred.ofValue, Sem.run_bind, Sem.run_pure, Result.andThen_ok, invoke]
    simpa using hc ((vs ++ cs).toArray) w
  rw [hrun, Oper.upon_enter]
  refine (hcall w hw).mono ?_
  rintro e w' ⟨v, H', rfl, hst, hΦ⟩
  exact hK _ _ ((h v H' hΦ).run _ (ha.put (Nat.le_of_ble_eq_true hn) v) _ hst)
def many (L : List HP) : HP := ⟨fun S w => sepL L S w, fun h hs => U0 hs h⟩
theorem QG {M : List HP} {w : World} : ∀ {L : List HP} {S : Nat → Prop}, sepL (L ++ M) S w → ∃ S1 S2 : Nat → Prop, (∀ b, S1 b → S b) ∧ (∀ b, S2 b → S b) ∧ (∀ b, S1 b → ¬ S2 b) ∧ sepL L S1 w ∧ sepL M S2 w
  | [], S, h => ⟨fun _ => False, S, fun _ hb => hb.elim, fun _ hb => hb, fun _ hb => hb.elim, trivial, h⟩
  | A :: L, S, h => by
    obtain ⟨T1, T2, h1, h2, h3, h4, h5⟩ := h
    obtain ⟨U1, U2, k1, k2, k3, k4, k5⟩ := QG h5
    refine ⟨fun b => T1 b ∨ U1 b, U2, fun b hb => hb.elim (h1 b) (fun hb => h2 b (k1 b hb)), fun b hb => h2 b (k2 b hb), fun b hb hc => ?_, ⟨T1, U1, fun b hb => .inl hb, fun b hb => .inr hb, fun b hb hc => h3 b hb (k1 b hc), h4, k4⟩, k5⟩
    rcases hb with hb | hb
    · exact h3 b hb (k2 b hc)
    · exact k3 b hb hc
theorem YaW {M : List HP} {w : World} : ∀ {L : List HP} {S S1 S2 : Nat → Prop}, (∀ b, S1 b → S b) → (∀ b, S2 b → S b) → (∀ b, S1 b → ¬ S2 b) → sepL L S1 w → sepL M S2 w → sepL (L ++ M) S w
  | [], _, _, _, _, h2, _, _, h => JQ h h2
  | A :: L, S, S1, S2, h1, h2, h3, h4, h5 => by
    obtain ⟨T1, T2, k1, k2, k3, k4, k5⟩ := h4
    refine ⟨T1, fun b => T2 b ∨ S2 b, fun b hb => h1 b (k1 b hb), fun b hb => hb.elim (fun hb => h1 b (k2 b hb)) (h2 b), fun b hb hc => ?_, k4, YaW (fun b hb => .inl hb) (fun b hb => .inr hb) (fun b hb hc => h3 b (k2 b hb) hc) k5 h5⟩
    rcases hc with hc | hc
    · exact k3 b hb hc
    · exact h3 b (k1 b hb) hc
theorem Perm.open_ (L M : List HP) : Perm (many L :: M) (L ++ M) := ⟨fun _ _ ⟨_, _, h1, h2, h3, h4, h5⟩ => YaW h1 h2 h3 h4 h5⟩
theorem Perm.close (L M : List HP) : Perm (L ++ M) (many L :: M) := ⟨fun _ _ h => QG h⟩
theorem Perm.mid (A : HP) : ∀ (L M : List HP), Perm (L ++ A :: M) (A :: (L ++ M))
  | [], _ => .refl _
  | B :: L, M => .trans (.cons B (.mid A L M)) (.swap B A (L ++ M))
theorem Perm.mid' (A : HP) : ∀ (L M : List HP), Perm (A :: (L ++ M)) (L ++ A :: M)
  | [], _ => .refl _
  | B :: L, M => .trans (.swap A B (L ++ M)) (.cons B (.mid' A L M))
theorem Perm.drop (A : HP) (L : List HP) : Perm (A :: L) L := ⟨fun _ _ h => YaX h⟩
theorem Perm.pull (A : HP) (L1 L2 M : List HP) : Perm (many (L1 ++ A :: L2) :: M) (A :: many (L1 ++ L2) :: M) := by
  refine .trans (.open_ _ _) ?_
  rw [List.append_assoc, List.cons_append]
  refine .trans (.mid A L1 (L2 ++ M)) (.cons A ?_)
  rw [← List.append_assoc]
  exact .close _ _
theorem Perm.push (A : HP) (L1 L2 M : List HP) : Perm (A :: many (L1 ++ L2) :: M) (many (L1 ++ A :: L2) :: M) := by
  refine .trans (.cons A (.open_ _ _)) ?_
  rw [List.append_assoc]
  refine .trans (.mid' A L1 (L2 ++ M)) ?_
  rw [← List.cons_append, ← List.append_assoc]
  exact .close _ _
theorem Perm.noMany (M : List HP) : Perm M (many [] :: M) := .close [] M
end
open Go.RowKit
inductive PutAt : List Value → Nat → List Value → List Value → Prop
  | nil {l : List Value} {o : Nat} : PutAt l o [] l
  | cons {l l1 l' r : List Value} {o : Nat} {v : Value} (h : Yak l o v l1) (h2 : PutAt l1 (o + 1) r l') : PutAt l o (v :: r) l'
section
variable {P : Program} {m : Mode} {n : Shp} {B : Nat} {w0 : World} {ops : Array Oper} {Q : Exit → Act → World → Prop} {rest : List Oper} {env : Env} {H : List HP} {d : Nat} {ty : TypeId} {pos : String} {after : Array Edge}
theorem Uc {g : Nat} {tt : TypeId} {fr : Nat × Nat} : ∀ {vs cs cs' : List Value} {o : Nat} {w : World}, PutAt cs o vs cs' → w.heap[g]? = some (.cells cs.toArray tt fr) → (w.setCells g o vs).heap[g]? = some (.cells cs'.toArray tt fr)
  | [], _, _, _, _, h, hb => by cases h; exact hb
  | v :: vs, cs, cs', o, w, h, hb => by
    cases h with
    | cons h1 h2 =>
      rw [World.setCells]
      refine Uc h2 ?_
      obtain ⟨_, rfl⟩ := h1
      simp [World.setCell, Array.getElem?_modify, hb]
theorem ZK {g b : Nat} (hne : b ≠ g) : ∀ (vs : List Value) (o : Nat) (w : World), (w.setCells g o vs).heap[b]? = w.heap[b]?
  | [], _, _ => rfl
  | v :: vs, o, w => by rw [World.setCells, ZK hne vs (o + 1)]; exact Below.heap_setCell w _ v b hne
theorem Uh {g : Nat} : ∀ (vs : List Value) (o : Nat) (w : World), (w.setCells g o vs).os = w.os ∧ (w.setCells g o vs).tape = w.tape ∧ (w.setCells g o vs).output = w.output ∧ (w.setCells g o vs).heap.size = w.heap.size
  | [], _, _ => ⟨rfl, rfl, rfl, rfl⟩
  | v :: vs, o, w => by
    obtain ⟨h1, h2, h3, h4⟩ := Uh (g := g) vs (o + 1) (w.setCell ⟨g, o, none⟩ v)
    exact ⟨h1, h2, h3, h4.trans (by simp)⟩
theorem St.setCells {w : World} {K : List HP} {g o : Nat} {cs cs' vs : List Value} {tt : TypeId} {fr : Nat × Nat} (h : St B w0 H w) (hp : PutAt cs o vs cs')
    (u : Upd (Eng.blk g (.cells cs.toArray tt fr)) (Eng.blk g (.cells cs'.toArray tt fr)) H K) : St B w0 K (w.setCells g o vs) := by
  obtain ⟨h1, h2, h3, h4⟩ := Uh (g := g) vs o w
  refine h.upd u h1 h2 h3 (Nat.le_of_eq h4.symm) fun S1 ⟨hs, hb⟩ => ⟨⟨hs, Uc hp hb⟩, fun b hnb _ => ZK (fun e : b = g => hnb (by rw [e]; exact hs)) vs o w⟩
theorem YcV : ∀ {vs l l' : List Value} {o : Nat}, PutAt l o vs l' → ∀ j, j < vs.length → o + j < l.length
  | [], _, _, _, _, j, hj => by simp at hj
  | v :: vs, l, l', o, h, j, hj => by
    cases h with
    | cons h1 h2 =>
      obtain ⟨h0, rfl⟩ := h1
      cases j with
      | zero => exact h0
      | succ j => have := YcV h2 j (by simpa using hj); simp at this; omega
theorem Ybb (T : Tab P) {t g i k : Nat} {cs vs cs' : List Value} {tt : TypeId} {x y : Operand} {K : List HP} (hx : evo env x = some (.pointer (some ⟨g, i, none⟩))) (hy : evo env y = some (.agg vs.toArray)) (h1 : Z3 vs = true)
    (hu : Upd (blk g (.cells cs.toArray tt (0, 0))) (blk g (.cells cs'.toArray tt (0, 0))) H K) (hs : PutAt cs i vs cs')
    (ht : look T.ag t = some k) (hk : vs.length = k) (h : VL P none n B w0 ops Q rest env K) : VL P none n B w0 ops Q (⟨none, .store t x y, ty, pos, after, none⟩ :: rest) env H := by
  refine Oo rfl rfl (fun a w ha hw => ⟨w.setCells g i vs, ?_, hw.setCells hs hu⟩) h
  have hb : w.heap[g]? = some (.cells cs.toArray tt (0, 0)) := by
    obtain ⟨L1, L2, rfl, _⟩ := hu
    exact (hw.blk (by simp)).1
  have hr := run_storeCells_cells (P := P) g i vs 0 w (fun j hj => by
      rw [Nat.add_zero, YT hb]; have := YcV hs j hj; simp [this]) (fun j hj => by simp [World.frozen?, hb]) (XK h1)
  simp [execOp, ha.eval hx, ha.eval hy, Instr.storeAt, Instr.sureAddr, storeVar, Value.cells, Xv (ZS (T.aggs ht)), hk, hr]
theorem ZQ (T : Tab P) {w : World} {t g k : Nat} {cs : Array Value} {tt : TypeId} {fr : Nat × Nat} (hb : w.heap[g]? = some (.cells cs tt fr)) (ht : look T.ag t = some k) (hk : cs.size = k) : (loadVar t ⟨g, 0, none⟩).run P w = .ok (.agg cs) w := by
  have hl := run_loadCells_list (P := P) w ⟨g, 0, none⟩ cs.toList (fun j v hj => by rw [Addr.add_lit, YT hb, Nat.zero_add]; simpa using hj)
  rw [show cs.toList.length = k by simpa using hk] at hl
  simp [loadVar, X9 (T.aggs ht), Xv (ZS (T.aggs ht)), hl]
theorem Yb4 {n : Nat} (T : Tab P) {fn : Func} {Φ : Value → List HP → Prop} {p g k rt : Nat} {cs : Array Value} {tt : TypeId} {fr : Nat × Nat} (hr : fn.results = #[.cell p rt]) (hp : get env p = some (.pointer (some ⟨g, 0, none⟩)))
    (hm : blk g (.cells cs tt fr) ∈ H) (ht : look T.ag rt = some k) (hk : cs.size = k) {H2 : List HP} (hH : ∀ w, St B w0 H w → St B w0 H2 w) (h : Φ (.agg cs) H2) : VQ ⟨n, [], none⟩ B w0 (bodyPost P fn (Post B w0 Φ)) .ret env H := by
  refine ⟨fun a w ha hw => bodyPost_ret (v := .agg cs) ?_ ha.defers ⟨_, H2, rfl, hH w hw, h⟩⟩
  have hp' := ha.slot p _ hp
  simp [results, hr, Array.getD_eq_getD_getElem?, hp', asAddr, ZQ T (hw.blk hm).1 ht hk]
theorem Yb5 {n : Nat} (T : Tab P) {fn : Func} {Φ : Value → List HP → Prop} {p g k u rt : Nat} {x : Value} {cs : Array Value} {tt : TypeId} {fr : Nat × Nat} (hr : fn.results = #[.cell p rt, .tmp u]) (hp : get env p = some (.pointer (some ⟨g, 0, none⟩))) (hu : get env u = some x)
    (hm : blk g (.cells cs tt fr) ∈ H) (ht : look T.ag rt = some k) (hk : cs.size = k) {H2 : List HP} (hH : ∀ w, St B w0 H w → St B w0 H2 w) (h : Φ (.tuple #[.agg cs, x]) H2) : VQ ⟨n, [], none⟩ B w0 (bodyPost P fn (Post B w0 Φ)) .ret env H := by
  refine ⟨fun a w ha hw => bodyPost_ret (v := .tuple #[.agg cs, x]) ?_ ha.defers ⟨_, H2, rfl, hH w hw, h⟩⟩
  have hp' := ha.slot p _ hp
  simp [results, hr, Array.getD_eq_getD_getElem?, hp', ha.slot u _ hu, asAddr, ZQ T (hw.blk hm).1 ht hk]
end
open Go.RowKit
inductive OT where
  | done
  | n1 (i : Nat) (t : OT)
  | n2 (i : Nat) (t : OT) (j : Nat) (u : OT)
section
variable {P : Program} {n : Shp} {B : Nat} {w0 : World} {Q : Exit → Act → World → Prop} {env : Env} {H : List HP} {ops : Array Oper}
def Jn (P : Program) (ops : Array Oper) (l : List Oper) (Q : Exit → Act → World → Prop) (S : World → Prop) : OT → Act → World → Prop
  | .done, a, w => Q .normal a w
  | .n1 i t, a, w => Ys P ops (fun e a w => match e with | .normal => Jn P ops l Q S t a w | _ => False) S [nthO l i] a w
  | .n2 i t j u, a, w => Ys P ops (fun e a w => match e with | .normal => Jn P ops l Q S t a w | _ => False) S [nthO l i] a w ∧ Ys P ops (fun e a w => match e with | .normal => Jn P ops l Q S u a w | _ => False) S [nthO l j] a w
def XZ (ops : Array Oper) (i : Nat) : Bool := match ops[i]? with | some o => eff o | none => false
def QQ (ops : Array Oper) (last : List Nat) : OT → Array Bool → Nat → Bool
  | .done, listed, 0 => J4 ops last listed
  | .done, _, _ + 1 => false
  | .n1 i t, listed, k + 1 => !last.contains i && (match ops[i]? with
      | some o => if eff o then decide (Region.ready .any ops listed = [i]) else (Region.ready .any ops listed).contains i && Region.free .any ops listed i
      | none => false) && QQ ops last t (listed.setIfInBounds i true) k
  | .n2 i t j u, listed, k + 1 => !last.contains i && !last.contains j && XZ ops i && XZ ops j && ((Region.ready .any ops listed).all fun x => x == i || x == j) && !(Region.ready .any ops listed).isEmpty && QQ ops last t (listed.setIfInBounds i true) k && QQ ops last u (listed.setIfInBounds j true) k
  | .n1 _ _, _, 0 => false
  | .n2 _ _ _ _, _, 0 => false
theorem YC {l : List Oper} (hl : ops = l.toArray) {i : Nat} {o : Oper} (ho : ops[i]? = some o) : nthO l i = o := by
  rw [Ox]
  rw [hl] at ho
  simp only [List.getElem?_toArray] at ho
  simp [List.getD, ho]
theorem XV {S : World → Prop} {Q1 : Exit → Act → World → Prop} {last : List Nat} {i k : Nat} {o : Oper} {listed : Array Bool} {a : Act} {w : World} (ho : ops[i]? = some o) (he : eff o = true) (_hl : last.contains i = false)
    (hQ1 : ∀ e a w, e ≠ .normal → ¬ Q1 e a w) (hS : S w) (h : Ys P ops Q1 S [o] a w)
    (hk : ∀ a w, S w → Q1 .normal a w → XF P ops Q S last k (listed.setIfInBounds i true) a w) :
    wpOp P ops Q i (fun a' w' => (last.contains i = false → S w') ∧ XF P ops Q S last k (listed.setIfInBounds i true) a' w') a w := by
  unfold Ys at h
  rw [if_pos he] at h
  unfold wpOp
  simp only [ho]
  by_cases hw : Region.wanted o (yielded ops a.tmps) = true
  · rw [if_pos hw] at h ⊢
    refine .inl (Oper.wp_mono_noQ (fun c a w => hQ1 _ a w (by intro h; cases h)) (by rintro ⟨a, w, h⟩; exact hQ1 _ _ _ (by intro h; cases h) h) (Oper.wp_mono (fun a' w' h' => ?_) h))
    exact ⟨fun _ => h'.1, hk a' w' h'.1 h'.2⟩
  · rw [if_neg hw] at h ⊢
    exact ⟨fun _ => hS, hk _ w hS h⟩
theorem Jj {S : World → Prop} {last : List Nat} (hs : Region.noSelect ops = true) (hQ : ∀ c (a : Act) (w : World), ¬ Q (.panic c) a w) (hlo : ¬ LetsOut Q) (l : List Oper) (hl : ops = l.toArray) (hlast : YaL ops last = true) :
    ∀ (t : OT) (k : Nat) (listed : Array Bool) (a : Act) (w : World), Closed ops listed → QQ ops last t listed k = true → S w → Jn P ops l (XH P ops Q (Yj l last)) S t a w →
      XF P ops Q S last (k + last.length) listed a w
  | .done, 0, listed, a, w, _, hB, _, h => by
    have := J9 (S := S) l hl (J0 hlast).1 hlo last listed a w (fun j hj => by simpa using hj) hB h
    rw [Nat.zero_add]
    exact this
  | .done, _ + 1, _, _, _, _, hB, _, _ => by cases hB
  | .n1 _ _, 0, _, _, _, _, hB, _, _ => by cases hB
  | .n2 _ _ _ _, 0, _, _, _, _, hB, _, _ => by cases hB
  | .n1 i t, k + 1, listed, a, w, hcl, hB, hS, h => by
    simp only [QQ, Bool.and_eq_true] at hB
    obtain ⟨⟨h0, h1⟩, h2⟩ := hB
    have hno : last.contains i = false := by simpa using h0
    cases ho : ops[i]? with
    | none => rw [ho] at h1; cases h1
    | some o =>
      rw [ho] at h1
      have hget := YC hl ho
      unfold Jn at h
      rw [hget] at h
      rw [Nat.add_right_comm]
      by_cases he : eff o = true
      · simp only [he, if_true, decide_eq_true_eq] at h1
        refine ⟨fun h0 => (by rw [h1] at h0; cases h0), fun j hj => ?_⟩
        have hj' := hj
        rw [h1] at hj
        obtain rfl : j = i := by simpa using hj
        exact XV ho he hno (fun e a w hne => by cases e <;> simp_all) hS h fun a w hS' h' => Jj hs hQ hlo l hl hlast t k _ a w (hcl.set hj') h2 hS' h'
      · simp only [he] at h1
        simp only [Bool.false_eq_true, if_false, Bool.and_eq_true] at h1
        unfold Ys at h
        rw [if_neg he] at h
        obtain ⟨v, hy, h3⟩ := h
        have hr : i ∈ Region.ready .any ops listed := by simpa using h1.1
        exact Zd ho (Region.noSelect_spec hs) hQ ((J0 hlast).2 i o ho (by simpa using he)) hno _ listed a w hcl (Region.free_spec ho h1.2) hr hy hS (Jj hs hQ hlo l hl hlast t k _ _ w (hcl.set hr) h2 hS h3)
  | .n2 i t j u, k + 1, listed, a, w, hcl, hB, hS, h => by
    simp only [QQ, Bool.and_eq_true] at hB
    obtain ⟨⟨⟨⟨⟨⟨⟨b1, b2⟩, b3⟩, b4⟩, b5⟩, b6⟩, b7⟩, b8⟩ := hB
    have hi : last.contains i = false := by simpa using b1
    have hj : last.contains j = false := by simpa using b2
    unfold Jn at h
    rw [Nat.add_right_comm]
    refine ⟨fun h0 => (by rw [h0] at b6; cases b6), fun x hx => ?_⟩
    have h5 := List.all_eq_true.1 b5 x hx
    simp only [Bool.or_eq_true, beq_iff_eq] at h5
    rcases h5 with rfl | rfl
    · unfold XZ at b3
      cases ho : ops[x]? with
      | none => rw [ho] at b3; cases b3
      | some o =>
        rw [ho] at b3
        have hg := h.1
        rw [YC hl ho] at hg
        exact XV ho b3 hi (fun e a w hne => by cases e <;> simp_all) hS hg fun a w hS' h' => Jj hs hQ hlo l hl hlast t k _ a w (hcl.set hx) b7 hS' h'
    · unfold XZ at b4
      cases ho : ops[x]? with
      | none => rw [ho] at b4; cases b4
      | some o =>
        rw [ho] at b4
        have hg := h.2
        rw [YC hl ho] at hg
        exact XV ho b4 hj (fun e a w hne => by cases e <;> simp_all) hS hg fun a w hS' h' => Jj hs hQ hlo l hl hlast u k _ a w (hcl.set hx) b8 hS' h'
structure VT (P : Program) (n : Shp) (B : Nat) (w0 : World) (ops : Array Oper) (l : List Oper) (Q : Exit → Act → World → Prop) (t : OT) (env : Env) (H F : List HP) : Prop where
  run : ∀ a, Fits n a env → ∀ w, St B w0 (H ++ F) w → Jn P ops l Q (St B w0 H) t a w
def Vi (P : Program) (B : Nat) (w0 : World) (ops : Array Oper) (l : List Oper) (Q : Exit → Act → World → Prop) (Hc : List HP) (t : OT) : Exit → Act → World → Prop
  | .normal, a, w => Jn P ops l Q (St B w0 Hc) t a w
  | _, _, _ => False
theorem QR {l : List Oper} {t : OT} : Vi P B w0 ops l Q H t = fun e a w => match e with | .normal => Jn P ops l Q (St B w0 H) t a w | _ => False := by
  funext e a w
  cases e <;> rfl
theorem Uz {l : List Oper} {F HF : List HP} (happ : App H F HF) (h : VQ n B w0 Q .normal env HF) : VT P n B w0 ops l Q .done env H F :=
  ⟨fun a ha w hw => by rw [← JA happ] at hw; exact h.run a w ha hw⟩
theorem Yiy {l : List Oper} {F : List HP} {i : Nat} {t : OT} {o : Oper} (ho : nthO l i = o) (h : VL P (some (some F)) n B w0 ops (Vi P B w0 ops l Q H t) [o] env H) : VT P n B w0 ops l Q (.n1 i t) env H F := by
  refine ⟨fun a ha w hw => ?_⟩
  have h1 : Ys P ops (Vi P B w0 ops l Q H t) (St B w0 H) [o] a w := h.run a ha w hw
  unfold Jn
  rw [ho, ← QR]
  exact h1
theorem Yiz {l : List Oper} {F : List HP} {i j : Nat} {t u : OT} {o o' : Oper} (ho : nthO l i = o) (ho' : nthO l j = o') (h : VL P (some (some F)) n B w0 ops (Vi P B w0 ops l Q H t) [o] env H)
    (h' : VL P (some (some F)) n B w0 ops (Vi P B w0 ops l Q H u) [o'] env H) : VT P n B w0 ops l Q (.n2 i t j u) env H F := by
  refine ⟨fun a ha w hw => ?_⟩
  have h1 : Ys P ops (Vi P B w0 ops l Q H t) (St B w0 H) [o] a w := h.run a ha w hw
  have h2 : Ys P ops (Vi P B w0 ops l Q H u) (St B w0 H) [o'] a w := h'.run a ha w hw
  unfold Jn
  rw [ho, ho', ← QR, ← QR]
  exact ⟨h1, h2⟩
theorem Xl {l : List Oper} {F H' Hc : List HP} {t : OT} (hp : Pull Hc H' F) (h : VT P n B w0 ops l Q t env Hc F) : VQ n B w0 (Vi P B w0 ops l Q Hc t) .normal env H' :=
  ⟨fun a w ha hw => h.run a ha w (hw.perm hp)⟩
theorem Ur {id : Nat} {l : List Oper} (t : OT) (last : List Nat) (mask : List Bool) {Hc F : List HP} (hm : P.follows .mixedOrders = true)
    (hB : (Region.noSelect l.toArray && decide (last.length ≤ l.toArray.size) && YaL l.toArray last && QQ l.toArray last t (Array.replicate l.toArray.size false) (l.toArray.size - last.length)) = true)
    (hsp : Split mask H Hc F) {l2 : List Oper} (hl2 : Yj l last = l2) (h : VT P n B w0 l.toArray l (XH P l.toArray (Only Q) l2) t env Hc F) : VC P n B w0 (.region id l.toArray true) Q env H := by
  simp only [Bool.and_eq_true, decide_eq_true_eq] at hB
  obtain ⟨⟨⟨h1, h2⟩, h3⟩, h5⟩ := hB
  refine ⟨fun a w ha hw => Ze (Q := Only Q) ?_ fun e a w h => by cases e <;> first | exact h | cases h⟩
  have hst : St B w0 (Hc ++ F) w.drew := (hw.perm (Y5 hsp)).drew
  have hr := h.run a ha w.drew hst
  rw [← hl2] at hr
  have := Jj (S := St B w0 Hc) h1 (fun c a w h => h) (by rintro ⟨_, _, h⟩; exact h) l rfl h3 t _ _ a w.drew (Xq _ _) h5 hst.prefix_ hr
  rw [Nat.sub_add_cancel h2] at this
  exact Jz hm (XG _ _ _ _ this)
theorem Om {α : Type} (E : α → Env) (HH : α → List HP) {x y : Code} (h1 : ∀ K : Act → World → Prop, (∀ z env' H', (∀ t v, get (E z) t = some v → get env' t = some v) → (∀ w, St B w0 H' w → St B w0 (HH z) w) → VQ n B w0 (Exit.then K Q) .normal env' H') → VC P n B w0 x (Exit.then K Q) env H)
    (h2 : ∀ z, VC P n B w0 y Q (E z) (HH z)) : VC P n B w0 x (Exit.then (wpR P n.r y Q) Q) env H := by
  have h := h1 (fun a w => ∃ z, Fits n a (E z) ∧ St B w0 (HH z) w) (fun z env' H' he hH => ⟨fun a w ha hw => ⟨z, ha.sub he, hH w hw⟩⟩)
  refine ⟨fun a w ha hw => Ze (h.run a w ha hw) ?_⟩
  intro e a w hq
  cases e with
  | normal => obtain ⟨z, h3, h4⟩ := hq; exact (h2 z).run a w h3 h4
  | exit id => exact hq
  | goto l => exact hq
  | ret => exact hq
  | panic ch => exact hq
  | outgrown => exact hq
end
open Go.RowKit
def Rd (B : Nat) (w0 : World) (H : List HP) (A : Option Addr) (xs : List Value) : Prop :=
  ∀ w, St B w0 H w → ∀ j v, xs[j]? = some v → ∃ g o, A = some ⟨g, o, none⟩ ∧ w.cell? ⟨g, o + j, none⟩ = some v
section
variable {B : Nat} {w0 : World} {H : List HP} {A : Option Addr} {xs : List Value}
theorem Rd.cons {X : HP} (h : Rd B w0 H A xs) : Rd B w0 (X :: H) A xs := fun w hw => h w hw.tail
theorem Rd.sl {e size k cap : Nat} (hm : Eng.sl e size A k cap xs ∈ H) : Rd B w0 H A xs := fun w hw j v hv => by
  obtain ⟨g, e1, hc, _⟩ := OB (hw.sl hm) hv
  exact ⟨g, 0, e1, by rw [Nat.zero_add]; exact hc⟩
theorem Rd.old (h : ∀ j v, xs[j]? = some v → ∃ g o, A = some ⟨g, o, none⟩ ∧ g < B ∧ w0.cell? ⟨g, o + j, none⟩ = some v) : Rd B w0 H A xs := fun w hw j v hv => by
  obtain ⟨g, o, e1, hg, hc⟩ := h j v hv
  exact ⟨g, o, e1, (hw.below.cell (p := ⟨g, o + j, none⟩) hg).trans hc⟩
theorem Rd.nil : Rd B w0 H A [] := fun w _ j v hv => by simp at hv
theorem Rd.mono {H' : List HP} (h : Rd B w0 H A xs) (hH : ∀ w, St B w0 H' w → St B w0 H w) : Rd B w0 H' A xs := fun w hw => h w (hH w hw)
theorem Rd.blk {g : Nat} {cs : Array Value} {t : TypeId} {fr : Nat × Nat} (hm : Eng.blk g (.cells cs t fr) ∈ H) : Rd B w0 H (some ⟨g, 0, none⟩) cs.toList := fun w hw j v hv => by
  refine ⟨g, 0, rfl, ?_⟩
  rw [Nat.zero_add, YT (hw.blk hm).1]
  simpa using hv
end
theorem Xf {α : Type} {f : α → List Value} {q : Nat} (hq : ∀ a, (f a).length = q) : ∀ l : List α, (l.flatMap f).length = l.length * q
  | [] => by simp
  | a :: l => by rw [List.flatMap_cons, List.length_append, hq, Xf hq l, List.length_cons, Nat.add_mul]; omega
theorem UK {α : Type} {f : α → List Value} {q : Nat} (hq : ∀ a, (f a).length = q) : ∀ (l : List α) (i j : Nat) (a : α), l[i]? = some a → j < q → (l.flatMap f)[i * q + j]? = (f a)[j]?
  | [], i, j, a, h, _ => by simp at h
  | b :: l, 0, j, a, h, hj => by
    obtain rfl : b = a := by simpa using h
    rw [List.flatMap_cons, List.getElem?_append_left (by rw [hq]; omega), Nat.zero_mul, Nat.zero_add]
  | b :: l, i + 1, j, a, h, hj => by
    rw [List.flatMap_cons, List.getElem?_append_right (by rw [hq, Nat.add_mul]; omega), hq, show (i + 1) * q + j - q = i * q + j by rw [Nat.add_mul]; omega]
    exact UK hq l i j a (by simpa using h) hj
section
variable {P : Program} {m : Mode} {n : Shp} {B : Nat} {w0 : World} {ops : Array Oper} {Q : Exit → Act → World → Prop} {rest : List Oper} {env : Env} {H : List HP} {d : Nat} {ty : TypeId} {pos : String} {after : Array Edge}
theorem YbV (T : Tab P) {α : Type} {f : α → List Value} {l : List α} {t : Nat} {x y : Operand} {A : Option Addr} {cap : Nat} {e size bytes : Nat} {ki : IntKind} {i : Int} (hx : evo env x = some (.slice A l.length cap)) (hy : evo env y = some (.int ki i))
    (hr : Rd B w0 H A (l.flatMap f)) (ht : look T.sl t = some (e, size, bytes)) (hq : ∀ a, (f a).length = size) (h0 : Nat.blt 0 size = true) (hn : Nat.ble (d + 1) n.k = true) (hi : 0 ≤ i ∧ i < l.length)
    (h : VL P m n B w0 ops Q rest ((d, sptr A (i.toNat * size)) :: env) H) : VL P m n B w0 ops Q (⟨some d, .indexAddr t x y, ty, pos, after, none⟩ :: rest) env H := by
  obtain ⟨hut, inf, z, hinf, _, _, hsi, _, _, _⟩ := YP (T.slic ht)
  refine Yu rfl rfl hn rfl (fun a w ha hw => ?_) h
  have h0' : 0 < size := by simpa using h0
  have hlt : i.toNat < l.length := by omega
  have hget := UK hq l i.toNat 0 _ (List.getElem?_eq_getElem hlt) h0'
  have hg2 : (f l[i.toNat])[0]? = some ((f l[i.toNat])[0]'(by rw [hq]; exact h0')) := List.getElem?_eq_getElem _
  rw [hg2] at hget
  obtain ⟨g, o, rfl, _⟩ := hr w hw _ _ hget
  simp [execOp, ha.eval hx, ha.eval hy, Instr.indexAt, asIntOf, run_underlying hut, hi, sizeOf, typeInfo, hinf, hsi, sptr]
theorem YbT (T : Tab P) {s f k j : Nat} {x : Operand} {A : Option Addr} {xs : List Value} (hx : evo env x = some (sptr A j)) (hr : Rd B w0 H A xs) (hj : j < xs.length) (hf : Vz T.fo s f = some k) (hn : Nat.ble (d + 1) n.k = true)
    (h : VL P m n B w0 ops Q rest ((d, sptr A (j + k)) :: env) H) : VL P m n B w0 ops Q (⟨some d, .fieldAddr s x f, ty, pos, after, none⟩ :: rest) env H := by
  refine Yu rfl rfl hn rfl (fun a w ha hw => ?_) h
  obtain ⟨g, o, rfl, _⟩ := hr w hw _ _ (List.getElem?_eq_getElem hj)
  have h1 := T.offs hf
  unfold Vt at h1
  split at h1
  · rename_i fs hu
    cases hfl : fs[f]? with
    | none => rw [hfl] at h1; cases h1
    | some fld =>
      rw [hfl] at h1
      simp only [Option.bind_some] at h1
      cases hi : P.info? fld.type with
      | none => rw [hi] at h1; cases h1
      | some inf =>
        rw [hi] at h1
        simp only [Option.bind_some] at h1
        by_cases hz : inf.size = 0
        · rw [if_pos hz] at h1; cases h1
        · rw [if_neg hz] at h1
          have h2 : fld.offset = k := by simpa using h1
          subst h2
          simp [execOp, ha.eval hx, sptr, Instr.fieldAt, run_underlying hu, hfl, Instr.sureAddr, fieldPlace, sizeOf, typeInfo, hi, hz, Addr.add_lit, Nat.add_assoc]
  · cases h1
theorem OI (T : Tab P) {α : Type} {f : α → List Value} {l : List α} {t i q o : Nat} {b : α} {x : Operand} {A : Option Addr} {v : Value} (hx : evo env x = some (sptr A (i * q + o))) (hr : Rd B w0 H A (l.flatMap f)) (hb : l[i]? = some b) (hq : ∀ a, (f a).length = q)
    (ho : Nat.blt o q = true) (hv : nth (f b) o = some v) (ht : look T.sc t = some ()) (hn : Nat.ble (d + 1) n.k = true)
    (h : VL P m n B w0 ops Q rest ((d, v) :: env) H) : VL P m n B w0 ops Q (⟨some d, .load t x, ty, pos, after, none⟩ :: rest) env H := by
  refine Yu rfl rfl hn rfl (fun a w ha hw => ?_) h
  have hg := UK hq l i o b hb (by simpa using ho)
  rw [← YdA (f b), hv] at hg
  obtain ⟨g, u, rfl, hc⟩ := hr w hw _ _ hg
  simp [execOp, ha.eval hx, sptr, Instr.loadAt, Instr.sureAddr, loadVar, XC (T.scal ht).1, Addr.add_lit, hc]
theorem YbY (T : Tab P) {α : Type} {f : α → List Value} {l : List α} {t i q : Nat} {b : α} {x : Operand} {A : Option Addr} {v : Value} (hx : evo env x = some (sptr A (i * q))) (hr : Rd B w0 H A (l.flatMap f)) (hb : l[i]? = some b) (hq : ∀ a, (f a).length = q)
    (ho : Nat.blt 0 q = true) (hv : nth (f b) 0 = some v) (ht : look T.sc t = some ()) (hn : Nat.ble (d + 1) n.k = true)
    (h : VL P m n B w0 ops Q rest ((d, v) :: env) H) : VL P m n B w0 ops Q (⟨some d, .load t x, ty, pos, after, none⟩ :: rest) env H :=
  OI T (i := i) (q := q) (o := 0) (by rw [Nat.add_zero]; exact hx) hr hb hq ho hv ht hn h
theorem OH (T : Tab P) {α : Type} {f : α → List Value} {l : List α} {t i q : Nat} {b : α} {x : Operand} {A : Option Addr} (hx : evo env x = some (sptr A (i * q))) (hr : Rd B w0 H A (l.flatMap f)) (hb : l[i]? = some b) (hq : ∀ a, (f a).length = q)
    (ho : Nat.blt 0 q = true) (ht : look T.ag t = some q) (hn : Nat.ble (d + 1) n.k = true)
    (h : VL P m n B w0 ops Q rest ((d, .agg (f b).toArray) :: env) H) : VL P m n B w0 ops Q (⟨some d, .load t x, ty, pos, after, none⟩ :: rest) env H := by
  refine Yu rfl rfl hn rfl (fun a w ha hw => ?_) h
  have h0 : 0 < q := by simpa using ho
  have hget : ∀ j v, (f b)[j]? = some v → (l.flatMap f)[i * q + j]? = some v := fun j v hj => by
    have hlt : j < q := by have := (List.getElem?_eq_some_iff.1 hj).1; rwa [hq] at this
    rw [UK hq l i j b hb hlt]; exact hj
  obtain ⟨g, u, rfl, _⟩ := hr w hw _ _ (hget 0 _ (List.getElem?_eq_getElem (by rw [hq]; exact h0)))
  have hl := run_loadCells_list (P := P) w ⟨g, u + i * q, none⟩ (f b) (fun j v hj => by
    obtain ⟨g', u', e1, hc⟩ := hr w hw _ _ (hget j v hj)
    injection e1 with e1
    injection e1 with e1 e2
    subst e1 e2
    rw [Addr.add_lit, Nat.add_assoc]; exact hc)
  rw [hq] at hl
  simp [execOp, ha.eval hx, sptr, Instr.loadAt, Instr.sureAddr, loadVar, X9 (T.aggs ht), Xv (ZS (T.aggs ht)), Addr.add_lit, hl]
theorem Yg3 {x y : Operand} {k : IntKind} {a b : Int} {tys : Array TypeId} (hx : evo env x = some (.int k a)) (hy : evo env y = some (.int k b)) (hn : Nat.ble (d + 1) n.k = true) (h1 : a < b → VL P m n B w0 ops Q rest ((d, .int k b) :: env) H) (h2 : b ≤ a → VL P m n B w0 ops Q rest ((d, .int k a) :: env) H) :
    VL P m n B w0 ops Q (⟨some d, .call ⟨.builtin .max, #[x, y], tys⟩, ty, pos, after, none⟩ :: rest) env H := by
  by_cases hc : b > a
  · exact Yu rfl rfl hn rfl (fun f w ha _ => by simp [execOp, resolve, invoke, builtin, ha.eval hx, ha.eval hy, run_max_int2, hc]) (h1 hc)
  · exact Yu rfl rfl hn rfl (fun f w ha _ => by simp [execOp, resolve, invoke, builtin, ha.eval hx, ha.eval hy, run_max_int2, hc]) (h2 (by omega))
end
open Go.ChangeShapes Go.WideShapes Go.ChangeAt Go.RowKit Go.Deep
def Old (W : World) (A : Option Addr) (xs : List Value) : Prop := ∀ j v, xs[j]? = some v → ∃ g o, A = some ⟨g, o, none⟩ ∧ g < W.heap.size ∧ W.cell? ⟨g, o + j, none⟩ = some v
theorem Old.rd {W : World} {H : List HP} {A : Option Addr} {xs : List Value} (h : Old W A xs) : Rd W.heap.size W H A xs := Rd.old h
theorem Yhg {W : World} {a : Addr} {v : Value} (h : W.cell? a = some v) : a.block < W.heap.size := by
  unfold World.cell? at h
  rcases Nat.lt_or_ge a.block W.heap.size with h1 | h1
  · exact h1
  · rw [Array.getElem?_eq_none h1] at h; cases h
section
variable {H : Type} {enc : TypeId × Value → H} {P : Program} {W : World} {held : Bool}
theorem Ye3 {α : Type} {f : α → List Value} {good : α → Prop} {t e q : Nat} {fuel : Nat} {A : Option Addr} {len cap : Nat} {x : DataW H × List MemPlace} {spare : Nat → Bool} (ht : P.underlying t = some (.slice e)) (hc : P.cellsOf e = q) (h0 : 0 < q)
    (hel : ∀ n cs y, cs.length = q → DataW.trod enc P W 0 spare held n e cs = some y → ∃ a, cs = f a ∧ good a) (h : DataW.trod enc P W 0 spare held fuel t [.slice A len cap] = some x) :
    ∃ l : List α, l.length = len ∧ Old W A (l.flatMap f) ∧ (∀ a ∈ l, good a) ∧ len ≤ maxLen ∧ (∀ a ∈ l, (f a).length = q) := by
  rcases open_slice ht h with ⟨h1, _⟩ | ⟨a, len', cap', m, n, D, Pl, h1, _, hl, hm, hmm, hxx, hx⟩
  · injection h1 with h1 _
    injection h1 with h1 h2 h3
    subst h1 h2 h3
    exact ⟨[], rfl, (fun j v hv => by simp at hv), (fun a ha => by cases ha), Nat.zero_le _, (fun a ha => by cases ha)⟩
  · injection h1 with h1 _
    injection h1 with h1 h2 h3
    subst h1 h2 h3
    have hle : len ≤ m := by rw [hmm]; split <;> omega
    rw [hc] at hx
    have key : ∀ i, i < len → ∃ b : α, W.cells? 0 (a.add (i * q)) q = some (f b) ∧ good b := fun i hi => by
      obtain ⟨cs', h2, h3⟩ := hx i (by omega)
      obtain ⟨_, h5, _⟩ := World.cells?_some h2
      obtain ⟨b, rfl, hb⟩ := hel n cs' _ h5 h3
      exact ⟨b, h2, hb⟩
    obtain ⟨l, hlen, hl2⟩ : ∃ l : List α, l.length = len ∧ ∀ i b, l[i]? = some b → W.cells? 0 (a.add (i * q)) q = some (f b) ∧ good b := by
      clear hx hmm hle h hl hm hxx
      induction len with
      | zero => exact ⟨[], rfl, fun i b hb => by simp at hb⟩
      | succ k ih =>
        obtain ⟨l, h2, h3⟩ := ih (fun i hi => key i (by omega))
        obtain ⟨b, h4⟩ := key k (by omega)
        refine ⟨l ++ [b], by simp [h2], fun i c hc => ?_⟩
        by_cases hi : i < l.length
        · rw [List.getElem?_append_left hi] at hc; exact h3 i c hc
        · rw [List.getElem?_append_right (by omega)] at hc
          have hi2 : i - l.length = 0 := by
            have := (List.getElem?_eq_some_iff.1 hc).1
            simp at this; omega
          rw [hi2] at hc
          obtain rfl : b = c := by simpa using hc
          obtain rfl : i = k := by omega
          exact h4
    have hfq : ∀ b ∈ l, (f b).length = q := fun b hb => by
      obtain ⟨i, hi⟩ := List.getElem?_of_mem hb
      exact (World.cells?_some (hl2 i b hi).1).2.1
    refine ⟨l, hlen, fun j v hv => ?_, fun b hb => ?_, by omega, hfq⟩
    · have hspl : ∃ i b, l[i]? = some b ∧ ∃ r, j = i * q + r ∧ r < q ∧ (f b)[r]? = some v := by
        clear hlen hl2 key
        induction l generalizing j with
        | nil => simp at hv
        | cons b l ih =>
          rw [List.flatMap_cons] at hv
          have hb := hfq b (by simp)
          by_cases hj : j < q
          · rw [List.getElem?_append_left (by omega)] at hv
            exact ⟨0, b, rfl, j, by omega, hj, hv⟩
          · rw [List.getElem?_append_right (by omega), hb] at hv
            obtain ⟨i, b', h5, r, h6, h7, h8⟩ := ih (fun c hc => hfq c (by simp [hc])) (j - q) hv
            exact ⟨i + 1, b', by simpa using h5, r, by rw [Nat.add_mul]; omega, h7, h8⟩
      obtain ⟨i, b, h5, r, rfl, h7, h8⟩ := hspl
      have h9 := (World.cells?_some (hl2 i b h5).1).2.2 r h7
      rw [h8, add_add] at h9
      obtain ⟨ab, ao, spot⟩ := a
      have hs0 : spot = none := by
        have h10 := World.cell?_spot h9
        unfold Addr.add at h10
        split at h10
        · exact h10
        · rename_i hne
          have hi0 : i < len := by have := (List.getElem?_eq_some_iff.1 h5).1; omega
          have h11 := (World.cells?_some (hl2 0 l[0] (List.getElem?_eq_getElem (by omega))).1).2.2 0 h0
          rw [add_add, Nat.zero_mul, Nat.zero_add] at h11
          have hf0 : ((f l[0])[0]?).isSome = true := by
            rw [List.getElem?_eq_getElem (by rw [hfq _ (List.getElem_mem _)]; exact h0)]; rfl
          cases hf1 : (f l[0])[0]? with
          | none => rw [hf1] at hf0; cases hf0
          | some u =>
            rw [hf1] at h11
            exact World.cell?_spot h11
      subst hs0
      refine ⟨ab, ao, rfl, ?_, ?_⟩
      · have := Yhg h9
        rw [Addr.add_lit] at this
        exact this
      · rw [Addr.add_lit] at h9
        exact h9
    · obtain ⟨i, hi⟩ := List.getElem?_of_mem hb
      exact (hl2 i b hi).2
end
open Go.ChangeShapes Go.WideShapes Go.ChangeAt Go.RowKit Go.Deep
structure SlM (α : Type) where
  A : Option Addr
  cap : Nat
  xs : List α
def SlM.val {α : Type} (s : SlM α) : Value := .slice s.A s.xs.length s.cap
section
variable {H : Type} {enc : TypeId × Value → H} {P : Program} {W : World} {spare : Nat → Bool} {held : Bool}
def Opn (enc : TypeId × Value → H) (P : Program) (W : World) (spare : Nat → Bool) (held : Bool) (t : TypeId) {α : Type} (f : α → List Value) (good : α → Prop) : Prop :=
  ∀ fuel cs y, DataW.trod enc P W 0 spare held fuel t cs = some y → ∃ a, cs = f a ∧ good a
theorem YdB {t : TypeId} {α β : Type} {f : α → List Value} {good : α → Prop} {f' : β → List Value} {good' : β → Prop} (h : Opn enc P W spare held t f good) (g : α → β) (hf : ∀ a, f a = f' (g a)) (hg : ∀ a, good a → good' (g a)) : Opn enc P W spare held t f' good' := by
  intro fuel cs y hy
  obtain ⟨a, h1, h2⟩ := h fuel cs y hy
  exact ⟨g a, h1.trans (hf a), hg a h2⟩
theorem Yii {t : TypeId} {k : IntKind} (ht : P.underlying t = some (.int k)) : Opn enc P W spare held t (fun z : Int => [Value.int k z]) (fun z => (Lit.int k z).wf = true) := by
  intro fuel cs y hy
  obtain ⟨m, rfl, rfl, hw⟩ := DataW.trod_int ht hy
  exact ⟨m, rfl, hw⟩
structure SlG {α : Type} (W : World) (f : α → List Value) (good : α → Prop) (s : SlM α) : Prop where
  old : Old W s.A (s.xs.flatMap f)
  good : ∀ a ∈ s.xs, good a
  len : s.xs.length ≤ maxLen
  cap : s.xs.length ≤ s.cap
theorem VD {t e q : TypeId} {α : Type} {f : α → List Value} {good : α → Prop} (ht : P.underlying t = some (.slice e)) (hc : P.cellsOf e = q) (h0 : 0 < q) (h : Opn enc P W spare held e f good) : Opn enc P W spare held t (fun s : SlM α => [s.val]) (SlG W f good) := by
  intro fuel cs y hy
  rcases open_slice ht hy with ⟨rfl, _⟩ | ⟨a, len, cap, m, n, D, Pl, rfl, _, hlc, _⟩
  · exact ⟨⟨none, 0, []⟩, rfl, ⟨(fun j v hv => by simp at hv), (fun a ha => by cases ha), Nat.zero_le _, Nat.zero_le _⟩⟩
  · obtain ⟨l, h1, h2, h3, h4, _⟩ := Ye3 ht hc h0 (fun n cs y _ hy => h n cs y hy) hy
    subst h1
    exact ⟨⟨some a, cap, l⟩, rfl, h2, h3, h4, hlc⟩
def FOpn (enc : TypeId × Value → H) (P : Program) (W : World) (spare : Nat → Bool) (held : Bool) (ts : List TypeId) {α : Type} (f : α → List Value) (good : α → Prop) : Prop :=
  ∀ (n : Nat) (cs : List Value), cs.length = (ts.map P.cellsOf).sum → (∀ i t, ts[i]? = some t → ∃ y, DataW.trod enc P W 0 spare held n t ((cs.drop ((ts.take i).map P.cellsOf).sum).take (P.cellsOf t)) = some y) → ∃ a, cs = f a ∧ good a
theorem Yhj : FOpn enc P W spare held [] (fun _ : Unit => []) (fun _ => True) := fun n cs h _ => ⟨(), List.eq_nil_of_length_eq_zero (by simpa using h), trivial⟩
theorem Vv {t : TypeId} {ts : List TypeId} {α β : Type} {f : α → List Value} {good : α → Prop} {g : β → List Value} {good' : β → Prop} (h : Opn enc P W spare held t f good) (hs : FOpn enc P W spare held ts g good') :
    FOpn enc P W spare held (t :: ts) (fun x : α × β => f x.1 ++ g x.2) (fun x => good x.1 ∧ good' x.2) := by
  intro n cs hl hx
  simp only [List.map_cons, List.sum_cons] at hl
  obtain ⟨y, hy⟩ := hx 0 t rfl
  simp only [List.take_zero, List.map_nil, List.sum_nil, List.drop_zero] at hy
  obtain ⟨a, h1, h2⟩ := h n _ y hy
  obtain ⟨b, h3, h4⟩ := hs n (cs.drop (P.cellsOf t)) (by simp; omega) (fun i u hu => by
    obtain ⟨y, hy⟩ := hx (i + 1) u (by simpa using hu)
    refine ⟨y, ?_⟩
    rw [List.drop_drop]
    simpa using hy)
  exact ⟨(a, b), by show cs = f a ++ g b; rw [← h1, ← h3, List.take_append_drop], h2, h4⟩
def offs (P : Program) : List TypeId → Nat → List Nat
  | [], _ => []
  | t :: ts, o => o :: offs P ts (o + P.cellsOf t)
theorem YcO (P : Program) : ∀ (ts : List TypeId) (o i : Nat), i < ts.length → (offs P ts o)[i]? = some (o + ((ts.take i).map P.cellsOf).sum)
  | [], _, _, h => by simp at h
  | t :: ts, o, 0, _ => by simp [offs]
  | t :: ts, o, i + 1, h => by
    rw [offs, List.getElem?_cons_succ, YcO P ts _ i (by simpa using h)]
    simp [Nat.add_assoc]
def Yer (P : Program) (t : TypeId) (ts : List TypeId) : Bool :=
  match P.underlying t with
  | some (.struct fs) => (fs.toList.map (·.type) == ts) && (fs.toList.map (·.offset) == offs P ts 0) && (P.cellsOf t == (ts.map P.cellsOf).sum)
  | _ => false
theorem Ye2 {t : TypeId} {ts : List TypeId} {α : Type} {f : α → List Value} {good : α → Prop} (hB : Yer P t ts = true) (h : FOpn enc P W spare held ts f good) : Opn enc P W spare held t f good := by
  intro fuel cs y hy
  unfold Yer at hB
  cases hu : P.underlying t with
  | none => rw [hu] at hB; cases hB
  | some d =>
    rw [hu] at hB
    cases d with
    | struct fs =>
      simp only [Bool.and_eq_true, beq_iff_eq] at hB
      obtain ⟨⟨h1, h2⟩, h3⟩ := hB
      obtain ⟨xs, n, _, _, hl, hn, hx⟩ := DataW.trod_struct hu hy
      refine h n cs (hl.trans h3) fun i u hi => ?_
      have hlt : i < ts.length := (List.getElem?_eq_some_iff.1 hi).1
      have hlf : i < fs.toList.length := by rw [← h1] at hlt; simpa using hlt
      have hf : fs[i]? = some (fs.toList[i]) := by rw [← Array.getElem?_toList, List.getElem?_eq_getElem hlf]
      have ht : (fs.toList[i]).type = u := by
        rw [← h1, List.getElem?_map, List.getElem?_eq_getElem hlf] at hi
        simpa using hi
      have ho : (fs.toList[i]).offset = ((ts.take i).map P.cellsOf).sum := by
        have h5 := YcO P ts 0 i hlt
        rw [← h2, List.getElem?_map, List.getElem?_eq_getElem hlf] at h5
        simpa using h5
      have h6 := hx i _ hf
      rw [ht, ho] at h6
      have hlx : i < xs.length := by rw [hn]; simpa using hlf
      exact ⟨xs[i], by rw [h6, List.getElem?_eq_getElem hlx]⟩
    | _ => cases hB
end
open Go.RowKit
def J5 (env : Env) : List (Nat × Operand) → Option (List (Nat × Value))
  | [] => some []
  | (i, x) :: l => match evo env x with
    | none => none
    | some v => match J5 env l with
      | none => none
      | some r => some ((i, v) :: r)
theorem VF {env : Env} : ∀ {l : List (Nat × Operand)} {ps : List (Nat × Value)}, J5 env l = some ps → Wy env l ps
  | [], ps, h => by simp [J5] at h; subst h; exact YaU
  | (i, x) :: l, ps, h => by
    unfold J5 at h
    cases hx : evo env x with
    | none => rw [hx] at h; cases h
    | some v =>
      rw [hx] at h
      cases hl : J5 env l with
      | none => rw [hl] at h; cases h
      | some r =>
        rw [hl] at h
        simp only [Option.some.injEq] at h
        subst h
        exact YdD hx (VF hl)
def QN (P : Program) (t : Nat) : Option (List (Nat × Nat)) :=
  match P.underlying t with
  | some (.struct fs) => fs.toList.mapM (fun f => (P.info? f.type).map fun i => (f.offset, i.size))
  | some (.array k e) => (P.info? e).map fun i => (List.range k).map fun j => (j * i.size, i.size)
  | _ => none
def Oc (P : Program) (t : Nat) : Option Value := (P.info? t).bind (·.zero)
structure Tab2 (P : Program) where
  zt : List (Nat × Value)
  bt : List (Nat × List (Nat × Nat))
  zt_ok : (zt.map fun x => Oc P x.1) = zt.map fun x => some x.2
  bt_ok : (bt.map fun x => QN P x.1) = bt.map fun x => some x.2
theorem VA {β : Type} {f : Nat → Option β} : ∀ {l : List (Nat × β)}, (l.map fun x => f x.1) = (l.map fun x => some x.2) → ∀ {t : Nat} {v : β}, look l t = some v → f t = some v := by
  intro l h t v hl
  have hm := Zy hl
  clear hl
  induction l with
  | nil => cases hm
  | cons x l ih =>
    simp only [List.map_cons, List.cons.injEq] at h
    rcases List.mem_cons.1 hm with e | e
    · rw [← e] at h; exact h.1
    · exact ih h.2 e
theorem Ydd {P : Program} {t : Nat} {z : Value} (h : Oc P t = some z) (w : World) : (zeroValue t).run P w = .ok z w := by
  unfold Oc at h
  cases hi : P.info? t with
  | none => rw [hi] at h; cases h
  | some i =>
    rw [hi] at h
    have h2 : i.zero = some z := h
    simp [zeroValue, typeInfo, hi, h2]
def Ybu {β : Type} : List Value → (List Value → Option β) → Option β
  | [], k => k []
  | a :: l, k => Ybu l fun l' => k (a :: l')
theorem Wk {β : Type} : ∀ (l : List Value) (k : List Value → Option β), Ybu l k = k l
  | [], _ => rfl
  | a :: l, k => by rw [Ybu, Wk l]
def V4 : List Value → Nat → List Value → List Value
  | cs, _, [] => cs
  | cs, off, v :: vs => V4 (cs.set off v) (off + 1) vs
def Vu (place : Nat → Option (Nat × Nat)) (cs : List Value) : List (Nat × Value) → Option (List Value)
  | [] => some cs
  | (i, v) :: rest => match place i with
    | none => none
    | some (off, size) => match Nat.beq v.cells.toList.length size && Nat.ble (off + size) cs.length with
      | true => Ybu (V4 cs off v.cells.toList) fun cs' => Vu place cs' rest
      | false => none
theorem UM (off : Nat) : ∀ (l : List Value) (k : Nat) (cs : Array Value), (l.zipIdx k).foldl (fun cs (c, j) => cs.setIfInBounds (off + j) c) cs = (V4 cs.toList (off + k) l).toArray
  | [], _, cs => by simp [V4]
  | v :: l, k, cs => by
    rw [List.zipIdx_cons, List.foldl_cons, UM off l (k + 1)]
    simp [V4, Nat.add_assoc]
theorem Qb {place place' : Nat → Option (Nat × Nat)} (hp : ∀ i q, place i = some q → place' i = some q) : ∀ {ps : List (Nat × Value)} {cs r : List Value}, Vu place cs ps = some r → Vu place' cs ps = some r
  | [], _, _, h => h
  | (i, v) :: rest, cs, r, h => by
    unfold Vu at h ⊢
    cases hi : place i with
    | none => rw [hi] at h; cases h
    | some q =>
      rw [hi] at h
      rw [hp i q hi]
      obtain ⟨off, size⟩ := q
      simp only at h ⊢
      split at h
      · rw [Wk] at h ⊢
        exact Qb hp h
      · cases h
theorem JY {place : Nat → Option (Nat × Nat)} : ∀ {ps : List (Nat × Value)} {cs : Array Value} {r : List Value}, Vu place cs.toList ps = some r → Instr.fill place cs ps = some r.toArray
  | [], cs, r, h => by simp [Vu] at h; subst h; simp [Instr.fill]
  | (i, v) :: rest, cs, r, h => by
    unfold Vu at h
    unfold Instr.fill
    cases hp : place i with
    | none => rw [hp] at h; cases h
    | some q =>
      obtain ⟨off, size⟩ := q
      rw [hp] at h
      simp only at h ⊢
      split at h
      · rename_i hb
        simp only [Bool.and_eq_true, Array.length_toList] at hb
        obtain ⟨h1, h2⟩ := hb
        have h2' := Nat.le_of_ble_eq_true h2
        have h1' : v.cells.size = size := by simpa using h1
        rw [Wk] at h
        have hz : v.cells.zipIdx.foldl (fun cs (c, j) => cs.setIfInBounds (off + j) c) cs = (V4 cs.toList off v.cells.toList).toArray := by
          rw [← Array.foldl_toList, Array.toList_zipIdx]
          exact UM off v.cells.toList 0 cs
        rw [if_neg (by simp [h1']; omega), hz]
        exact JY (by simpa using h)
      · cases h
def repZ : Nat → List Value → List Value
  | 0, _ => []
  | n + 1, z => z ++ repZ n z
theorem WZ (z : List Value) : ∀ n, (repZ n z).length = n * z.length
  | 0 => by simp [repZ]
  | n + 1 => by rw [repZ, List.length_append, WZ z n, Nat.add_mul]; omega
theorem YcW (z : List Value) (hz : 0 < z.length) : ∀ (n j : Nat), j < n * z.length → (repZ n z)[j]? = z[j % z.length]?
  | 0, j, h => by omega
  | n + 1, j, h => by
    rw [repZ]
    by_cases hj : j < z.length
    · rw [List.getElem?_append_left hj, Nat.mod_eq_of_lt hj]
    · rw [List.getElem?_append_right (by omega), YcW z hz n _ (by rw [Nat.add_mul] at h; omega), ← Nat.mod_eq_sub_mod (by omega)]
theorem Ygz (zs : Array Value) (hz : 0 < zs.size) (n : Nat) : ((Array.range (n * zs.size)).map (zs[· % zs.size]!)) = (repZ n zs.toList).toArray := by
  apply Array.ext'
  apply List.ext_getElem?
  intro j
  have hl : zs.toList.length = zs.size := by simp
  by_cases hj : j < n * zs.size
  · have h1 := YcW zs.toList (by omega) n j (by rw [hl]; exact hj)
    rw [hl] at h1
    have hm : j % zs.size < zs.size := Nat.mod_lt _ hz
    rw [List.toList_toArray, h1]
    simp [hj, hm, Array.getElem!_eq_getD, Array.getD_eq_getD_getElem?]
  · rw [List.getElem?_eq_none (by simp; omega), List.getElem?_eq_none (by simp [WZ]; omega)]
section
variable {P : Program} {m : Mode} {n : Shp} {B : Nat} {w0 : World} {ops : Array Oper} {Q : Exit → Act → World → Prop} {rest : List Oper} {env : Env} {H : List HP} {d : Nat} {ty : TypeId} {pos : String} {after : Array Edge}
theorem Yeu (T2 : Tab2 P) {t : TypeId} {z : Value} {cs : Array Value} (hz : look T2.zt t = some z) (hc : z.cells = cs) (hn : Nat.ble (d + 1) n.k = true)
    (h : ∀ g, VL P none n B w0 ops Q rest ((d, .pointer (some ⟨g, 0, none⟩)) :: env) (blk g (.cells cs t (0, 0)) :: H)) : VL P none n B w0 ops Q (⟨some d, .alloc t, ty, pos, after, none⟩ :: rest) env H :=
  YfF (Ydd (VA T2.zt_ok hz)) hc hn h
theorem Yex (T2 : Tab2 P) {t : TypeId} {parts : List (Nat × Operand)} {ps : List (Nat × Value)} {zc : Array Value} {pl : List (Nat × Nat)} {cs : List Value} (hp : J5 env parts = some ps) (hz : look T2.zt t = some (.agg zc)) (hl : look T2.bt t = some pl)
    (hf : Vu (pl[·]?) zc.toList ps = some cs) (hn : Nat.ble (d + 1) n.k = true)
    (h : VL P m n B w0 ops Q rest ((d, .agg cs.toArray) :: env) H) : VL P m n B w0 ops Q (⟨some d, .build t parts.toArray, ty, pos, after, none⟩ :: rest) env H := by
  refine YfG (VF hp) (fun w => run_build w t _ cs.toArray ?_) hn h
  have h1 := VA T2.zt_ok hz
  have h2 := VA T2.bt_ok hl
  unfold Oc at h1
  unfold QN at h2
  unfold Program.built
  cases hi : P.info? t with
  | none => rw [hi] at h1; cases h1
  | some i =>
    rw [hi] at h1
    have h3 : i.zero = some (.agg zc) := h1
    cases hu : P.underlying t with
    | none => rw [hu] at h2; cases h2
    | some dd =>
      rw [hu] at h2
      cases dd <;> try (cases h2; done)
      · rename_i k e
        cases hie : P.info? e with
        | none => simp only [hie] at h2; cases h2
        | some ie =>
          simp only [hie, Option.map_some, Option.some.injEq] at h2
          simp only [h3, hie]
          refine JY (cs := zc) (Qb (fun a q ha => ?_) hf)
          rw [← h2, List.getElem?_map] at ha
          by_cases hak : a < k
          · rw [List.getElem?_range hak] at ha; exact ha
          · rw [List.getElem?_eq_none (by simpa using hak)] at ha; cases ha
      · rename_i fs
        have h4 : fs.toList.mapM (fun f => (P.info? f.type).map fun i => (f.offset, i.size)) = some pl := h2
        simp only [h3, h4]
        have h5 := JY (place := (pl[·]?)) (cs := zc) hf
        simpa [Value.cells] using h5
theorem OG (T : Tab P) (T2 : Tab2 P) {t e len size bytes : Nat} {parts : List (Nat × Operand)} {ps : List (Nat × Value)} {z : Value} {zl cs : List Value} (ht : look T.sl t = some (e, size, bytes)) (hp : J5 env parts = some ps) (hz : look T2.zt e = some z) (hzc : z.cells = zl.toArray)
    (hf : Vu (fun i => some (i * size, size)) (repZ len zl) ps = some cs) (hn : Nat.ble (d + 1) n.k = true) (hl : (Nat.blt 0 (len * size) && Nat.beq zl.length size && Nat.ble (len * size) 1000000) = true)
    (h : ∀ g, VL P none n B w0 ops Q rest ((d, .slice (some ⟨g, 0, none⟩) len len) :: env) (blk g (.cells cs.toArray e (0, 0)) :: H)) : VL P none n B w0 ops Q (⟨some d, .buildSlice t len parts.toArray, ty, pos, after, none⟩ :: rest) env H := by
  simp only [Bool.and_eq_true] at hl
  obtain ⟨⟨hl1, hl2⟩, hl3⟩ := hl
  have hl1' : 0 < len * size := by simpa using hl1
  have hl2' : zl.length = size := Nat.eq_of_beq_eq_true hl2
  have hl3' := Nat.le_of_ble_eq_true hl3
  obtain ⟨hut, inf, z', hinf, hz', _, hsi, _⟩ := YP (T.slic ht)
  have h1 := VA T2.zt_ok hz
  unfold Oc at h1
  rw [hinf] at h1
  have h3 : inf.zero = some z := h1
  refine V7 (VF hp) (fun w => run_buildSlice w t e len _ cs.toArray inf z hut hinf h3 (by rw [hsi]; omega) (by rw [hsi]; omega) ?_) hn h
  have hzs : z.cells.size = size := by rw [hzc]; simpa using hl2'
  have hpos : 0 < z.cells.size := by
    rcases Nat.eq_zero_or_pos size with h0 | h0
    · rw [h0, Nat.mul_zero] at hl1'; omega
    · omega
  rw [hsi]
  have h5 := Ygz z.cells hpos len
  rw [hzs] at h5
  rw [show (fun x => z.cells[x % z.cells.size]!) = fun x => z.cells[x % size]! by rw [hzs], h5, hzc]
  simpa using JY (place := fun i => some (i * size, size)) (cs := (repZ len zl).toArray) (by simpa using hf)
theorem Ya6 (T : Tab P) {α : Type} {f : α → List Value} {l : List α} {s fl k i q : Nat} {x : Operand} {A : Option Addr} (hx : evo env x = some (sptr A (i * q))) (hr : Rd B w0 H A (l.flatMap f)) (hq : ∀ a, (f a).length = q) (h0 : Nat.blt 0 q = true) (hf : Vz T.fo s fl = some k) (hn : Nat.ble (d + 1) n.k = true) (hi : i < l.length)
    (h : VL P m n B w0 ops Q rest ((d, sptr A (i * q + k)) :: env) H) : VL P m n B w0 ops Q (⟨some d, .fieldAddr s x fl, ty, pos, after, none⟩ :: rest) env H := by
  refine YbT T hx hr ?_ hf hn h
  rw [Xf hq]
  have h0' : 0 < q := by simpa using h0
  calc i * q < i * q + q := by omega
    _ = (i + 1) * q := by rw [Nat.add_mul]; omega
    _ ≤ l.length * q := Nat.mul_le_mul_right q hi
theorem Yfe {a : Act} (ha : Fits n a env) {f : Nat} {x : Operand} {args : List Operand} {tys : Array TypeId} {vs cs : List Value} (hx : evo env x = some (.func (.func f) #[] cs.toArray))
    (hc : ∀ xs w, (callFunc f xs).run P w = .ok (.enter f xs) w) (hargs : Args env args vs) (w : World) :
    (execOp a.eval ⟨some d, .call ⟨.value x, args.toArray, tys⟩, ty, pos, after, none⟩).run P w = .ok (.enter f (vs ++ cs).toArray) w := by
  have hmap : args.toArray.map a.eval = vs.toArray := by rw [List.map_toArray, J3 ha _ _ hargs]
  simp only [execOp, resolve, ha.eval hx, hmap, Deferred.ofValue, Sem.run_bind, Sem.run_pure, Result.andThen_ok, invoke]
  simpa using hc ((vs ++ cs).toArray) w
theorem YG {f : Nat} {x : Operand} {args : List Operand} {tys : Array TypeId} {vs cs : List Value} {v : Value} (hx : evo env x = some (.func (.func f) #[] cs.toArray))
    (hc : ∀ xs w, (callFunc f xs).run P w = .ok (.enter f xs) w) (hargs : Args env args vs) (hn : Nat.ble (d + 1) n.k = true)
    (hcall : ∀ w, St B w0 H w → Calls P f (vs ++ cs).toArray w (Post B w0 fun u K => u = v ∧ K = H))
    (h : VL P none n B w0 ops Q rest ((d, v) :: env) H) :
    VL P none n B w0 ops Q (⟨some d, .call ⟨.value x, args.toArray, tys⟩, ty, pos, after, none⟩ :: rest) env H :=
  Ut _ hx hc hargs hn hcall (by rintro _ _ ⟨rfl, rfl⟩; exact h)
theorem Y9 {f : Nat} {x : Operand} {args : List Operand} {tys : Array TypeId} {vs cs : List Value} {v : Value} (hx : evo env x = some (.func (.func f) #[] cs.toArray))
    (hc : ∀ xs w, (callFunc f xs).run P w = .ok (.enter f xs) w) (hargs : Args env args vs) (hn : Nat.ble (d + 1) n.k = true)
    (hcall : ∀ w, St B w0 H w → Calls P f (vs ++ cs).toArray w (Post B w0 fun u K => u = v ∧ K = H))
    (h : VL P (some none) n B w0 ops Q rest ((d, v) :: env) H) :
    VL P (some none) n B w0 ops Q (⟨some d, .call ⟨.value x, args.toArray, tys⟩, ty, pos, after, none⟩ :: rest) env H := by
  refine ⟨fun a ha => wpQuiet_step fun K hK => ?_⟩
  rw [if_pos (by simp [Region.wanted])]
  refine ⟨v, fun w hw => ?_, hK _ ?_⟩
  · unfold Oper.quietAt
    rw [Yfe ha hx hc hargs]
    refine ⟨rfl, (hcall w hw).mono ?_⟩
    rintro e w' ⟨_, _, rfl, hst, rfl, rfl⟩
    exact ⟨rfl, hst⟩
  · exact h.run _ (ha.put (Nat.le_of_ble_eq_true hn) v)
def effW (o : Oper) : Bool := eff o && match o.op with | .call ⟨.value _, _, _⟩ => false | .makeFunc _ _ _ => false | _ => true
theorem YfB {id : Nat} {l : List Oper} (hq : (l.all fun o => !effW o) = true) (hm : P.follows .mixedOrders = true) (hB : Region.lexB .any l.toArray = true) (h : VL P (some none) n B w0 l.toArray Q l env H) : VC P n B w0 (.region id l.toArray true) Q env H :=
  YdT hm (by have := hq; exact hB) h
end
end Go.Eng
namespace Go.Proofs.YtmalhidldgfeoaaGreatDoor
open Go.Eng
theorem Yir : ([(1, ()), (3, ()), (4, ()), (5, ()), (9, ()), (22, ()), (23, ()), (24, ()), (27, ()), (28, ()), (48, ()), (59, ()), (72, ()), (80, ()), (81, ()), (82, ()), (129, ()), (130, ()), (134, ()), (162, ()), (195, ()), (221, ()), (222, ()), (249, ()), (277, ()), (291, ()), (302, ())].all fun x : Nat × Unit => oneT Tryz.prog x.1) = true := by kernel_rfl
theorem Yim : ([(26, 6), (30, 3), (40, 5), (61, 5), (68, 6), (70, 7), (84, 2), (96, 5), (151, 17), (167, 8), (169, 4), (172, 3), (181, 3), (183, 5), (212, 4), (213, 16), (224, 5), (250, 4), (257, 5), (263, 2), (334, 20), (338, 2), (339, 32), (347, 32), (348, 64)].all fun x : Nat × Nat => aggT Tryz.prog x.1 == some x.2) = true := by kernel_rfl
theorem Yip : ([(26, 0, 0), (26, 1, 1), (26, 2, 2), (26, 3, 3), (26, 4, 4), (26, 5, 5), (30, 0, 0), (30, 1, 1), (30, 2, 2), (40, 0, 0), (40, 1, 1), (40, 2, 2), (40, 3, 3), (40, 4, 4), (61, 0, 0), (61, 1, 1), (61, 2, 2), (61, 3, 3), (61, 4, 4), (68, 0, 0), (68, 1, 1), (68, 2, 2), (68, 3, 3), (68, 4, 4), (68, 5, 5), (70, 0, 0), (70, 1, 6), (84, 0, 0), (84, 1, 1), (96, 0, 0), (96, 1, 1), (96, 2, 2), (96, 3, 3), (132, 0, 0), (132, 1, 1), (144, 0, 0), (144, 1, 1), (151, 0, 0), (151, 1, 6), (151, 2, 9), (151, 3, 15), (151, 4, 16), (164, 0, 0), (164, 1, 1), (164, 2, 4), (164, 3, 5), (164, 4, 6), (167, 0, 0), (167, 1, 1), (167, 2, 2), (167, 3, 7), (169, 0, 0), (169, 1, 1), (169, 2, 2), (169, 3, 3), (172, 0, 0), (172, 1, 1), (172, 2, 2), (181, 0, 0), (181, 1, 1), (181, 2, 2), (212, 0, 0), (212, 1, 1), (212, 2, 2), (224, 0, 0), (224, 1, 1), (224, 2, 2), (224, 3, 3), (224, 4, 4), (257, 0, 0), (257, 1, 1), (257, 2, 2), (257, 3, 3), (257, 4, 4), (263, 0, 0), (263, 1, 1), (338, 0, 0), (338, 1, 1)].all fun x : Nat × Nat × Nat => Vt Tryz.prog x.1 x.2.1 == some x.2.2) = true := by kernel_rfl
theorem Yis : ([(22, (24, 1, 24)), (23, (172, 3, 24)), (24, (3, 1, 8)), (27, (68, 6, 48)), (28, (40, 5, 40)), (36, (4, 1, 1)), (37, (28, 1, 24)), (45, (70, 7, 72)), (48, (61, 5, 104)), (59, (72, 1, 24)), (72, (3, 1, 8)), (80, (257, 5, 56)), (81, (167, 8, 64)), (82, (181, 3, 24)), (87, (96, 5, 56)), (130, (5, 1, 1)), (140, (9, 1, 16)), (162, (224, 5, 40))].all fun x : Nat × (Nat × Nat × Nat) => QJ Tryz.prog x.1 == some x.2) = true := by kernel_rfl
theorem Yin : ([(183, (5, 3, 1)), (213, (4, 212, 4)), (250, (4, 1, 1)), (315, (24, 5, 1)), (334, (20, 277, 1)), (335, (65, 5, 1)), (336, (256, 5, 1)), (339, (16, 338, 2)), (347, (32, 5, 1)), (348, (64, 5, 1))].all fun x : Nat × (Nat × Nat × Nat) => OP Tryz.prog x.1 == some x.2) = true := by kernel_rfl
theorem Yiq : ([(2, .i64), (3, .i64), (5, .u8), (21, .i32), (197, .u64), (275, .u32), (277, .u64), (302, .u64)].all fun x : Nat × IntKind => decide (intT Tryz.prog x.1 = some x.2)) = true := by kernel_rfl
theorem Yit : ([(9, ())].all fun x : Nat × Unit => YbK Tryz.prog x.1) = true := by kernel_rfl
def T : Tab Tryz.prog := ⟨_, _, _, _, _, _, _, Yir, Yim, Yip, Yis, Yin, Yiq, Yit⟩
theorem Yiu : ([(3, .int .i64 0), (4, .bool false), (5, .int .u8 0), (9, .string ⟨#[]⟩), (24, .slice none 0 0), (26, .agg #[.int .i64 0, .slice none 0 0, .int .i64 0, .int .i64 0, .slice none 0 0, .slice none 0 0]), (28, .slice none 0 0), (30, .agg #[.int .i64 0, .int .i64 0, .slice none 0 0]), (40, .agg #[.int .i64 0, .int .i64 0, .int .i64 0, .int .i64 0, .int .i64 0]), (61, .agg #[.int .i64 0, .slice none 0 0, .slice none 0 0, .slice none 0 0, .slice none 0 0]), (68, .agg #[.int .i64 0, .int .i64 0, .int .i64 0, .int .i64 0, .int .i64 0, .int .i64 0]), (70, .agg #[.int .i64 0, .int .i64 0, .int .i64 0, .int .i64 0, .int .i64 0, .int .i64 0, .slice none 0 0]), (72, .slice none 0 0), (84, .agg #[.slice none 0 0, .slice none 0 0]), (96, .agg #[.int .i64 0, .int .i64 0, .int .i64 0, .int .i64 0, .slice none 0 0]), (132, .agg #[.pointer none, .slice none 0 0]), (144, .agg #[.slice none 0 0, .int .i64 0]), (151, .agg #[.int .i64 0, .slice none 0 0, .int .i64 0, .int .i64 0, .slice none 0 0, .slice none 0 0, .int .i64 0, .int .i64 0, .slice none 0 0, .int .i64 0, .int .i64 0, .int .i64 0, .int .i64 0, .int .i64 0, .int .i64 0, .slice none 0 0, .int .i64 0]), (164, .agg #[.slice none 0 0, .int .i64 0, .int .i64 0, .slice none 0 0, .slice none 0 0, .slice none 0 0, .slice none 0 0, .slice none 0 0]), (167, .agg #[.int .i64 0, .int .i64 0, .int .i64 0, .int .i64 0, .int .i64 0, .int .i64 0, .int .i64 0, .int .i64 0]), (169, .agg #[.int .i64 0, .int .i64 0, .int .i64 0, .int .i64 0]), (172, .agg #[.int .i64 0, .int .i64 0, .int .i64 0]), (181, .agg #[.int .i64 0, .int .i64 0, .int .i64 0]), (183, .agg #[.int .i64 0, .int .i64 0, .int .i64 0, .int .i64 0, .int .i64 0]), (195, .nilFunc), (212, .agg #[.string ⟨#[]⟩, .int .i64 0, .int .i64 0, .int .i64 0]), (213, .agg #[.string ⟨#[]⟩, .int .i64 0, .int .i64 0, .int .i64 0, .string ⟨#[]⟩, .int .i64 0, .int .i64 0, .int .i64 0, .string ⟨#[]⟩, .int .i64 0, .int .i64 0, .int .i64 0, .string ⟨#[]⟩, .int .i64 0, .int .i64 0, .int .i64 0]), (224, .agg #[.int .i64 0, .map none, .map none, .map none, .bool false]), (249, .pointer none), (250, .agg #[.nilFunc, .nilFunc, .nilFunc, .nilFunc]), (257, .agg #[.int .i64 0, .int .i64 0, .int .i64 0, .int .i64 0, .slice none 0 0]), (263, .agg #[.int .i64 0, .int .i64 0]), (302, .int .u64 0), (315, .agg #[.int .u8 0, .int .u8 0, .int .u8 0, .int .u8 0, .int .u8 0, .int .u8 0, .int .u8 0, .int .u8 0, .int .u8 0, .int .u8 0, .int .u8 0, .int .u8 0, .int .u8 0, .int .u8 0, .int .u8 0, .int .u8 0, .int .u8 0, .int .u8 0, .int .u8 0, .int .u8 0, .int .u8 0, .int .u8 0, .int .u8 0, .int .u8 0]), (331, .agg #[.string ⟨#[]⟩, .string ⟨#[]⟩, .nilIface]), (334, .agg #[.int .u64 0, .int .u64 0, .int .u64 0, .int .u64 0, .int .u64 0, .int .u64 0, .int .u64 0, .int .u64 0, .int .u64 0, .int .u64 0, .int .u64 0, .int .u64 0, .int .u64 0, .int .u64 0, .int .u64 0, .int .u64 0, .int .u64 0, .int .u64 0, .int .u64 0, .int .u64 0]), (335, .agg #[.int .u8 0, .int .u8 0, .int .u8 0, .int .u8 0, .int .u8 0, .int .u8 0, .int .u8 0, .int .u8 0, .int .u8 0, .int .u8 0, .int .u8 0, .int .u8 0, .int .u8 0, .int .u8 0, .int .u8 0, .int .u8 0, .int .u8 0, .int .u8 0, .int .u8 0, .int .u8 0, .int .u8 0, .int .u8 0, .int .u8 0, .int .u8 0, .int .u8 0, .int .u8 0, .int .u8 0, .int .u8 0, .int .u8 0, .int .u8 0, .int .u8 0, .int .u8 0, .int .u8 0, .int .u8 0, .int .u8 0, .int .u8 0, .int .u8 0, .int .u8 0, .int .u8 0, .int .u8 0, .int .u8 0, .int .u8 0, .int .u8 0, .int .u8 0, .int .u8 0, .int .u8 0, .int .u8 0, .int .u8 0, .int .u8 0, .int .u8 0, .int .u8 0, .int .u8 0, .int .u8 0, .int .u8 0, .int .u8 0, .int .u8 0, .int .u8 0, .int .u8 0, .int .u8 0, .int .u8 0, .int .u8 0, .int .u8 0, .int .u8 0, .int .u8 0, .int .u8 0]), (338, .agg #[.int .u8 0, .int .u8 0]), (339, .agg #[.int .u8 0, .int .u8 0, .int .u8 0, .int .u8 0, .int .u8 0, .int .u8 0, .int .u8 0, .int .u8 0, .int .u8 0, .int .u8 0, .int .u8 0, .int .u8 0, .int .u8 0, .int .u8 0, .int .u8 0, .int .u8 0, .int .u8 0, .int .u8 0, .int .u8 0, .int .u8 0, .int .u8 0, .int .u8 0, .int .u8 0, .int .u8 0, .int .u8 0, .int .u8 0, .int .u8 0, .int .u8 0, .int .u8 0, .int .u8 0, .int .u8 0, .int .u8 0]), (346, .agg #[.string ⟨#[]⟩]), (347, .agg #[.int .u8 0, .int .u8 0, .int .u8 0, .int .u8 0, .int .u8 0, .int .u8 0, .int .u8 0, .int .u8 0, .int .u8 0, .int .u8 0, .int .u8 0, .int .u8 0, .int .u8 0, .int .u8 0, .int .u8 0, .int .u8 0, .int .u8 0, .int .u8 0, .int .u8 0, .int .u8 0, .int .u8 0, .int .u8 0, .int .u8 0, .int .u8 0, .int .u8 0, .int .u8 0, .int .u8 0, .int .u8 0, .int .u8 0, .int .u8 0, .int .u8 0, .int .u8 0]), (348, .agg #[.int .u8 0, .int .u8 0, .int .u8 0, .int .u8 0, .int .u8 0, .int .u8 0, .int .u8 0, .int .u8 0, .int .u8 0, .int .u8 0, .int .u8 0, .int .u8 0, .int .u8 0, .int .u8 0, .int .u8 0, .int .u8 0, .int .u8 0, .int .u8 0, .int .u8 0, .int .u8 0, .int .u8 0, .int .u8 0, .int .u8 0, .int .u8 0, .int .u8 0, .int .u8 0, .int .u8 0, .int .u8 0, .int .u8 0, .int .u8 0, .int .u8 0, .int .u8 0, .int .u8 0, .int .u8 0, .int .u8 0, .int .u8 0, .int .u8 0, .int .u8 0, .int .u8 0, .int .u8 0, .int .u8 0, .int .u8 0, .int .u8 0, .int .u8 0, .int .u8 0, .int .u8 0, .int .u8 0, .int .u8 0, .int .u8 0, .int .u8 0, .int .u8 0, .int .u8 0, .int .u8 0, .int .u8 0, .int .u8 0, .int .u8 0, .int .u8 0, .int .u8 0, .int .u8 0, .int .u8 0, .int .u8 0, .int .u8 0, .int .u8 0, .int .u8 0])].map fun x : Nat × Value => Oc Tryz.prog x.1) = [(3, .int .i64 0), (4, .bool false), (5, .int .u8 0), (9, .string ⟨#[]⟩), (24, .slice none 0 0), (26, .agg #[.int .i64 0, .slice none 0 0, .int .i64 0, .int .i64 0, .slice none 0 0, .slice none 0 0]), (28, .slice none 0 0), (30, .agg #[.int .i64 0, .int .i64 0, .slice none 0 0]), (40, .agg #[.int .i64 0, .int .i64 0, .int .i64 0, .int .i64 0, .int .i64 0]), (61, .agg #[.int .i64 0, .slice none 0 0, .slice none 0 0, .slice none 0 0, .slice none 0 0]), (68, .agg #[.int .i64 0, .int .i64 0, .int .i64 0, .int .i64 0, .int .i64 0, .int .i64 0]), (70, .agg #[.int .i64 0, .int .i64 0, .int .i64 0, .int .i64 0, .int .i64 0, .int .i64 0, .slice none 0 0]), (72, .slice none 0 0), (84, .agg #[.slice none 0 0, .slice none 0 0]), (96, .agg #[.int .i64 0, .int .i64 0, .int .i64 0, .int .i64 0, .slice none 0 0]), (132, .agg #[.pointer none, .slice none 0 0]), (144, .agg #[.slice none 0 0, .int .i64 0]), (151, .agg #[.int .i64 0, .slice none 0 0, .int .i64 0, .int .i64 0, .slice none 0 0, .slice none 0 0, .int .i64 0, .int .i64 0, .slice none 0 0, .int .i64 0, .int .i64 0, .int .i64 0, .int .i64 0, .int .i64 0, .int .i64 0, .slice none 0 0, .int .i64 0]), (164, .agg #[.slice none 0 0, .int .i64 0, .int .i64 0, .slice none 0 0, .slice none 0 0, .slice none 0 0, .slice none 0 0, .slice none 0 0]), (167, .agg #[.int .i64 0, .int .i64 0, .int .i64 0, .int .i64 0, .int .i64 0, .int .i64 0, .int .i64 0, .int .i64 0]), (169, .agg #[.int .i64 0, .int .i64 0, .int .i64 0, .int .i64 0]), (172, .agg #[.int .i64 0, .int .i64 0, .int .i64 0]), (181, .agg #[.int .i64 0, .int .i64 0, .int .i64 0]), (183, .agg #[.int .i64 0, .int .i64 0, .int .i64 0, .int .i64 0, .int .i64 0]), (195, .nilFunc), (212, .agg #[.string ⟨#[]⟩, .int .i64 0, .int .i64 0, .int .i64 0]), (213, .agg #[.string ⟨#[]⟩, .int .i64 0, .int .i64 0, .int .i64 0, .string ⟨#[]⟩, .int .i64 0, .int .i64 0, .int .i64 0, .string ⟨#[]⟩, .int .i64 0, .int .i64 0, .int .i64 0, .string ⟨#[]⟩, .int .i64 0, .int .i64 0, .int .i64 0]), (224, .agg #[.int .i64 0, .map none, .map none, .map none, .bool false]), (249, .pointer none), (250, .agg #[.nilFunc, .nilFunc, .nilFunc, .nilFunc]), (257, .agg #[.int .i64 0, .int .i64 0, .int .i64 0, .int .i64 0, .slice none 0 0]), (263, .agg #[.int .i64 0, .int .i64 0]), (302, .int .u64 0), (315, .agg #[.int .u8 0, .int .u8 0, .int .u8 0, .int .u8 0, .int .u8 0, .int .u8 0, .int .u8 0, .int .u8 0, .int .u8 0, .int .u8 0, .int .u8 0, .int .u8 0, .int .u8 0, .int .u8 0, .int .u8 0, .int .u8 0, .int .u8 0, .int .u8 0, .int .u8 0, .int .u8 0, .int .u8 0, .int .u8 0, .int .u8 0, .int .u8 0]), (331, .agg #[.string ⟨#[]⟩, .string ⟨#[]⟩, .nilIface]), (334, .agg #[.int .u64 0, .int .u64 0, .int .u64 0, .int .u64 0, .int .u64 0, .int .u64 0, .int .u64 0, .int .u64 0, .int .u64 0, .int .u64 0, .int .u64 0, .int .u64 0, .int .u64 0, .int .u64 0, .int .u64 0, .int .u64 0, .int .u64 0, .int .u64 0, .int .u64 0, .int .u64 0]), (335, .agg #[.int .u8 0, .int .u8 0, .int .u8 0, .int .u8 0, .int .u8 0, .int .u8 0, .int .u8 0, .int .u8 0, .int .u8 0, .int .u8 0, .int .u8 0, .int .u8 0, .int .u8 0, .int .u8 0, .int .u8 0, .int .u8 0, .int .u8 0, .int .u8 0, .int .u8 0, .int .u8 0, .int .u8 0, .int .u8 0, .int .u8 0, .int .u8 0, .int .u8 0, .int .u8 0, .int .u8 0, .int .u8 0, .int .u8 0, .int .u8 0, .int .u8 0, .int .u8 0, .int .u8 0, .int .u8 0, .int .u8 0, .int .u8 0, .int .u8 0, .int .u8 0, .int .u8 0, .int .u8 0, .int .u8 0, .int .u8 0, .int .u8 0, .int .u8 0, .int .u8 0, .int .u8 0, .int .u8 0, .int .u8 0, .int .u8 0, .int .u8 0, .int .u8 0, .int .u8 0, .int .u8 0, .int .u8 0, .int .u8 0, .int .u8 0, .int .u8 0, .int .u8 0, .int .u8 0, .int .u8 0, .int .u8 0, .int .u8 0, .int .u8 0, .int .u8 0, .int .u8 0]), (338, .agg #[.int .u8 0, .int .u8 0]), (339, .agg #[.int .u8 0, .int .u8 0, .int .u8 0, .int .u8 0, .int .u8 0, .int .u8 0, .int .u8 0, .int .u8 0, .int .u8 0, .int .u8 0, .int .u8 0, .int .u8 0, .int .u8 0, .int .u8 0, .int .u8 0, .int .u8 0, .int .u8 0, .int .u8 0, .int .u8 0, .int .u8 0, .int .u8 0, .int .u8 0, .int .u8 0, .int .u8 0, .int .u8 0, .int .u8 0, .int .u8 0, .int .u8 0, .int .u8 0, .int .u8 0, .int .u8 0, .int .u8 0]), (346, .agg #[.string ⟨#[]⟩]), (347, .agg #[.int .u8 0, .int .u8 0, .int .u8 0, .int .u8 0, .int .u8 0, .int .u8 0, .int .u8 0, .int .u8 0, .int .u8 0, .int .u8 0, .int .u8 0, .int .u8 0, .int .u8 0, .int .u8 0, .int .u8 0, .int .u8 0, .int .u8 0, .int .u8 0, .int .u8 0, .int .u8 0, .int .u8 0, .int .u8 0, .int .u8 0, .int .u8 0, .int .u8 0, .int .u8 0, .int .u8 0, .int .u8 0, .int .u8 0, .int .u8 0, .int .u8 0, .int .u8 0]), (348, .agg #[.int .u8 0, .int .u8 0, .int .u8 0, .int .u8 0, .int .u8 0, .int .u8 0, .int .u8 0, .int .u8 0, .int .u8 0, .int .u8 0, .int .u8 0, .int .u8 0, .int .u8 0, .int .u8 0, .int .u8 0, .int .u8 0, .int .u8 0, .int .u8 0, .int .u8 0, .int .u8 0, .int .u8 0, .int .u8 0, .int .u8 0, .int .u8 0, .int .u8 0, .int .u8 0, .int .u8 0, .int .u8 0, .int .u8 0, .int .u8 0, .int .u8 0, .int .u8 0, .int .u8 0, .int .u8 0, .int .u8 0, .int .u8 0, .int .u8 0, .int .u8 0, .int .u8 0, .int .u8 0, .int .u8 0, .int .u8 0, .int .u8 0, .int .u8 0, .int .u8 0, .int .u8 0, .int .u8 0, .int .u8 0, .int .u8 0, .int .u8 0, .int .u8 0, .int .u8 0, .int .u8 0, .int .u8 0, .int .u8 0, .int .u8 0, .int .u8 0, .int .u8 0, .int .u8 0, .int .u8 0, .int .u8 0, .int .u8 0, .int .u8 0, .int .u8 0])].map fun x : Nat × Value => some x.2 := by kernel_rfl
theorem Yio : ([(26, [(0, 1), (1, 1), (2, 1), (3, 1), (4, 1), (5, 1)]), (30, [(0, 1), (1, 1), (2, 1)]), (40, [(0, 1), (1, 1), (2, 1), (3, 1), (4, 1)]), (61, [(0, 1), (1, 1), (2, 1), (3, 1), (4, 1)]), (68, [(0, 1), (1, 1), (2, 1), (3, 1), (4, 1), (5, 1)]), (70, [(0, 6), (6, 1)]), (84, [(0, 1), (1, 1)]), (96, [(0, 1), (1, 1), (2, 1), (3, 1), (4, 1)]), (144, [(0, 1), (1, 1)]), (151, [(0, 6), (6, 3), (9, 6), (15, 1), (16, 1)]), (164, [(0, 1), (1, 3), (4, 1), (5, 1), (6, 2)]), (167, [(0, 1), (1, 1), (2, 5), (7, 1)]), (169, [(0, 1), (1, 1), (2, 1), (3, 1)]), (172, [(0, 1), (1, 1), (2, 1)]), (181, [(0, 1), (1, 1), (2, 1)]), (183, [(0, 1), (1, 1), (2, 1), (3, 1), (4, 1)]), (212, [(0, 1), (1, 1), (2, 1), (3, 1)]), (213, [(0, 4), (4, 4), (8, 4), (12, 4)]), (224, [(0, 1), (1, 1), (2, 1), (3, 1), (4, 1)]), (250, [(0, 1), (1, 1), (2, 1), (3, 1)]), (257, [(0, 1), (1, 1), (2, 1), (3, 1), (4, 1)]), (263, [(0, 1), (1, 1)]), (331, [(0, 1), (1, 1), (2, 1)]), (334, [(0, 1), (1, 1), (2, 1), (3, 1), (4, 1), (5, 1), (6, 1), (7, 1), (8, 1), (9, 1), (10, 1), (11, 1), (12, 1), (13, 1), (14, 1), (15, 1), (16, 1), (17, 1), (18, 1), (19, 1)]), (338, [(0, 1), (1, 1)]), (339, [(0, 2), (2, 2), (4, 2), (6, 2), (8, 2), (10, 2), (12, 2), (14, 2), (16, 2), (18, 2), (20, 2), (22, 2), (24, 2), (26, 2), (28, 2), (30, 2)]), (346, [(0, 1)]), (347, [(0, 1), (1, 1), (2, 1), (3, 1), (4, 1), (5, 1), (6, 1), (7, 1), (8, 1), (9, 1), (10, 1), (11, 1), (12, 1), (13, 1), (14, 1), (15, 1), (16, 1), (17, 1), (18, 1), (19, 1), (20, 1), (21, 1), (22, 1), (23, 1), (24, 1), (25, 1), (26, 1), (27, 1), (28, 1), (29, 1), (30, 1), (31, 1)]), (348, [(0, 1), (1, 1), (2, 1), (3, 1), (4, 1), (5, 1), (6, 1), (7, 1), (8, 1), (9, 1), (10, 1), (11, 1), (12, 1), (13, 1), (14, 1), (15, 1), (16, 1), (17, 1), (18, 1), (19, 1), (20, 1), (21, 1), (22, 1), (23, 1), (24, 1), (25, 1), (26, 1), (27, 1), (28, 1), (29, 1), (30, 1), (31, 1), (32, 1), (33, 1), (34, 1), (35, 1), (36, 1), (37, 1), (38, 1), (39, 1), (40, 1), (41, 1), (42, 1), (43, 1), (44, 1), (45, 1), (46, 1), (47, 1), (48, 1), (49, 1), (50, 1), (51, 1), (52, 1), (53, 1), (54, 1), (55, 1), (56, 1), (57, 1), (58, 1), (59, 1), (60, 1), (61, 1), (62, 1), (63, 1)])].map fun x : Nat × List (Nat × Nat) => QN Tryz.prog x.1) = [(26, [(0, 1), (1, 1), (2, 1), (3, 1), (4, 1), (5, 1)]), (30, [(0, 1), (1, 1), (2, 1)]), (40, [(0, 1), (1, 1), (2, 1), (3, 1), (4, 1)]), (61, [(0, 1), (1, 1), (2, 1), (3, 1), (4, 1)]), (68, [(0, 1), (1, 1), (2, 1), (3, 1), (4, 1), (5, 1)]), (70, [(0, 6), (6, 1)]), (84, [(0, 1), (1, 1)]), (96, [(0, 1), (1, 1), (2, 1), (3, 1), (4, 1)]), (144, [(0, 1), (1, 1)]), (151, [(0, 6), (6, 3), (9, 6), (15, 1), (16, 1)]), (164, [(0, 1), (1, 3), (4, 1), (5, 1), (6, 2)]), (167, [(0, 1), (1, 1), (2, 5), (7, 1)]), (169, [(0, 1), (1, 1), (2, 1), (3, 1)]), (172, [(0, 1), (1, 1), (2, 1)]), (181, [(0, 1), (1, 1), (2, 1)]), (183, [(0, 1), (1, 1), (2, 1), (3, 1), (4, 1)]), (212, [(0, 1), (1, 1), (2, 1), (3, 1)]), (213, [(0, 4), (4, 4), (8, 4), (12, 4)]), (224, [(0, 1), (1, 1), (2, 1), (3, 1), (4, 1)]), (250, [(0, 1), (1, 1), (2, 1), (3, 1)]), (257, [(0, 1), (1, 1), (2, 1), (3, 1), (4, 1)]), (263, [(0, 1), (1, 1)]), (331, [(0, 1), (1, 1), (2, 1)]), (334, [(0, 1), (1, 1), (2, 1), (3, 1), (4, 1), (5, 1), (6, 1), (7, 1), (8, 1), (9, 1), (10, 1), (11, 1), (12, 1), (13, 1), (14, 1), (15, 1), (16, 1), (17, 1), (18, 1), (19, 1)]), (338, [(0, 1), (1, 1)]), (339, [(0, 2), (2, 2), (4, 2), (6, 2), (8, 2), (10, 2), (12, 2), (14, 2), (16, 2), (18, 2), (20, 2), (22, 2), (24, 2), (26, 2), (28, 2), (30, 2)]), (346, [(0, 1)]), (347, [(0, 1), (1, 1), (2, 1), (3, 1), (4, 1), (5, 1), (6, 1), (7, 1), (8, 1), (9, 1), (10, 1), (11, 1), (12, 1), (13, 1), (14, 1), (15, 1), (16, 1), (17, 1), (18, 1), (19, 1), (20, 1), (21, 1), (22, 1), (23, 1), (24, 1), (25, 1), (26, 1), (27, 1), (28, 1), (29, 1), (30, 1), (31, 1)]), (348, [(0, 1), (1, 1), (2, 1), (3, 1), (4, 1), (5, 1), (6, 1), (7, 1), (8, 1), (9, 1), (10, 1), (11, 1), (12, 1), (13, 1), (14, 1), (15, 1), (16, 1), (17, 1), (18, 1), (19, 1), (20, 1), (21, 1), (22, 1), (23, 1), (24, 1), (25, 1), (26, 1), (27, 1), (28, 1), (29, 1), (30, 1), (31, 1), (32, 1), (33, 1), (34, 1), (35, 1), (36, 1), (37, 1), (38, 1), (39, 1), (40, 1), (41, 1), (42, 1), (43, 1), (44, 1), (45, 1), (46, 1), (47, 1), (48, 1), (49, 1), (50, 1), (51, 1), (52, 1), (53, 1), (54, 1), (55, 1), (56, 1), (57, 1), (58, 1), (59, 1), (60, 1), (61, 1), (62, 1), (63, 1)])].map fun x : Nat × List (Nat × Nat) => some x.2 := by kernel_rfl
def T2 : Tab2 Tryz.prog := ⟨_, _, Yiu, Yio⟩
theorem en13 (xs : Array Value) (w : World) : (callFunc 13 xs).run Tryz.prog w = .ok (.enter 13 xs) w := by kernel_rfl
theorem en17 (xs : Array Value) (w : World) : (callFunc 17 xs).run Tryz.prog w = .ok (.enter 17 xs) w := by kernel_rfl
theorem en19 (xs : Array Value) (w : World) : (callFunc 19 xs).run Tryz.prog w = .ok (.enter 19 xs) w := by kernel_rfl
theorem en21 (xs : Array Value) (w : World) : (callFunc 21 xs).run Tryz.prog w = .ok (.enter 21 xs) w := by kernel_rfl
theorem en22 (xs : Array Value) (w : World) : (callFunc 22 xs).run Tryz.prog w = .ok (.enter 22 xs) w := by kernel_rfl
theorem en23 (xs : Array Value) (w : World) : (callFunc 23 xs).run Tryz.prog w = .ok (.enter 23 xs) w := by kernel_rfl
theorem en25 (xs : Array Value) (w : World) : (callFunc 25 xs).run Tryz.prog w = .ok (.enter 25 xs) w := by kernel_rfl
theorem en26 (xs : Array Value) (w : World) : (callFunc 26 xs).run Tryz.prog w = .ok (.enter 26 xs) w := by kernel_rfl
theorem en27 (xs : Array Value) (w : World) : (callFunc 27 xs).run Tryz.prog w = .ok (.enter 27 xs) w := by kernel_rfl
theorem en28 (xs : Array Value) (w : World) : (callFunc 28 xs).run Tryz.prog w = .ok (.enter 28 xs) w := by kernel_rfl
theorem en33 (xs : Array Value) (w : World) : (callFunc 33 xs).run Tryz.prog w = .ok (.enter 33 xs) w := by kernel_rfl
theorem en34 (xs : Array Value) (w : World) : (callFunc 34 xs).run Tryz.prog w = .ok (.enter 34 xs) w := by kernel_rfl
theorem en37 (xs : Array Value) (w : World) : (callFunc 37 xs).run Tryz.prog w = .ok (.enter 37 xs) w := by kernel_rfl
theorem en45 (xs : Array Value) (w : World) : (callFunc 45 xs).run Tryz.prog w = .ok (.enter 45 xs) w := by kernel_rfl
theorem en47 (xs : Array Value) (w : World) : (callFunc 47 xs).run Tryz.prog w = .ok (.enter 47 xs) w := by kernel_rfl
theorem en50 (xs : Array Value) (w : World) : (callFunc 50 xs).run Tryz.prog w = .ok (.enter 50 xs) w := by kernel_rfl
theorem en51 (xs : Array Value) (w : World) : (callFunc 51 xs).run Tryz.prog w = .ok (.enter 51 xs) w := by kernel_rfl
theorem en52 (xs : Array Value) (w : World) : (callFunc 52 xs).run Tryz.prog w = .ok (.enter 52 xs) w := by kernel_rfl
theorem en53 (xs : Array Value) (w : World) : (callFunc 53 xs).run Tryz.prog w = .ok (.enter 53 xs) w := by kernel_rfl
theorem en54 (xs : Array Value) (w : World) : (callFunc 54 xs).run Tryz.prog w = .ok (.enter 54 xs) w := by kernel_rfl
theorem en55 (xs : Array Value) (w : World) : (callFunc 55 xs).run Tryz.prog w = .ok (.enter 55 xs) w := by kernel_rfl
theorem en56 (xs : Array Value) (w : World) : (callFunc 56 xs).run Tryz.prog w = .ok (.enter 56 xs) w := by kernel_rfl
theorem en57 (xs : Array Value) (w : World) : (callFunc 57 xs).run Tryz.prog w = .ok (.enter 57 xs) w := by kernel_rfl
theorem en58 (xs : Array Value) (w : World) : (callFunc 58 xs).run Tryz.prog w = .ok (.enter 58 xs) w := by kernel_rfl
theorem en59 (xs : Array Value) (w : World) : (callFunc 59 xs).run Tryz.prog w = .ok (.enter 59 xs) w := by kernel_rfl
theorem en62 (xs : Array Value) (w : World) : (callFunc 62 xs).run Tryz.prog w = .ok (.enter 62 xs) w := by kernel_rfl
theorem en64 (xs : Array Value) (w : World) : (callFunc 64 xs).run Tryz.prog w = .ok (.enter 64 xs) w := by kernel_rfl
theorem en65 (xs : Array Value) (w : World) : (callFunc 65 xs).run Tryz.prog w = .ok (.enter 65 xs) w := by kernel_rfl
theorem en67 (xs : Array Value) (w : World) : (callFunc 67 xs).run Tryz.prog w = .ok (.enter 67 xs) w := by kernel_rfl
theorem en68 (xs : Array Value) (w : World) : (callFunc 68 xs).run Tryz.prog w = .ok (.enter 68 xs) w := by kernel_rfl
theorem en69 (xs : Array Value) (w : World) : (callFunc 69 xs).run Tryz.prog w = .ok (.enter 69 xs) w := by kernel_rfl
theorem en73 (xs : Array Value) (w : World) : (callFunc 73 xs).run Tryz.prog w = .ok (.enter 73 xs) w := by kernel_rfl
theorem en74 (xs : Array Value) (w : World) : (callFunc 74 xs).run Tryz.prog w = .ok (.enter 74 xs) w := by kernel_rfl
theorem en75 (xs : Array Value) (w : World) : (callFunc 75 xs).run Tryz.prog w = .ok (.enter 75 xs) w := by kernel_rfl
theorem en76 (xs : Array Value) (w : World) : (callFunc 76 xs).run Tryz.prog w = .ok (.enter 76 xs) w := by kernel_rfl
theorem en77 (xs : Array Value) (w : World) : (callFunc 77 xs).run Tryz.prog w = .ok (.enter 77 xs) w := by kernel_rfl
theorem en78 (xs : Array Value) (w : World) : (callFunc 78 xs).run Tryz.prog w = .ok (.enter 78 xs) w := by kernel_rfl
theorem en79 (xs : Array Value) (w : World) : (callFunc 79 xs).run Tryz.prog w = .ok (.enter 79 xs) w := by kernel_rfl
theorem en80 (xs : Array Value) (w : World) : (callFunc 80 xs).run Tryz.prog w = .ok (.enter 80 xs) w := by kernel_rfl
theorem en81 (xs : Array Value) (w : World) : (callFunc 81 xs).run Tryz.prog w = .ok (.enter 81 xs) w := by kernel_rfl
theorem en82 (xs : Array Value) (w : World) : (callFunc 82 xs).run Tryz.prog w = .ok (.enter 82 xs) w := by kernel_rfl
theorem en83 (xs : Array Value) (w : World) : (callFunc 83 xs).run Tryz.prog w = .ok (.enter 83 xs) w := by kernel_rfl
theorem en84 (xs : Array Value) (w : World) : (callFunc 84 xs).run Tryz.prog w = .ok (.enter 84 xs) w := by kernel_rfl
theorem en85 (xs : Array Value) (w : World) : (callFunc 85 xs).run Tryz.prog w = .ok (.enter 85 xs) w := by kernel_rfl
theorem en86 (xs : Array Value) (w : World) : (callFunc 86 xs).run Tryz.prog w = .ok (.enter 86 xs) w := by kernel_rfl
theorem en87 (xs : Array Value) (w : World) : (callFunc 87 xs).run Tryz.prog w = .ok (.enter 87 xs) w := by kernel_rfl
theorem en90 (xs : Array Value) (w : World) : (callFunc 90 xs).run Tryz.prog w = .ok (.enter 90 xs) w := by kernel_rfl
theorem en91 (xs : Array Value) (w : World) : (callFunc 91 xs).run Tryz.prog w = .ok (.enter 91 xs) w := by kernel_rfl
theorem en95 (xs : Array Value) (w : World) : (callFunc 95 xs).run Tryz.prog w = .ok (.enter 95 xs) w := by kernel_rfl
theorem en98 (xs : Array Value) (w : World) : (callFunc 98 xs).run Tryz.prog w = .ok (.enter 98 xs) w := by kernel_rfl
theorem en99 (xs : Array Value) (w : World) : (callFunc 99 xs).run Tryz.prog w = .ok (.enter 99 xs) w := by kernel_rfl
theorem Yd3 (xs : Array Value) (w : World) : (callFunc 104 xs).run Tryz.prog w = .ok (.enter 104 xs) w := by kernel_rfl
theorem Yf9 (xs : Array Value) (w : World) : (callFunc 105 xs).run Tryz.prog w = .ok (.enter 105 xs) w := by kernel_rfl
theorem YhE (xs : Array Value) (w : World) : (callFunc 108 xs).run Tryz.prog w = .ok (.enter 108 xs) w := by kernel_rfl
theorem YhF (xs : Array Value) (w : World) : (callFunc 109 xs).run Tryz.prog w = .ok (.enter 109 xs) w := by kernel_rfl
theorem WK (xs : Array Value) (w : World) : (callFunc 110 xs).run Tryz.prog w = .ok (.enter 110 xs) w := by kernel_rfl
theorem Yd4 (xs : Array Value) (w : World) : (callFunc 111 xs).run Tryz.prog w = .ok (.enter 111 xs) w := by kernel_rfl
theorem Jq (xs : Array Value) (w : World) : (callFunc 112 xs).run Tryz.prog w = .ok (.enter 112 xs) w := by kernel_rfl
theorem Jr (xs : Array Value) (w : World) : (callFunc 113 xs).run Tryz.prog w = .ok (.enter 113 xs) w := by kernel_rfl
theorem WL (xs : Array Value) (w : World) : (callFunc 114 xs).run Tryz.prog w = .ok (.enter 114 xs) w := by kernel_rfl
theorem V9 (xs : Array Value) (w : World) : (callFunc 115 xs).run Tryz.prog w = .ok (.enter 115 xs) w := by kernel_rfl
theorem Ua (xs : Array Value) (w : World) : (callFunc 116 xs).run Tryz.prog w = .ok (.enter 116 xs) w := by kernel_rfl
theorem Yd5 (xs : Array Value) (w : World) : (callFunc 117 xs).run Tryz.prog w = .ok (.enter 117 xs) w := by kernel_rfl
theorem YhG (xs : Array Value) (w : World) : (callFunc 118 xs).run Tryz.prog w = .ok (.enter 118 xs) w := by kernel_rfl
theorem YhH (xs : Array Value) (w : World) : (callFunc 120 xs).run Tryz.prog w = .ok (.enter 120 xs) w := by kernel_rfl
theorem Yd6 (xs : Array Value) (w : World) : (callFunc 121 xs).run Tryz.prog w = .ok (.enter 121 xs) w := by kernel_rfl
theorem YiE (xs : Array Value) (w : World) : (callFunc 122 xs).run Tryz.prog w = .ok (.enter 122 xs) w := by kernel_rfl
theorem Xy (xs : Array Value) (w : World) : (callFunc 126 xs).run Tryz.prog w = .ok (.enter 126 xs) w := by kernel_rfl
theorem Ub (xs : Array Value) (w : World) : (callFunc 129 xs).run Tryz.prog w = .ok (.enter 129 xs) w := by kernel_rfl
theorem YhI (xs : Array Value) (w : World) : (callFunc 130 xs).run Tryz.prog w = .ok (.enter 130 xs) w := by kernel_rfl
theorem YhJ (xs : Array Value) (w : World) : (callFunc 131 xs).run Tryz.prog w = .ok (.enter 131 xs) w := by kernel_rfl
theorem Ve (xs : Array Value) (w : World) : (callFunc 132 xs).run Tryz.prog w = .ok (.enter 132 xs) w := by kernel_rfl
theorem WM (xs : Array Value) (w : World) : (callFunc 133 xs).run Tryz.prog w = .ok (.enter 133 xs) w := by kernel_rfl
theorem YhK (xs : Array Value) (w : World) : (callFunc 134 xs).run Tryz.prog w = .ok (.enter 134 xs) w := by kernel_rfl
theorem WN (xs : Array Value) (w : World) : (callFunc 135 xs).run Tryz.prog w = .ok (.enter 135 xs) w := by kernel_rfl
theorem YiF (xs : Array Value) (w : World) : (callFunc 136 xs).run Tryz.prog w = .ok (.enter 136 xs) w := by kernel_rfl
theorem Yas (xs : Array Value) (w : World) : (callFunc 137 xs).run Tryz.prog w = .ok (.enter 137 xs) w := by kernel_rfl
theorem ZH (xs : Array Value) (w : World) : (callFunc 138 xs).run Tryz.prog w = .ok (.enter 138 xs) w := by kernel_rfl
theorem WO (xs : Array Value) (w : World) : (callFunc 139 xs).run Tryz.prog w = .ok (.enter 139 xs) w := by kernel_rfl
theorem Yd7 (xs : Array Value) (w : World) : (callFunc 140 xs).run Tryz.prog w = .ok (.enter 140 xs) w := by kernel_rfl
theorem ZI (xs : Array Value) (w : World) : (callFunc 142 xs).run Tryz.prog w = .ok (.enter 142 xs) w := by kernel_rfl
theorem YiG (xs : Array Value) (w : World) : (callFunc 143 xs).run Tryz.prog w = .ok (.enter 143 xs) w := by kernel_rfl
theorem Yd8 (xs : Array Value) (w : World) : (callFunc 144 xs).run Tryz.prog w = .ok (.enter 144 xs) w := by kernel_rfl
theorem YiH (xs : Array Value) (w : World) : (callFunc 145 xs).run Tryz.prog w = .ok (.enter 145 xs) w := by kernel_rfl
theorem YhL (xs : Array Value) (w : World) : (callFunc 146 xs).run Tryz.prog w = .ok (.enter 146 xs) w := by kernel_rfl
theorem Yga (xs : Array Value) (w : World) : (callFunc 147 xs).run Tryz.prog w = .ok (.enter 147 xs) w := by kernel_rfl
theorem Yat (xs : Array Value) (w : World) : (callFunc 148 xs).run Tryz.prog w = .ok (.enter 148 xs) w := by kernel_rfl
theorem YhM (xs : Array Value) (w : World) : (callFunc 149 xs).run Tryz.prog w = .ok (.enter 149 xs) w := by kernel_rfl
theorem Yau (xs : Array Value) (w : World) : (callFunc 155 xs).run Tryz.prog w = .ok (.enter 155 xs) w := by kernel_rfl
theorem YhN (xs : Array Value) (w : World) : (callFunc 158 xs).run Tryz.prog w = .ok (.enter 158 xs) w := by kernel_rfl
theorem Ygb (xs : Array Value) (w : World) : (callFunc 159 xs).run Tryz.prog w = .ok (.enter 159 xs) w := by kernel_rfl
theorem Ygc (xs : Array Value) (w : World) : (callFunc 160 xs).run Tryz.prog w = .ok (.enter 160 xs) w := by kernel_rfl
theorem YiI (xs : Array Value) (w : World) : (callFunc 161 xs).run Tryz.prog w = .ok (.enter 161 xs) w := by kernel_rfl
theorem YiJ (xs : Array Value) (w : World) : (callFunc 162 xs).run Tryz.prog w = .ok (.enter 162 xs) w := by kernel_rfl
theorem YiK (xs : Array Value) (w : World) : (callFunc 163 xs).run Tryz.prog w = .ok (.enter 163 xs) w := by kernel_rfl
theorem Yd9 (xs : Array Value) (w : World) : (callFunc 164 xs).run Tryz.prog w = .ok (.enter 164 xs) w := by kernel_rfl
theorem Yea (xs : Array Value) (w : World) : (callFunc 165 xs).run Tryz.prog w = .ok (.enter 165 xs) w := by kernel_rfl
theorem Yav (xs : Array Value) (w : World) : (callFunc 166 xs).run Tryz.prog w = .ok (.enter 166 xs) w := by kernel_rfl
theorem YiL (xs : Array Value) (w : World) : (callFunc 167 xs).run Tryz.prog w = .ok (.enter 167 xs) w := by kernel_rfl
theorem Yeb (xs : Array Value) (w : World) : (callFunc 168 xs).run Tryz.prog w = .ok (.enter 168 xs) w := by kernel_rfl
theorem YhO (xs : Array Value) (w : World) : (callFunc 169 xs).run Tryz.prog w = .ok (.enter 169 xs) w := by kernel_rfl
theorem YiM (xs : Array Value) (w : World) : (callFunc 170 xs).run Tryz.prog w = .ok (.enter 170 xs) w := by kernel_rfl
theorem Yec (xs : Array Value) (w : World) : (callFunc 171 xs).run Tryz.prog w = .ok (.enter 171 xs) w := by kernel_rfl
theorem YiN (xs : Array Value) (w : World) : (callFunc 172 xs).run Tryz.prog w = .ok (.enter 172 xs) w := by kernel_rfl
theorem WP (xs : Array Value) (w : World) : (callFunc 173 xs).run Tryz.prog w = .ok (.enter 173 xs) w := by kernel_rfl
theorem YhP (xs : Array Value) (w : World) : (callFunc 174 xs).run Tryz.prog w = .ok (.enter 174 xs) w := by kernel_rfl
theorem YhQ (xs : Array Value) (w : World) : (callFunc 175 xs).run Tryz.prog w = .ok (.enter 175 xs) w := by kernel_rfl
theorem YhR (xs : Array Value) (w : World) : (callFunc 178 xs).run Tryz.prog w = .ok (.enter 178 xs) w := by kernel_rfl
theorem Xz (xs : Array Value) (w : World) : (callFunc 195 xs).run Tryz.prog w = .ok (.enter 195 xs) w := by kernel_rfl
theorem YiO (xs : Array Value) (w : World) : (callFunc 201 xs).run Tryz.prog w = .ok (.enter 201 xs) w := by kernel_rfl
theorem YiP (xs : Array Value) (w : World) : (callFunc 202 xs).run Tryz.prog w = .ok (.enter 202 xs) w := by kernel_rfl
theorem YiQ (xs : Array Value) (w : World) : (callFunc 203 xs).run Tryz.prog w = .ok (.enter 203 xs) w := by kernel_rfl
theorem Yed (xs : Array Value) (w : World) : (callFunc 204 xs).run Tryz.prog w = .ok (.enter 204 xs) w := by kernel_rfl
theorem Yee (xs : Array Value) (w : World) : (callFunc 205 xs).run Tryz.prog w = .ok (.enter 205 xs) w := by kernel_rfl
theorem YhS (xs : Array Value) (w : World) : (callFunc 206 xs).run Tryz.prog w = .ok (.enter 206 xs) w := by kernel_rfl
theorem YiR (xs : Array Value) (w : World) : (callFunc 207 xs).run Tryz.prog w = .ok (.enter 207 xs) w := by kernel_rfl
theorem Yef (xs : Array Value) (w : World) : (callFunc 208 xs).run Tryz.prog w = .ok (.enter 208 xs) w := by kernel_rfl
theorem YiS (xs : Array Value) (w : World) : (callFunc 214 xs).run Tryz.prog w = .ok (.enter 214 xs) w := by kernel_rfl
theorem YhT (xs : Array Value) (w : World) : (callFunc 227 xs).run Tryz.prog w = .ok (.enter 227 xs) w := by kernel_rfl
theorem YhU (xs : Array Value) (w : World) : (callFunc 228 xs).run Tryz.prog w = .ok (.enter 228 xs) w := by kernel_rfl
theorem Yaw (xs : Array Value) (w : World) : (callFunc 229 xs).run Tryz.prog w = .ok (.enter 229 xs) w := by kernel_rfl
theorem YiT (xs : Array Value) (w : World) : (callFunc 238 xs).run Tryz.prog w = .ok (.enter 238 xs) w := by kernel_rfl
theorem Yax (xs : Array Value) (w : World) : (callFunc 244 xs).run Tryz.prog w = .ok (.enter 244 xs) w := by kernel_rfl
theorem YiU (xs : Array Value) (w : World) : (callFunc 245 xs).run Tryz.prog w = .ok (.enter 245 xs) w := by kernel_rfl
theorem Yeg (xs : Array Value) (w : World) : (callFunc 246 xs).run Tryz.prog w = .ok (.enter 246 xs) w := by kernel_rfl
theorem YiV (xs : Array Value) (w : World) : (callFunc 247 xs).run Tryz.prog w = .ok (.enter 247 xs) w := by kernel_rfl
theorem YhV (xs : Array Value) (w : World) : (callFunc 248 xs).run Tryz.prog w = .ok (.enter 248 xs) w := by kernel_rfl
theorem YiW (xs : Array Value) (w : World) : (callFunc 249 xs).run Tryz.prog w = .ok (.enter 249 xs) w := by kernel_rfl
theorem YhW (xs : Array Value) (w : World) : (callFunc 284 xs).run Tryz.prog w = .ok (.enter 284 xs) w := by kernel_rfl
theorem YhX (xs : Array Value) (w : World) : (callFunc 285 xs).run Tryz.prog w = .ok (.enter 285 xs) w := by kernel_rfl
theorem YiX (xs : Array Value) (w : World) : (callFunc 286 xs).run Tryz.prog w = .ok (.enter 286 xs) w := by kernel_rfl
theorem YiY (xs : Array Value) (w : World) : (callFunc 287 xs).run Tryz.prog w = .ok (.enter 287 xs) w := by kernel_rfl
theorem z3 (w : World) : (zeroValue 3).run Tryz.prog w = .ok (.int .i64 0) w := by kernel_rfl
theorem z4 (w : World) : (zeroValue 4).run Tryz.prog w = .ok (.bool false) w := by kernel_rfl
theorem z70 (w : World) : (zeroValue 70).run Tryz.prog w = .ok (.agg #[.int .i64 0, .int .i64 0, .int .i64 0, .int .i64 0, .int .i64 0, .int .i64 0, .slice none 0 0]) w := by kernel_rfl
theorem z72 (w : World) : (zeroValue 72).run Tryz.prog w = .ok (.slice none 0 0) w := by kernel_rfl
theorem z167 (w : World) : (zeroValue 167).run Tryz.prog w = .ok (.agg #[.int .i64 0, .int .i64 0, .int .i64 0, .int .i64 0, .int .i64 0, .int .i64 0, .int .i64 0, .int .i64 0]) w := by kernel_rfl
theorem z212 (w : World) : (zeroValue 212).run Tryz.prog w = .ok (.agg #[.string ⟨#[]⟩, .int .i64 0, .int .i64 0, .int .i64 0]) w := by kernel_rfl
theorem z213 (w : World) : (zeroValue 213).run Tryz.prog w = .ok (.agg #[.string ⟨#[]⟩, .int .i64 0, .int .i64 0, .int .i64 0, .string ⟨#[]⟩, .int .i64 0, .int .i64 0, .int .i64 0, .string ⟨#[]⟩, .int .i64 0, .int .i64 0, .int .i64 0, .string ⟨#[]⟩, .int .i64 0, .int .i64 0, .int .i64 0]) w := by kernel_rfl
end Go.Proofs.YtmalhidldgfeoaaGreatDoor
namespace Go.Eng
open Go.RowKit
section
variable {P : Program} {m : Mode} {n : Shp} {B : Nat} {w0 : World} {ops : Array Oper} {Q : Exit → Act → World → Prop} {rest : List Oper} {env : Env} {H : List HP} {d : Nat} {ty : TypeId} {pos : String} {after : Array Edge} {x y : Operand} {k : IntKind} {a b : Int}
theorem YbS (T : Tab P) {src dst : TypeId} {j : IntKind} (hx : evo env x = some (.int k a)) (hs : look T.ik src = some j) (ht : look T.ik dst = some .u64) (hn : Nat.ble (d + 1) n.k = true) (hb : 0 ≤ a ∧ a ≤ 18446744073709551615)
    (h : VL P m n B w0 ops Q rest ((d, .int .u64 a) :: env) H) : VL P m n B w0 ops Q (⟨some d, .convert src dst x, ty, pos, after, none⟩ :: rest) env H :=
  On T hx hs ht hn (by rw [IntWalk.u64_in _ hb]; exact h)
theorem XJ {f : Nat} {args : List Operand} {tys : Array TypeId} {vs : List Value} {b : Bool}
    (hc : ∀ xs w, (callFunc f xs).run P w = .ok (.enter f xs) w) (hargs : Args env args vs) (hn : Nat.ble (d + 1) n.k = true)
    (hcall : ∀ w, St B w0 H w → Calls P f vs.toArray w (Post B w0 fun u K => u = .bool b ∧ K = H))
    (h1 : b = true → VL P none n B w0 ops Q rest ((d, .bool true) :: env) H) (h2 : b = false → VL P none n B w0 ops Q rest ((d, .bool false) :: env) H) :
    VL P none n B w0 ops Q (⟨some d, .call ⟨.value (.func f), args.toArray, tys⟩, ty, pos, after, none⟩ :: rest) env H := by
  cases b
  · exact Ya hc hargs hn hcall (h2 rfl)
  · exact Ya hc hargs hn hcall (h1 rfl)
theorem XI {f : Nat} {args : List Operand} {tys : Array TypeId} {vs : List Value} {b : Bool}
    (hc : ∀ xs w, (callFunc f xs).run P w = .ok (.enter f xs) w) (hargs : Args env args vs) (hn : Nat.ble (d + 1) n.k = true)
    (hcall : ∀ w, St B w0 H w → Calls P f vs.toArray w (Post B w0 fun u K => u = .bool b ∧ K = H))
    (h1 : b = true → VL P (some none) n B w0 ops Q rest ((d, .bool true) :: env) H) (h2 : b = false → VL P (some none) n B w0 ops Q rest ((d, .bool false) :: env) H) :
    VL P (some none) n B w0 ops Q (⟨some d, .call ⟨.value (.func f), args.toArray, tys⟩, ty, pos, after, none⟩ :: rest) env H := by
  cases b
  · exact Yb hc hargs hn hcall (h2 rfl)
  · exact Yb hc hargs hn hcall (h1 rfl)
theorem Z0 {f : Nat} {x : Operand} {args : List Operand} {tys : Array TypeId} {vs cs : List Value} {b : Bool} (hx : evo env x = some (.func (.func f) #[] cs.toArray))
    (hc : ∀ xs w, (callFunc f xs).run P w = .ok (.enter f xs) w) (hargs : Args env args vs) (hn : Nat.ble (d + 1) n.k = true)
    (hcall : ∀ w, St B w0 H w → Calls P f (vs ++ cs).toArray w (Post B w0 fun u K => u = .bool b ∧ K = H))
    (h1 : b = true → VL P none n B w0 ops Q rest ((d, .bool true) :: env) H) (h2 : b = false → VL P none n B w0 ops Q rest ((d, .bool false) :: env) H) :
    VL P none n B w0 ops Q (⟨some d, .call ⟨.value x, args.toArray, tys⟩, ty, pos, after, none⟩ :: rest) env H := by
  cases b
  · exact YG hx hc hargs hn hcall (h2 rfl)
  · exact YG hx hc hargs hn hcall (h1 rfl)
theorem ZZ {f : Nat} {x : Operand} {args : List Operand} {tys : Array TypeId} {vs cs : List Value} {b : Bool} (hx : evo env x = some (.func (.func f) #[] cs.toArray))
    (hc : ∀ xs w, (callFunc f xs).run P w = .ok (.enter f xs) w) (hargs : Args env args vs) (hn : Nat.ble (d + 1) n.k = true)
    (hcall : ∀ w, St B w0 H w → Calls P f (vs ++ cs).toArray w (Post B w0 fun u K => u = .bool b ∧ K = H))
    (h1 : b = true → VL P (some none) n B w0 ops Q rest ((d, .bool true) :: env) H) (h2 : b = false → VL P (some none) n B w0 ops Q rest ((d, .bool false) :: env) H) :
    VL P (some none) n B w0 ops Q (⟨some d, .call ⟨.value x, args.toArray, tys⟩, ty, pos, after, none⟩ :: rest) env H := by
  cases b
  · exact Y9 hx hc hargs hn hcall (h2 rfl)
  · exact Y9 hx hc hargs hn hcall (h1 rfl)
theorem St.blk_sl {w : World} {g e size len : Nat} {cs : List Value} (h : St B w0 (Eng.blk g (.cells cs.toArray e (0, 0)) :: H) w) (hk : cs.length = len * size) (hl : len ≤ 1000000) : St B w0 (Eng.sl e size (some ⟨g, 0, none⟩) len len cs :: H) w := by
  refine h.upd (Upd.here _) rfl rfl rfl (Nat.le_refl _) fun S1 ⟨h1, h2⟩ => ⟨⟨⟨hk, .inr ⟨g, len, cs.toArray, rfl, Nat.zero_le _, h2, Nat.le_refl _, ?_, by simpa using hk, ?_⟩⟩, fun a ha => by cases ha; exact h1⟩, fun _ _ _ => rfl⟩
  · simp only [maxLen]; omega
  · rw [List.take_of_length_le (by simp [hk])]
end
open Go.RowKit Go.Proofs Go.Proofs.YtmalhidldgfeoaaGreatDoor
section
variable {m : Mode} {n : Shp} {B : Nat} {w0 : World} {ops : Array Oper} {Q : Exit → Act → World → Prop} {rest : List Oper} {env : Env} {H : List HP} {d : Nat} {ty : TypeId} {pos : String} {after : Array Edge} {xt yt : TypeId} {x y : Operand} {k : IntKind} {a b : Int} {s t : ByteArray}
theorem zs1 {x : Operand} {v : Value} (h : VL Tryz.prog m n B w0 ops Q rest ((d, v) :: env) H) (hx : evo env x = some v := by exact rfl) (hn : Nat.ble (d + 1) n.k = true := by exact rfl) : VL Tryz.prog m n B w0 ops Q (⟨some d, .move x, ty, pos, after, none⟩ :: rest) env H := Yg5 hx hn h
theorem zs2 {x : Operand} {v : Value} (h : VL Tryz.prog m n B w0 ops Q rest ((d, v) :: env) H) (hx : evo env x = some v := by exact rfl) (hn : Nat.ble (d + 1) n.k = true := by exact rfl) : VL Tryz.prog m n B w0 ops Q (⟨some d, .assign x, ty, pos, after, none⟩ :: rest) env H := Yew hx hn h
theorem zs3 {m : Mode} {d : Nat} {op : Op} {ty : TypeId} {pos : String} {after : Array Edge} {j s : Nat} {b : Bool} {v : Value} {oj : Oper} (h : VL Tryz.prog m n B w0 ops Q rest ((d, undef) :: env) H) (hj : ops[j]? = some oj := by exact rfl) (hs : oj.dst = some s := by exact rfl) (hv : get env s = some v := by exact rfl) (hne : notB v b = true := by exact rfl) (hn : Nat.ble (d + 1) n.k = true := by exact rfl) : VL Tryz.prog m n B w0 ops Q (⟨some d, op, ty, pos, after, some (j, b)⟩ :: rest) env H := YbU hj hs hv hne hn h
theorem zs4 {m : Mode} {dst : Option Tmp} {op : Op} {ty : TypeId} {pos : String} {after : Array Edge} {j s : Nat} {b : Bool} {oj : Oper} (h : VL Tryz.prog m n B w0 ops Q (⟨dst, op, ty, pos, after, none⟩ :: rest) env H) (hj : ops[j]? = some oj := by exact rfl) (hs : oj.dst = some s := by exact rfl) (hv : get env s = some (.bool b) := by exact rfl) : VL Tryz.prog m n B w0 ops Q (⟨dst, op, ty, pos, after, some (j, b)⟩ :: rest) env H := Ya7 hj hs hv h
theorem zs5 {x : Operand} {p : Addr} (h : VL Tryz.prog m n B w0 ops Q rest ((d, .pointer (some p)) :: env) H) (hx : evo env x = some (.pointer (some p)) := by exact rfl) (hn : Nat.ble (d + 1) n.k = true := by exact rfl) : VL Tryz.prog m n B w0 ops Q (⟨some d, .nilCheck x, ty, pos, after, none⟩ :: rest) env H := WA hx hn h
theorem zs6 {s f k g i : Nat} {x : Operand} (h : VL Tryz.prog m n B w0 ops Q rest ((d, .pointer (some ⟨g, i + k, none⟩)) :: env) H) (hx : evo env x = some (.pointer (some ⟨g, i, none⟩)) := by exact rfl) (hf : Vz T.fo s f = some k := by exact rfl) (hn : Nat.ble (d + 1) n.k = true := by exact rfl) : VL Tryz.prog m n B w0 ops Q (⟨some d, .fieldAddr s x f, ty, pos, after, none⟩ :: rest) env H := Ya5 T hx hf hn h
theorem zs7 {t g i : Nat} {cs : Array Value} {tt : TypeId} {fr : Nat × Nat} {v : Value} {x : Operand} (h : VL Tryz.prog m n B w0 ops Q rest ((d, v) :: env) H) (hx : evo env x = some (.pointer (some ⟨g, i, none⟩)) := by exact rfl) (hm : blk g (.cells cs tt fr) ∈ H := by (exact zm; done)) (hv : nth cs.toList i = some v := by exact rfl) (ht : look T.sc t = some () := by exact rfl) (hn : Nat.ble (d + 1) n.k = true := by exact rfl) : VL Tryz.prog m n B w0 ops Q (⟨some d, .load t x, ty, pos, after, none⟩ :: rest) env H := Yg2 T hx hm hv ht hn h
theorem zs8 {t g k : Nat} {cs : Array Value} {tt : TypeId} {fr : Nat × Nat} {x : Operand} (h : VL Tryz.prog m n B w0 ops Q rest ((d, .agg cs) :: env) H) (hx : evo env x = some (.pointer (some ⟨g, 0, none⟩)) := by exact rfl) (hm : blk g (.cells cs tt fr) ∈ H := by (exact zm; done)) (ht : look T.ag t = some k := by exact rfl) (hk : cs.size = k := by exact rfl) (hn : Nat.ble (d + 1) n.k = true := by exact rfl) : VL Tryz.prog m n B w0 ops Q (⟨some d, .load t x, ty, pos, after, none⟩ :: rest) env H := QW T hx hm ht hk hn h
theorem zs9 {tx : Nat} {x : Operand} {A : Option Addr} {k cap : Nat} {es : Nat × Nat × Nat} (h : VL Tryz.prog m n B w0 ops Q rest ((d, .int .i64 k) :: env) H) (hx : evo env x = some (.slice A k cap) := by exact rfl) (ht : look T.sl tx = some es := by exact rfl) (hn : Nat.ble (d + 1) n.k = true := by exact rfl) : VL Tryz.prog m n B w0 ops Q (⟨some d, .call ⟨.builtin .len, #[x], #[tx]⟩, ty, pos, after, none⟩ :: rest) env H := Yh5 T hx ht hn h
theorem zs10 {t : Nat} {x y : Operand} {A : Option Addr} {k cap : Nat} {xs : List Value} {e size bytes : Nat} {ki : IntKind} {i : Int} (h : VL Tryz.prog m n B w0 ops Q rest ((d, sptr A (i.toNat * size)) :: env) H) (hx : evo env x = some (.slice A k cap) := by exact rfl) (hm : sl e size A k cap xs ∈ H := by (exact zm; done)) (hy : evo env y = some (.int ki i) := by exact rfl) (ht : look T.sl t = some (e, size, bytes) := by exact rfl) (hn : Nat.ble (d + 1) n.k = true := by exact rfl) (hi : 0 ≤ i ∧ i < k := by omega) : VL Tryz.prog m n B w0 ops Q (⟨some d, .indexAddr t x y, ty, pos, after, none⟩ :: rest) env H := YbW T hx hm hy ht hn hi h
theorem zs11 {c x y : Operand} {v : Value} (h : VL Tryz.prog m n B w0 ops Q rest ((d, v) :: env) H) (hc : evo env c = some (.bool true) := by exact rfl) (hx : evo env x = some v := by exact rfl) (hn : Nat.ble (d + 1) n.k = true := by exact rfl) : VL Tryz.prog m n B w0 ops Q (⟨some d, .pick c x y, ty, pos, after, none⟩ :: rest) env H := Yba hc hx hn h
theorem zs12 {c x y : Operand} {v : Value} (h : VL Tryz.prog m n B w0 ops Q rest ((d, v) :: env) H) (hc : evo env c = some (.bool false) := by exact rfl) (hx : evo env y = some v := by exact rfl) (hn : Nat.ble (d + 1) n.k = true := by exact rfl) : VL Tryz.prog m n B w0 ops Q (⟨some d, .pick c x y, ty, pos, after, none⟩ :: rest) env H := QX hc hx hn h
theorem zs13 {x : Operand} {i : Nat} {vs : Array Value} {v : Value} (h : VL Tryz.prog m n B w0 ops Q rest ((d, v) :: env) H) (hx : evo env x = some (.tuple vs) := by exact rfl) (hv : nth vs.toList i = some v := by exact rfl) (hn : Nat.ble (d + 1) n.k = true := by exact rfl) : VL Tryz.prog m n B w0 ops Q (⟨some d, .extract x i, ty, pos, after, none⟩ :: rest) env H := Ydh hx hv hn h
theorem zs14 {tx : TypeId} (h : VL Tryz.prog m n B w0 ops Q rest ((d, .int .i64 s.size) :: env) H) (hx : evo env x = some (.string s) := by exact rfl) (ht : look T.st tx = some () := by exact rfl) (hn : Nat.ble (d + 1) n.k = true := by exact rfl) : VL Tryz.prog m n B w0 ops Q (⟨some d, .call ⟨.builtin .len, #[x], #[tx]⟩, ty, pos, after, none⟩ :: rest) env H := Yg8 T hx ht hn h
theorem zs15  (h1 : a = b → VL Tryz.prog m n B w0 ops Q rest ((d, .bool true) :: env) H) (h2 : a ≠ b → VL Tryz.prog m n B w0 ops Q rest ((d, .bool false) :: env) H) (hx : evo env x = some (.int k a) := by exact rfl) (hy : evo env y = some (.int k b) := by exact rfl) (hn : Nat.ble (d + 1) n.k = true := by exact rfl) : VL Tryz.prog m n B w0 ops Q (⟨some d, .binOp .eql xt x y yt, ty, pos, after, none⟩ :: rest) env H := Yh2 hx hy hn h1 h2
theorem zs16  (h1 : a ≠ b → VL Tryz.prog m n B w0 ops Q rest ((d, .bool true) :: env) H) (h2 : a = b → VL Tryz.prog m n B w0 ops Q rest ((d, .bool false) :: env) H) (hx : evo env x = some (.int k a) := by exact rfl) (hy : evo env y = some (.int k b) := by exact rfl) (hn : Nat.ble (d + 1) n.k = true := by exact rfl) : VL Tryz.prog m n B w0 ops Q (⟨some d, .binOp .neq xt x y yt, ty, pos, after, none⟩ :: rest) env H := Yia hx hy hn h1 h2
theorem zs17  (h1 : a < b → VL Tryz.prog m n B w0 ops Q rest ((d, .bool true) :: env) H) (h2 : b ≤ a → VL Tryz.prog m n B w0 ops Q rest ((d, .bool false) :: env) H) (hx : evo env x = some (.int k a) := by exact rfl) (hy : evo env y = some (.int k b) := by exact rfl) (hn : Nat.ble (d + 1) n.k = true := by exact rfl) : VL Tryz.prog m n B w0 ops Q (⟨some d, .binOp .lss xt x y yt, ty, pos, after, none⟩ :: rest) env H := Yh7 hx hy hn h1 h2
theorem zs18  (h1 : a ≤ b → VL Tryz.prog m n B w0 ops Q rest ((d, .bool true) :: env) H) (h2 : b < a → VL Tryz.prog m n B w0 ops Q rest ((d, .bool false) :: env) H) (hx : evo env x = some (.int k a) := by exact rfl) (hy : evo env y = some (.int k b) := by exact rfl) (hn : Nat.ble (d + 1) n.k = true := by exact rfl) : VL Tryz.prog m n B w0 ops Q (⟨some d, .binOp .leq xt x y yt, ty, pos, after, none⟩ :: rest) env H := Yh6 hx hy hn h1 h2
theorem zs19  (h1 : b < a → VL Tryz.prog m n B w0 ops Q rest ((d, .bool true) :: env) H) (h2 : a ≤ b → VL Tryz.prog m n B w0 ops Q rest ((d, .bool false) :: env) H) (hx : evo env x = some (.int k a) := by exact rfl) (hy : evo env y = some (.int k b) := by exact rfl) (hn : Nat.ble (d + 1) n.k = true := by exact rfl) : VL Tryz.prog m n B w0 ops Q (⟨some d, .binOp .gtr xt x y yt, ty, pos, after, none⟩ :: rest) env H := Yh4 hx hy hn h1 h2
theorem zs20  (h1 : b ≤ a → VL Tryz.prog m n B w0 ops Q rest ((d, .bool true) :: env) H) (h2 : a < b → VL Tryz.prog m n B w0 ops Q rest ((d, .bool false) :: env) H) (hx : evo env x = some (.int k a) := by exact rfl) (hy : evo env y = some (.int k b) := by exact rfl) (hn : Nat.ble (d + 1) n.k = true := by exact rfl) : VL Tryz.prog m n B w0 ops Q (⟨some d, .binOp .geq xt x y yt, ty, pos, after, none⟩ :: rest) env H := Yh3 hx hy hn h1 h2
theorem zs25 {x y : Operand} {k : IntKind} {a b : Int} {tys : Array TypeId} (h1 : b < a → VL Tryz.prog m n B w0 ops Q rest ((d, .int k b) :: env) H) (h2 : a ≤ b → VL Tryz.prog m n B w0 ops Q rest ((d, .int k a) :: env) H) (hx : evo env x = some (.int k a) := by exact rfl) (hy : evo env y = some (.int k b) := by exact rfl) (hn : Nat.ble (d + 1) n.k = true := by exact rfl) : VL Tryz.prog m n B w0 ops Q (⟨some d, .call ⟨.builtin .min, #[x, y], tys⟩, ty, pos, after, none⟩ :: rest) env H := Yg4 hx hy hn h1 h2
theorem zs30  (h : VL Tryz.prog m n B w0 ops Q rest ((d, .int .i64 (a + b)) :: env) H) (hx : evo env x = some (.int .i64 a) := by exact rfl) (hy : evo env y = some (.int .i64 b) := by exact rfl) (hn : Nat.ble (d + 1) n.k = true := by exact rfl) (hb : -9223372036854775808 ≤ a + b ∧ a + b ≤ 9223372036854775807 := by omega) : VL Tryz.prog m n B w0 ops Q (⟨some d, .binOp .add xt x y yt, ty, pos, after, none⟩ :: rest) env H := Yh1 hx hy hn hb h
theorem zs31  (h : VL Tryz.prog m n B w0 ops Q rest ((d, .int .i64 (a - b)) :: env) H) (hx : evo env x = some (.int .i64 a) := by exact rfl) (hy : evo env y = some (.int .i64 b) := by exact rfl) (hn : Nat.ble (d + 1) n.k = true := by exact rfl) (hb : -9223372036854775808 ≤ a - b ∧ a - b ≤ 9223372036854775807 := by omega) : VL Tryz.prog m n B w0 ops Q (⟨some d, .binOp .sub xt x y yt, ty, pos, after, none⟩ :: rest) env H := Yif hx hy hn hb h
theorem zs32  (h : VL Tryz.prog m n B w0 ops Q rest ((d, .int .i64 (a * b)) :: env) H) (hx : evo env x = some (.int .i64 a) := by exact rfl) (hy : evo env y = some (.int .i64 b) := by exact rfl) (hn : Nat.ble (d + 1) n.k = true := by exact rfl) (hb : -9223372036854775808 ≤ a * b ∧ a * b ≤ 9223372036854775807 := by first | exact Ygp (by omega) (by omega) (by omega) (by omega) | exact Yhn (by omega) (by omega) (by omega) (by omega) | omega) : VL Tryz.prog m n B w0 ops Q (⟨some d, .binOp .mul xt x y yt, ty, pos, after, none⟩ :: rest) env H := Yh9 hx hy hn hb h
theorem zs36  (h : VL Tryz.prog m n B w0 ops Q rest ((d, .int .i64 (a / b)) :: env) H) (hx : evo env x = some (.int .i64 a) := by exact rfl) (hy : evo env y = some (.int .i64 b) := by exact rfl) (hn : Nat.ble (d + 1) n.k = true := by exact rfl) (hb : 0 ≤ a ∧ a ≤ 9223372036854775807 ∧ 1 ≤ b := by omega) : VL Tryz.prog m n B w0 ops Q (⟨some d, .binOp .quo xt x y yt, ty, pos, after, none⟩ :: rest) env H := Yic hx hy hn hb h
theorem zs37  (h : VL Tryz.prog m n B w0 ops Q rest ((d, .int k (a % b)) :: env) H) (hx : evo env x = some (.int k a) := by exact rfl) (hy : evo env y = some (.int k b) := by exact rfl) (hn : Nat.ble (d + 1) n.k = true := by exact rfl) (hb : 0 ≤ a ∧ 1 ≤ b := by omega) : VL Tryz.prog m n B w0 ops Q (⟨some d, .binOp .rem xt x y yt, ty, pos, after, none⟩ :: rest) env H := Yid hx hy hn hb h
theorem zs38 {yk : IntKind} {D : Int} (h : VL Tryz.prog m n B w0 ops Q rest ((d, .int k (a / D)) :: env) H) (hx : evo env x = some (.int k a) := by exact rfl) (hn : Nat.ble (d + 1) n.k = true := by exact rfl) (hb : 0 ≤ b ∧ b ≤ k.bits := by (simp only [IntKind.bits]; omega)) (hD : (2 : Int) ^ b.toNat = D := by (simp only [Int.reduceToNat, Int.reducePow]; rfl)) : VL Tryz.prog m n B w0 ops Q (⟨some d, .binOp .shr xt x (.const (.int yk b)) yt, ty, pos, after, none⟩ :: rest) env H := YfQ hx hn hb hD h
theorem zs44 {src dst : TypeId} {j : IntKind} (h : VL Tryz.prog m n B w0 ops Q rest ((d, .int .i64 a) :: env) H) (hx : evo env x = some (.int k a) := by exact rfl) (hs : look T.ik src = some j := by exact rfl) (ht : look T.ik dst = some .i64 := by exact rfl) (hn : Nat.ble (d + 1) n.k = true := by exact rfl) (hb : -9223372036854775808 ≤ a ∧ a ≤ 9223372036854775807 := by omega) : VL Tryz.prog m n B w0 ops Q (⟨some d, .convert src dst x, ty, pos, after, none⟩ :: rest) env H := Ydg T hx hs ht hn hb h
theorem zs45 {src dst : TypeId} {j : IntKind} (h : VL Tryz.prog m n B w0 ops Q rest ((d, .int .u64 a) :: env) H) (hx : evo env x = some (.int k a) := by exact rfl) (hs : look T.ik src = some j := by exact rfl) (ht : look T.ik dst = some .u64 := by exact rfl) (hn : Nat.ble (d + 1) n.k = true := by exact rfl) (hb : 0 ≤ a ∧ a ≤ 18446744073709551615 := by omega) : VL Tryz.prog m n B w0 ops Q (⟨some d, .convert src dst x, ty, pos, after, none⟩ :: rest) env H := YbS T hx hs ht hn hb h
theorem zs46 {src dst : TypeId} {j : IntKind} {kd : IntKind} (h : VL Tryz.prog m n B w0 ops Q rest ((d, .int kd (kd.wrap a)) :: env) H) (hx : evo env x = some (.int k a) := by exact rfl) (hs : look T.ik src = some j := by exact rfl) (ht : look T.ik dst = some kd := by exact rfl) (hn : Nat.ble (d + 1) n.k = true := by exact rfl) : VL Tryz.prog m n B w0 ops Q (⟨some d, .convert src dst x, ty, pos, after, none⟩ :: rest) env H := On T hx hs ht hn h
theorem zs47 {x : Operand} {xt : TypeId} (h : VL Tryz.prog m n B w0 ops Q rest ((d, .bool false) :: env) H) (hx : evo env x = some (.bool true) := by exact rfl) (hn : Nat.ble (d + 1) n.k = true := by exact rfl) : VL Tryz.prog m n B w0 ops Q (⟨some d, .unOp .not xt x, ty, pos, after, none⟩ :: rest) env H := YbZ hx hn h
theorem zs48 {x : Operand} {xt : TypeId} (h : VL Tryz.prog m n B w0 ops Q rest ((d, .bool true) :: env) H) (hx : evo env x = some (.bool false) := by exact rfl) (hn : Nat.ble (d + 1) n.k = true := by exact rfl) : VL Tryz.prog m n B w0 ops Q (⟨some d, .unOp .not xt x, ty, pos, after, none⟩ :: rest) env H := Ya9 hx hn h
theorem zs49 {t tt : Nat} {x y : Operand} {A : Option Addr} {k cap : Nat} {xs : List Value} {g mm c : Nat} {cs : Array Value} {fr : Nat × Nat} {e size bytes : Nat} {K : Option Addr → Nat → List HP} (h : ∀ A' cap', VL Tryz.prog none n B w0 ops Q rest ((d, .slice A' (k + mm) cap') :: env) (K A' cap')) (hx : evo env x = some (.slice A k cap) := by exact rfl) (ht : look T.sl t = some (e, size, bytes) := by exact rfl) (hy : evo env y = some (.slice (some ⟨g, 0, none⟩) mm c) := by exact rfl) (hb : blk g (.cells cs tt fr) ∈ H := by (exact zm; done)) (hk : cs.size = mm * size := by exact rfl) (h1 : Z3 cs.toList = true := by exact rfl) (hn : Nat.ble (d + 1) n.k = true := by exact rfl) (hu : ∀ A' cap', Upd (sl e size A k cap xs) (sl e size A' (k + mm) cap' (xs ++ cs.toList)) H (K A' cap') := by ((intro _ _; exact zd); done)) (hby : (k + mm) * bytes ≤ 140737488355328 := by omega) : VL Tryz.prog none n B w0 ops Q (⟨some d, .call ⟨.builtin .append, #[x, y], #[t, t]⟩, ty, pos, after, none⟩ :: rest) env H := Yev T hx ht hy hb hk h1 hn hu hby h
theorem zs50 {t g i : Nat} {cs cs' : List Value} {tt : TypeId} {v : Value} {x y : Operand} {K : List HP} (h : VL Tryz.prog none n B w0 ops Q rest env K) (hx : evo env x = some (.pointer (some ⟨g, i, none⟩)) := by exact rfl) (hy : evo env y = some v := by exact rfl) (h1 : v.oneCell' = true := by exact rfl) (hu : Upd (blk g (.cells cs.toArray tt (0, 0))) (blk g (.cells cs'.toArray tt (0, 0))) H K := by (exact zd; done)) (hs : Yak cs i v cs' := by (exact zt ; done)) (ht : look T.sc t = some () := by exact rfl) : VL Tryz.prog none n B w0 ops Q (⟨none, .store t x y, ty, pos, after, none⟩ :: rest) env H := YfR T hx hy h1 hu hs ht h
theorem zs51 {t g i k : Nat} {cs vs cs' : List Value} {tt : TypeId} {x y : Operand} {K : List HP} (h : VL Tryz.prog none n B w0 ops Q rest env K) (hx : evo env x = some (.pointer (some ⟨g, i, none⟩)) := by exact rfl) (hy : evo env y = some (.agg vs.toArray) := by exact rfl) (h1 : Z3 vs = true := by exact rfl) (hu : Upd (blk g (.cells cs.toArray tt (0, 0))) (blk g (.cells cs'.toArray tt (0, 0))) H K := by (exact zd; done)) (hs : PutAt cs i vs cs' := by ((repeat (first | exact PutAt.nil | (apply PutAt.cons; exact zt ))) ; done)) (ht : look T.ag t = some k := by exact rfl) (hk : vs.length = k := by exact rfl) : VL Tryz.prog none n B w0 ops Q (⟨none, .store t x y, ty, pos, after, none⟩ :: rest) env H := Ybb T hx hy h1 hu hs ht hk h
theorem zs52 {t : TypeId} {x : Operand} {cs : Array Value} (h : ∀ g, VL Tryz.prog none n B w0 ops Q rest ((d, .pointer (some ⟨g, 0, none⟩)) :: env) (blk g (.cells cs t (0, 0)) :: H)) (hx : evo env x = some (.agg cs) := by exact rfl) (hn : Nat.ble (d + 1) n.k = true := by exact rfl) : VL Tryz.prog none n B w0 ops Q (⟨some d, .box t x, ty, pos, after, none⟩ :: rest) env H := Zi hx hn h
theorem zs53 {t : TypeId} {x : Operand} {v : Value} (h : ∀ g, VL Tryz.prog none n B w0 ops Q rest ((d, .pointer (some ⟨g, 0, none⟩)) :: env) (blk g (.cells #[v] t (0, 0)) :: H)) (hx : evo env x = some v := by exact rfl) (h1 : v.cells = #[v] := by exact rfl) (hn : Nat.ble (d + 1) n.k = true := by exact rfl) : VL Tryz.prog none n B w0 ops Q (⟨some d, .box t x, ty, pos, after, none⟩ :: rest) env H := Ydf hx h1 hn h
theorem zs54 {t : TypeId} {z : Value} {cs : Array Value} (h : ∀ g, VL Tryz.prog none n B w0 ops Q rest ((d, .pointer (some ⟨g, 0, none⟩)) :: env) (blk g (.cells cs t (0, 0)) :: H)) (hz : look T2.zt t = some z := by exact rfl) (hc : z.cells = cs := by exact rfl) (hn : Nat.ble (d + 1) n.k = true := by exact rfl) : VL Tryz.prog none n B w0 ops Q (⟨some d, .alloc t, ty, pos, after, none⟩ :: rest) env H := Yeu T2 hz hc hn h
theorem zs55 {t : TypeId} {parts : List (Nat × Operand)} {ps : List (Nat × Value)} {zc : Array Value} {pl : List (Nat × Nat)} {cs : List Value} (h : VL Tryz.prog m n B w0 ops Q rest ((d, .agg cs.toArray) :: env) H) (hp : J5 env parts = some ps := by exact rfl) (hz : look T2.zt t = some (.agg zc) := by exact rfl) (hl : look T2.bt t = some pl := by exact rfl) (hf : Vu (pl[·]?) zc.toList ps = some cs := by exact rfl) (hn : Nat.ble (d + 1) n.k = true := by exact rfl) : VL Tryz.prog m n B w0 ops Q (⟨some d, .build t parts.toArray, ty, pos, after, none⟩ :: rest) env H := Yex T2 hp hz hl hf hn h
theorem zs56 {t e len size bytes : Nat} {parts : List (Nat × Operand)} {ps : List (Nat × Value)} {z : Value} {zl cs : List Value} (h : ∀ g, VL Tryz.prog none n B w0 ops Q rest ((d, .slice (some ⟨g, 0, none⟩) len len) :: env) (blk g (.cells cs.toArray e (0, 0)) :: H)) (ht : look T.sl t = some (e, size, bytes) := by exact rfl) (hp : J5 env parts = some ps := by exact rfl) (hz : look T2.zt e = some z := by exact rfl) (hzc : z.cells = zl.toArray := by exact rfl) (hf : Vu (fun i => some (i * size, size)) (repZ len zl) ps = some cs := by exact rfl) (hn : Nat.ble (d + 1) n.k = true := by exact rfl) (hl : (Nat.blt 0 (len * size) && Nat.beq zl.length size && Nat.ble (len * size) 1000000) = true := by exact rfl) : VL Tryz.prog none n B w0 ops Q (⟨some d, .buildSlice t len parts.toArray, ty, pos, after, none⟩ :: rest) env H := OG T T2 ht hp hz hzc hf hn hl h
theorem zs57 {α : Type} {f : α → List Value} {l : List α} {t : Nat} {x y : Operand} {A : Option Addr} {cap : Nat} {e size bytes : Nat} {ki : IntKind} {i : Int} (h : VL Tryz.prog m n B w0 ops Q rest ((d, sptr A (i.toNat * size)) :: env) H) (hx : evo env x = some (.slice A l.length cap) := by exact rfl) (hy : evo env y = some (.int ki i) := by exact rfl) (hr : Rd B w0 H A (l.flatMap f) := by (exact zr; done)) (ht : look T.sl t = some (e, size, bytes) := by exact rfl) (hq : ∀ a, (f a).length = size := by exact fun _ => rfl) (h0 : Nat.blt 0 size = true := by exact rfl) (hn : Nat.ble (d + 1) n.k = true := by exact rfl) (hi : 0 ≤ i ∧ i < l.length := by omega) : VL Tryz.prog m n B w0 ops Q (⟨some d, .indexAddr t x y, ty, pos, after, none⟩ :: rest) env H := YbV T hx hy hr ht hq h0 hn hi h
theorem zs58 {α : Type} {f : α → List Value} {l : List α} {s fl k i q : Nat} {x : Operand} {A : Option Addr} (h : VL Tryz.prog m n B w0 ops Q rest ((d, sptr A (i * q + k)) :: env) H) (hx : evo env x = some (sptr A (i * q)) := by exact rfl) (hr : Rd B w0 H A (l.flatMap f) := by (exact zr; done)) (hq : ∀ a, (f a).length = q := by exact fun _ => rfl) (h0 : Nat.blt 0 q = true := by exact rfl) (hf : Vz T.fo s fl = some k := by exact rfl) (hn : Nat.ble (d + 1) n.k = true := by exact rfl) (hi : i < l.length := by omega) : VL Tryz.prog m n B w0 ops Q (⟨some d, .fieldAddr s x fl, ty, pos, after, none⟩ :: rest) env H := Ya6 T hx hr hq h0 hf hn hi h
theorem zs59 {α : Type} {f : α → List Value} {l : List α} {t i q o : Nat} {b : α} {x : Operand} {A : Option Addr} {v : Value} (h : VL Tryz.prog m n B w0 ops Q rest ((d, v) :: env) H) (hx : evo env x = some (sptr A (i * q + o)) := by exact rfl) (hr : Rd B w0 H A (l.flatMap f) := by (exact zr; done)) (hb : l[i]? = some b := by assumption) (hq : ∀ a, (f a).length = q := by exact fun _ => rfl) (ho : Nat.blt o q = true := by exact rfl) (hv : nth (f b) o = some v := by exact rfl) (ht : look T.sc t = some () := by exact rfl) (hn : Nat.ble (d + 1) n.k = true := by exact rfl) : VL Tryz.prog m n B w0 ops Q (⟨some d, .load t x, ty, pos, after, none⟩ :: rest) env H := OI T hx hr hb hq ho hv ht hn h
theorem zs60 {α : Type} {f : α → List Value} {l : List α} {t i q : Nat} {b : α} {x : Operand} {A : Option Addr} {v : Value} (h : VL Tryz.prog m n B w0 ops Q rest ((d, v) :: env) H) (hx : evo env x = some (sptr A (i * q)) := by exact rfl) (hr : Rd B w0 H A (l.flatMap f) := by (exact zr; done)) (hb : l[i]? = some b := by assumption) (hq : ∀ a, (f a).length = q := by exact fun _ => rfl) (ho : Nat.blt 0 q = true := by exact rfl) (hv : nth (f b) 0 = some v := by exact rfl) (ht : look T.sc t = some () := by exact rfl) (hn : Nat.ble (d + 1) n.k = true := by exact rfl) : VL Tryz.prog m n B w0 ops Q (⟨some d, .load t x, ty, pos, after, none⟩ :: rest) env H := YbY T hx hr hb hq ho hv ht hn h
theorem zs61 {α : Type} {f : α → List Value} {l : List α} {t i q : Nat} {b : α} {x : Operand} {A : Option Addr} (h : VL Tryz.prog m n B w0 ops Q rest ((d, .agg (f b).toArray) :: env) H) (hx : evo env x = some (sptr A (i * q)) := by exact rfl) (hr : Rd B w0 H A (l.flatMap f) := by (exact zr; done)) (hb : l[i]? = some b := by assumption) (hq : ∀ a, (f a).length = q := by exact fun _ => rfl) (ho : Nat.blt 0 q = true := by exact rfl) (ht : look T.ag t = some q := by exact rfl) (hn : Nat.ble (d + 1) n.k = true := by exact rfl) : VL Tryz.prog m n B w0 ops Q (⟨some d, .load t x, ty, pos, after, none⟩ :: rest) env H := OH T hx hr hb hq ho ht hn h
theorem zs62 {x y : Operand} {k : IntKind} {a b : Int} {tys : Array TypeId} (h1 : a < b → VL Tryz.prog m n B w0 ops Q rest ((d, .int k b) :: env) H) (h2 : b ≤ a → VL Tryz.prog m n B w0 ops Q rest ((d, .int k a) :: env) H) (hx : evo env x = some (.int k a) := by exact rfl) (hy : evo env y = some (.int k b) := by exact rfl) (hn : Nat.ble (d + 1) n.k = true := by exact rfl) : VL Tryz.prog m n B w0 ops Q (⟨some d, .call ⟨.builtin .max, #[x, y], tys⟩, ty, pos, after, none⟩ :: rest) env H := Yg3 hx hy hn h1 h2
theorem zs65  (h : VQ n B w0 Q .normal env H)  : VL Tryz.prog none n B w0 ops Q [] env H := YfK h
theorem zs66  (h : VQ n B w0 Q .normal env H)  : VL Tryz.prog (some none) n B w0 ops Q [] env H := Yg6 h
theorem zs68 {y : Code} (h : VC Tryz.prog n B w0 y Q env H)  : VQ n B w0 (Exit.then (wpR Tryz.prog n.r y Q) Q) .normal env H := Ybf h
theorem zs69 {x y : Code} (h : VC Tryz.prog n B w0 x (Exit.then (wpR Tryz.prog n.r y Q) Q) env H)  : VC Tryz.prog n B w0 (.seq x y) Q env H := JT h
theorem zs70 {id : Nat} {l : List Oper} (h : VL Tryz.prog none n B w0 l.toArray Q l env H)  : VC Tryz.prog n B w0 (.region id l.toArray false) Q env H := ZR h
theorem zs71 {c : Operand} {x y : Code} (h : VC Tryz.prog n B w0 x Q env H) (hc : evo env c = some (.bool true) := by exact rfl) : VC Tryz.prog n B w0 (.cond c x y) Q env H := Ya1 hc h
theorem zs72 {c : Operand} {x y : Code} (h : VC Tryz.prog n B w0 y Q env H) (hc : evo env c = some (.bool false) := by exact rfl) : VC Tryz.prog n B w0 (.cond c x y) Q env H := QV hc h
theorem zs73 {id : Nat} {c : Code} (h : VC Tryz.prog n B w0 c (Exit.inBlock id Q) env H)  : VC Tryz.prog n B w0 (.block id c) Q env H := YfA h
theorem zs74  (h : VQ n B w0 Q .ret env H)  : VC Tryz.prog n B w0 .ret Q env H := Yh0 h
theorem zs75 {id : Nat} (h : VQ n B w0 Q (.exit id) env H)  : VC Tryz.prog n B w0 (.exit id) Q env H := YgX h
theorem zs76  (h : VQ n B w0 Q .normal env H)  : VC Tryz.prog n B w0 .skip Q env H := YgY h
theorem zs77 {K : Act → World → Prop} (h : VQ n B w0 Q .ret env H)  : VQ n B w0 (Exit.then K Q) .ret env H := Yb7 h
theorem zs78 {id : Nat} (h : VQ n B w0 Q .ret env H)  : VQ n B w0 (Exit.inBlock id Q) .ret env H := Ybd h
theorem zs79 {id : Nat} (h : VQ n B w0 Q .normal env H)  : VQ n B w0 (Exit.inBlock id Q) .normal env H := Od h
theorem zs80 {K : Act → World → Prop} {id : Nat} (h : VQ n B w0 Q (.exit id) env H)  : VQ n B w0 (Exit.then K Q) (.exit id) env H := Ybg h
theorem zs81 {id : Nat} (h : VQ n B w0 Q .normal env H)  : VQ n B w0 (Exit.inBlock id Q) (.exit id) env H := QZ h
theorem zs83 {id : Nat} {l : List Oper} (h : VL Tryz.prog (some none) n B w0 l.toArray Q l env H) (hq : (l.all fun o => !eff o) = true := by exact rfl) (hm : Tryz.prog.follows .mixedOrders = true := by kernel_rfl) (hB : Region.lexB .any l.toArray = true := by kernel_rfl) : VC Tryz.prog n B w0 (.region id l.toArray true) Q env H := YfC hq hm hB h
theorem zs84 {id : Nat} {l : List Oper} (h : VL Tryz.prog (some none) n B w0 l.toArray Q l env H) (hq : (l.all fun o => !effW o) = true := by exact rfl) (hm : Tryz.prog.follows .mixedOrders = true := by kernel_rfl) (hB : Region.lexB .any l.toArray = true := by kernel_rfl) : VC Tryz.prog n B w0 (.region id l.toArray true) Q env H := YfB hq hm hB h
theorem zs87 {o : Oper} {F HF : List HP} (h : VL Tryz.prog none n B w0 ops (YbM Tryz.prog B w0 ops Q H rest) [o] env HF) (he : eff o = true := by exact rfl) (hg : o.guard = none := by exact rfl) (happ : App H F HF := by (exact zp; done)) : VL Tryz.prog (some (some F)) n B w0 ops Q (o :: rest) env H := Yg1 he hg happ h
theorem zs90 {l : List Oper} {F : List HP} {i : Nat} {t : OT} {o : Oper} (h : VL Tryz.prog (some (some F)) n B w0 ops (Vi Tryz.prog B w0 ops l Q H t) [o] env H) (ho : nthO l i = o := by (simp only [nthO]; rfl)) : VT Tryz.prog n B w0 ops l Q (.n1 i t) env H F := Yiy ho h
theorem zs91 {l : List Oper} {F : List HP} {i j : Nat} {t u : OT} {o o' : Oper} (h : VL Tryz.prog (some (some F)) n B w0 ops (Vi Tryz.prog B w0 ops l Q H t) [o] env H) (h' : VL Tryz.prog (some (some F)) n B w0 ops (Vi Tryz.prog B w0 ops l Q H u) [o'] env H) (ho : nthO l i = o := by (simp only [nthO]; rfl)) (ho' : nthO l j = o' := by (simp only [nthO]; rfl)) : VT Tryz.prog n B w0 ops l Q (.n2 i t j u) env H F := Yiz ho ho' h h'
theorem zs93 {l : List Oper} (h : VL Tryz.prog none n B w0 ops Q l env H)  : VQ n B w0 (XH Tryz.prog ops Q l) .normal env H := YfU h
theorem zs94  (h : VQ n B w0 Q .normal env H)  : VQ n B w0 (Only Q) .normal env H := Yhc h
theorem zg1 {m : Mode} {d : Nat} {op : Op} {ty : TypeId} {pos : String} {after : Array Edge} {j : Nat} {b : Bool} (h : VL Tryz.prog m n B w0 ops Q (⟨some d, op, ty, pos, after, some (j, b)⟩ :: rest) env H) : VL Tryz.prog m n B w0 ops Q (⟨some d, op, ty, pos, after, some (j, b)⟩ :: rest) env H := h
theorem zg2 {s f : Nat} {x : Operand} (h : VL Tryz.prog m n B w0 ops Q (⟨some d, .fieldAddr s x f, ty, pos, after, none⟩ :: rest) env H) : VL Tryz.prog m n B w0 ops Q (⟨some d, .fieldAddr s x f, ty, pos, after, none⟩ :: rest) env H := h
theorem zg3 {t : Nat} {x : Operand} (h : VL Tryz.prog m n B w0 ops Q (⟨some d, .load t x, ty, pos, after, none⟩ :: rest) env H) : VL Tryz.prog m n B w0 ops Q (⟨some d, .load t x, ty, pos, after, none⟩ :: rest) env H := h
theorem zg4 {tx : Nat} {x : Operand} (h : VL Tryz.prog m n B w0 ops Q (⟨some d, .call ⟨.builtin .len, #[x], #[tx]⟩, ty, pos, after, none⟩ :: rest) env H) : VL Tryz.prog m n B w0 ops Q (⟨some d, .call ⟨.builtin .len, #[x], #[tx]⟩, ty, pos, after, none⟩ :: rest) env H := h
theorem zg5 {t : Nat} {x y : Operand} (h : VL Tryz.prog m n B w0 ops Q (⟨some d, .indexAddr t x y, ty, pos, after, none⟩ :: rest) env H) : VL Tryz.prog m n B w0 ops Q (⟨some d, .indexAddr t x y, ty, pos, after, none⟩ :: rest) env H := h
theorem zg6 {c x y : Operand} (h : VL Tryz.prog m n B w0 ops Q (⟨some d, .pick c x y, ty, pos, after, none⟩ :: rest) env H) : VL Tryz.prog m n B w0 ops Q (⟨some d, .pick c x y, ty, pos, after, none⟩ :: rest) env H := h
theorem zg7  (h : VL Tryz.prog m n B w0 ops Q (⟨some d, .binOp .eql xt x y yt, ty, pos, after, none⟩ :: rest) env H) : VL Tryz.prog m n B w0 ops Q (⟨some d, .binOp .eql xt x y yt, ty, pos, after, none⟩ :: rest) env H := h
theorem zg8  (h : VL Tryz.prog m n B w0 ops Q (⟨some d, .binOp .neq xt x y yt, ty, pos, after, none⟩ :: rest) env H) : VL Tryz.prog m n B w0 ops Q (⟨some d, .binOp .neq xt x y yt, ty, pos, after, none⟩ :: rest) env H := h
theorem zg13  (h : VL Tryz.prog m n B w0 ops Q (⟨some d, .binOp .add xt x y yt, ty, pos, after, none⟩ :: rest) env H) : VL Tryz.prog m n B w0 ops Q (⟨some d, .binOp .add xt x y yt, ty, pos, after, none⟩ :: rest) env H := h
theorem zg14  (h : VL Tryz.prog m n B w0 ops Q (⟨some d, .binOp .sub xt x y yt, ty, pos, after, none⟩ :: rest) env H) : VL Tryz.prog m n B w0 ops Q (⟨some d, .binOp .sub xt x y yt, ty, pos, after, none⟩ :: rest) env H := h
theorem zg15  (h : VL Tryz.prog m n B w0 ops Q (⟨some d, .binOp .mul xt x y yt, ty, pos, after, none⟩ :: rest) env H) : VL Tryz.prog m n B w0 ops Q (⟨some d, .binOp .mul xt x y yt, ty, pos, after, none⟩ :: rest) env H := h
theorem zg16  (h : VL Tryz.prog m n B w0 ops Q (⟨some d, .binOp .quo xt x y yt, ty, pos, after, none⟩ :: rest) env H) : VL Tryz.prog m n B w0 ops Q (⟨some d, .binOp .quo xt x y yt, ty, pos, after, none⟩ :: rest) env H := h
theorem zg17  (h : VL Tryz.prog m n B w0 ops Q (⟨some d, .binOp .rem xt x y yt, ty, pos, after, none⟩ :: rest) env H) : VL Tryz.prog m n B w0 ops Q (⟨some d, .binOp .rem xt x y yt, ty, pos, after, none⟩ :: rest) env H := h
theorem zg18  (h : VL Tryz.prog m n B w0 ops Q (⟨some d, .binOp .shr xt x y yt, ty, pos, after, none⟩ :: rest) env H) : VL Tryz.prog m n B w0 ops Q (⟨some d, .binOp .shr xt x y yt, ty, pos, after, none⟩ :: rest) env H := h
theorem zg19 {src dst : TypeId} (h : VL Tryz.prog m n B w0 ops Q (⟨some d, .convert src dst x, ty, pos, after, none⟩ :: rest) env H) : VL Tryz.prog m n B w0 ops Q (⟨some d, .convert src dst x, ty, pos, after, none⟩ :: rest) env H := h
theorem zg20 {x : Operand} {xt : TypeId} (h : VL Tryz.prog m n B w0 ops Q (⟨some d, .unOp .not xt x, ty, pos, after, none⟩ :: rest) env H) : VL Tryz.prog m n B w0 ops Q (⟨some d, .unOp .not xt x, ty, pos, after, none⟩ :: rest) env H := h
theorem zg21 {t : Nat} {x y : Operand} (h : VL Tryz.prog m n B w0 ops Q (⟨some d, .call ⟨.builtin .append, #[x, y], #[t, t]⟩, ty, pos, after, none⟩ :: rest) env H) : VL Tryz.prog m n B w0 ops Q (⟨some d, .call ⟨.builtin .append, #[x, y], #[t, t]⟩, ty, pos, after, none⟩ :: rest) env H := h
theorem zg22 {t : Nat} {x y : Operand} (h : VL Tryz.prog m n B w0 ops Q (⟨none, .store t x y, ty, pos, after, none⟩ :: rest) env H) : VL Tryz.prog m n B w0 ops Q (⟨none, .store t x y, ty, pos, after, none⟩ :: rest) env H := h
theorem zg23 {t : TypeId} {x : Operand} (h : VL Tryz.prog m n B w0 ops Q (⟨some d, .box t x, ty, pos, after, none⟩ :: rest) env H) : VL Tryz.prog m n B w0 ops Q (⟨some d, .box t x, ty, pos, after, none⟩ :: rest) env H := h
theorem zg24 {t : TypeId} (h : VL Tryz.prog m n B w0 ops Q (⟨some d, .alloc t, ty, pos, after, none⟩ :: rest) env H) : VL Tryz.prog m n B w0 ops Q (⟨some d, .alloc t, ty, pos, after, none⟩ :: rest) env H := h
theorem zg25 {t : TypeId} {parts : List (Nat × Operand)} (h : VL Tryz.prog m n B w0 ops Q (⟨some d, .build t parts.toArray, ty, pos, after, none⟩ :: rest) env H) : VL Tryz.prog m n B w0 ops Q (⟨some d, .build t parts.toArray, ty, pos, after, none⟩ :: rest) env H := h
theorem zg26 {t len : Nat} {parts : List (Nat × Operand)} (h : VL Tryz.prog m n B w0 ops Q (⟨some d, .buildSlice t len parts.toArray, ty, pos, after, none⟩ :: rest) env H) : VL Tryz.prog m n B w0 ops Q (⟨some d, .buildSlice t len parts.toArray, ty, pos, after, none⟩ :: rest) env H := h
theorem zg27 {c : Operand} {x y : Code} (h : VC Tryz.prog n B w0 (.cond c x y) Q env H) : VC Tryz.prog n B w0 (.cond c x y) Q env H := h
theorem zg28 {id : Nat} {l : List Oper} (h : VC Tryz.prog n B w0 (.region id l.toArray true) Q env H) : VC Tryz.prog n B w0 (.region id l.toArray true) Q env H := h
theorem zg29 {fn : Fn} {caps : List Operand} (h : VL Tryz.prog m n B w0 ops Q (⟨some d, .makeFunc fn #[] caps.toArray, ty, pos, after, none⟩ :: rest) env H) : VL Tryz.prog m n B w0 ops Q (⟨some d, .makeFunc fn #[] caps.toArray, ty, pos, after, none⟩ :: rest) env H := h
end
end Go.Eng
namespace Go.Nw
abbrev Lk := Int × Int × Int
structure Net where
  nodes : Int
  power : List (List Int)
  noise : Int
  thr : Int
  links : List Lk
  margin : List Int
def cmpI (x y : Int) : Int := if x < y then -1 else if y < x then 1 else 0
def cmpL (a b : Lk) : Int := if cmpI a.1 b.1 = 0 then cmpI a.2.1 b.2.1 else cmpI a.1 b.1
def X7 (p : Int) : Bool := decide (p < 0 ∨ 68719476736 < p)
def wide (k : Int) (r : List Int) : Bool := decide ((r.length : Int) ≠ k)
def J8 (n : Net) : Int :=
  if (n.power.length : Int) ≠ n.nodes then 1 else if n.power.any (wide n.nodes) = true then 1 else if n.power.any (fun r => r.any X7) = true then 2 else 0
def lnk (n : Net) (i : Nat) : Lk := n.links.getD i (0, 0, 0)
def mar (n : Net) (i : Nat) : Int := n.margin.getD i 0
def powr (n : Net) (a b : Int) : Int := (n.power.getD a.toNat []).getD b.toNat 0
def Uf (n : Net) (i : Nat) : Int :=
  if ¬ (0 ≤ (lnk n i).1 ∧ (lnk n i).1 < n.nodes) ∨ ¬ (0 ≤ (lnk n i).2.1 ∧ (lnk n i).2.1 < n.nodes) ∨ (lnk n i).1 = (lnk n i).2.1 ∨ (lnk n i).2.2 < 0 ∨ 7 < (lnk n i).2.2 then 2
  else if 0 < i ∧ 0 ≤ cmpL (lnk n (i - 1)) (lnk n i) then 5
  else if mar n i < 0 ∨ powr n (lnk n i).1 (lnk n i).2.1 < mar n i then 2 else 0
def Jc (n : Net) : Nat → Nat → Int
  | 0, _ => 0
  | r + 1, i => if Uf n i = 0 then Jc n r (i + 1) else Uf n i
def YA (n : Net) : Int :=
  if n.nodes < 2 ∨ 32 < n.nodes then 2 else if J8 n ≠ 0 then J8 n
  else if n.noise < 0 ∨ 68719476736 < n.noise ∨ n.thr < 1000 ∨ 100000 < n.thr then 2
  else if 128 < n.links.length then 8 else if n.margin.length ≠ n.links.length then 11 else Jc n n.links.length 0
def Yt {α : Type} (p : α → Bool) : List α → Int → Int
  | [], _ => -1
  | a :: l, k => if p a then k else Yt p l (k + 1)
theorem JZ {α : Type} (p : α → Bool) : ∀ (l : List α) (k : Int), 0 ≤ k → (0 ≤ Yt p l k ↔ l.any p = true)
  | [], k, _ => by simp [Yt]
  | a :: l, k, h => by
    unfold Yt
    by_cases hp : p a = true
    · simp [hp, h]
    · rw [if_neg hp, JZ p l (k + 1) (by omega)]
      simp [hp]
theorem JL {α : Type} (p : α → Bool) (l : List α) {k : Nat} {a : α} (h : l[k]? = some a) : Yt p (l.drop k) k = if p a then (k : Int) else Yt p (l.drop (k + 1)) (k + 1) := by
  obtain ⟨hk, rfl⟩ := List.getElem?_eq_some_iff.1 h
  rw [List.drop_eq_getElem_cons hk, Yt]
theorem YcF (n : Net) {i : Nat} (h : i < n.links.length) (h0 : Uf n i = 0) : Jc n (n.links.length - i) i = Jc n (n.links.length - (i + 1)) (i + 1) := by
  rw [show n.links.length - i = n.links.length - (i + 1) + 1 by omega, Jc, if_pos h0]
theorem YcG (n : Net) {i : Nat} (h : i < n.links.length) (h0 : Uf n i ≠ 0) : Jc n (n.links.length - i) i = Uf n i := by
  rw [show n.links.length - i = n.links.length - (i + 1) + 1 by omega, Jc, if_neg h0]
theorem Yc3 {n : Net} (h : J8 n = 0) : (n.power.length : Int) = n.nodes ∧ (∀ r ∈ n.power, (r.length : Int) = n.nodes) ∧ ∀ r ∈ n.power, ∀ p ∈ r, 0 ≤ p ∧ p ≤ 68719476736 := by
  unfold J8 at h
  by_cases h1 : (n.power.length : Int) ≠ n.nodes
  · rw [if_pos h1] at h; omega
  rw [if_neg h1] at h
  by_cases h2 : n.power.any (wide n.nodes) = true
  · rw [if_pos h2] at h; omega
  rw [if_neg h2] at h
  by_cases h3 : n.power.any (fun r => r.any X7) = true
  · rw [if_pos h3] at h; omega
  refine ⟨by omega, fun r hr => ?_, fun r hr p hp => ?_⟩
  · by_cases hw : (r.length : Int) = n.nodes
    · exact hw
    · exact absurd (List.any_eq_true.2 ⟨r, hr, by simp [wide, hw]⟩) h2
  · by_cases ho : X7 p = true
    · exact absurd (List.any_eq_true.2 ⟨r, hr, List.any_eq_true.2 ⟨p, hp, ho⟩⟩) h3
    · simp [X7] at ho; omega
end Go.Nw
