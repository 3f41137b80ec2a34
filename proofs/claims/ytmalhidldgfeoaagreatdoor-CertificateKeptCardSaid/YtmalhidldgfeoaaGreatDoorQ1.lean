/- Lemmas for the claim, part 1. -/
import Derived.WalkKit
import Derived.Lib.Hide
import Derived.Deep.LoopGhost
import Derived.Deep.Quiet
import Derived.OrdersHeld
import Derived.OrdersIn
import Derived.TacticsIn
import Derived.RangeFuncCalls
import Derived.Sort.LoopGhostIn
import Derived.KernelRfl
import Derived.Maps.AppendAt
import Derived.Laws.StructEq
import Derived.ChangeKeysEq
import Derived.MapKept
import Derived.Maps.RangeRun
import Derived.Laws.IdiomCopy
import Derived.Laws.ResultCell
import Derived.Laws.Tables
import Derived.Great.BuildSlice
import Derived.Laws.CopyRow
import Derived.RangeFuncFrom
import Derived.RangeFuncNested
import Derived.RangeFuncLeaves
import Derived.Lib.OthersKept
namespace Go.Eng
end Go.Eng
namespace Go.Nw
end Go.Nw
namespace Go.Proofs
end Go.Proofs
namespace Go.Proofs.YtmalhidldgfeoaaGreatDoor
end Go.Proofs.YtmalhidldgfeoaaGreatDoor
namespace Go.Rt
end Go.Rt
namespace Go.Eng
theorem zk {p : Prop} (h : p := by first | ((intro w hw; refine hw.perm ?_; focus repeat (first | with_reducible exact Perm.refl _ | (with_reducible apply Yho; focus ((repeat (first | with_reducible exact Yf | with_reducible apply Ye)); done)) | with_reducible apply Perm.dropK)); done) | fail) : p := h
theorem zu {p : Prop} (h : p := by first | ((repeat (first | exact Ykm _ | (apply Yjh; first | exact rfl | exact congrArg (fun z : Int => some (Value.int .i64 z)) (by omega)))); done) | fail) : p := h
theorem zr {p : Prop} (h : p := by first | ((first | (focus (repeat (first | assumption | apply Rd.cons)); done) | exact Rd.sl (by (focus repeat (first | with_reducible exact List.mem_cons_self | with_reducible apply List.mem_cons_of_mem | assumption)))); done) | fail) : p := h
theorem zm {p : Prop} (h : p := by first | ((focus repeat (first | with_reducible exact List.mem_cons_self | with_reducible apply List.mem_cons_of_mem | assumption)); done) | fail) : p := h
theorem za {p : Prop} (h : p := by first | ((repeat (first | exact Yin | (apply YgO; exact rfl))); done) | fail) : p := h
theorem zp {p : Prop} (h : p := by first | ((repeat (first | with_reducible exact YjN | with_reducible apply Yim | exact Ydz _)); done) | fail) : p := h
theorem zy {p : Prop} (h : p := by first | ((repeat (first | with_reducible exact YhG | with_reducible apply Ykl | with_reducible apply Ykk)); done) | fail) : p := h
theorem zq {p : Prop} (h : p := by first | ((repeat (first | exact PutAt.nil | (apply PutAt.cons; (repeat (first | exact YaJ | apply ON))))); done) | fail) : p := h
theorem zt {p : Prop} (h : p := by first | ((repeat (first | exact YaJ | apply ON)); done) | fail) : p := h
theorem zd {p : Prop} (h : p := by first | ((repeat (first | with_reducible exact Upd.here _ | with_reducible apply Upd.there)); done) | fail) : p := h
theorem zv {p : Prop} (h : p := by first | ((simp only [subL, List.toList_toArray, List.drop_succ_cons, List.drop_zero, List.take_succ_cons, List.take_zero, Nat.zero_add]; rfl); done) | fail) : p := h
structure Hid (Q : Prop) : Prop where
  h : Q
theorem zga {P Q : Prop} (q : Q) (h : Hid Q → P := by intro q; first | (apply (zs1 ?_); exact q.h) | (apply (zs2 ?_); exact q.h) | (apply zg2; refine zs6 ?_; exact q.h) | (apply zg3; refine zs7 ?_; exact q.h) | (apply (zs65 ?_); exact q.h) | (apply (zs68 ?_); exact q.h) | (apply (zs69 ?_); exact q.h) | (apply (zs70 ?_); exact q.h) | (apply (zs74 ?_); exact q.h) | fail) : P := h ⟨q⟩
theorem zgb {P Q : Prop} (q : Q) (h : Hid Q → P := by intro q; first | (apply (zs1 ?_); exact q.h) | (apply (zs2 ?_); exact q.h) | (apply zg1; refine zs4 ?_; exact q.h) | (apply zg2; refine zs6 ?_; exact q.h) | (apply zg3; refine zs7 ?_; exact q.h) | (apply zg4; refine zs9 ?_; exact q.h) | (apply (zs65 ?_); exact q.h) | (apply (zs68 ?_); exact q.h) | (apply (zs69 ?_); exact q.h) | (apply (zs70 ?_); exact q.h) | (apply zg27; (first | refine zs71 ?_ | refine zs72 ?_); exact q.h) | (apply (zs73 ?_); exact q.h) | (apply (zs74 ?_); exact q.h) | (apply (zs76 ?_); exact q.h) | (apply (zs77 ?_); exact q.h) | fail) : P := h ⟨q⟩
theorem zgc {P Q : Prop} (q : Q) (h : Hid Q → P := by intro q; first | (apply (zs1 ?_); exact q.h) | (apply (zs2 ?_); exact q.h) | (apply zg1; (first | refine zs3 ?_ | refine zs4 ?_); exact q.h) | (apply zg2; refine zs6 ?_; exact q.h) | (apply zg3; (first | refine zs7 ?_ | refine zs8 ?_); exact q.h) | (apply zg4; refine zs9 ?_; exact q.h) | (apply zg6; (first | refine zs11 ?_ | refine zs12 ?_); exact q.h) | (apply zg13; refine zs30 ?_; exact q.h) | (apply zg20; refine zs47 ?_; exact q.h) | (apply zg5; refine zs57 ?_; exact q.h) | (apply (zs65 ?_); exact q.h) | (apply (zs68 ?_); exact q.h) | (apply (zs69 ?_); exact q.h) | (apply (zs70 ?_); exact q.h) | (apply zg27; (first | refine zs71 ?_ | refine zs72 ?_); exact q.h) | (apply (zs73 ?_); exact q.h) | (apply (zs74 ?_); exact q.h) | (apply (zs75 ?_); exact q.h) | (apply (zs76 ?_); exact q.h) | (apply (zs77 ?_); exact q.h) | (apply (zs78 ?_); exact q.h) | (apply (zs79 ?_); exact q.h) | (apply (zs80 ?_); exact q.h) | (apply (zs81 ?_); exact q.h) | fail) : P := h ⟨q⟩
theorem zgd {P Q : Prop} (q : Q) (h : Hid Q → P := by intro q; first | (apply (zs1 ?_); exact q.h) | (apply (zs2 ?_); exact q.h) | (apply zg1; (first | refine zs3 ?_ | refine zs4 ?_); exact q.h) | (apply (zs5 ?_); exact q.h) | (apply zg2; (first | refine zs6 ?_ | refine zs58 ?_); exact q.h) | (apply zg3; (first | refine zs7 ?_ | refine zs8 ?_ | refine zs59 ?_ | refine zs60 ?_ | refine zs61 ?_); exact q.h) | (apply zg4; (first | refine zs9 ?_ | refine zs14 ?_); exact q.h) | (apply zg5; (first | refine zs10 ?_ | refine zs57 ?_); exact q.h) | (apply zg6; (first | refine zs11 ?_ | refine zs12 ?_); exact q.h) | (apply (zs13 ?_); exact q.h) | (apply zg13; refine zs30 ?_; exact q.h) | (apply zg14; refine zs31 ?_; exact q.h) | (apply zg15; refine zs32 ?_; exact q.h) | (apply zg16; refine zs36 ?_; exact q.h) | (apply zg17; refine zs37 ?_; exact q.h) | (apply zg18; refine zs38 ?_; exact q.h) | (apply zg19; (first | refine zs44 ?_ | refine zs45 ?_); exact q.h) | (apply zg20; (first | refine zs47 ?_ | refine zs48 ?_); exact q.h) | (apply zg22; (first | refine zs50 ?_ | refine zs51 ?_); exact q.h) | (apply zg25; refine zs55 ?_; exact q.h) | (apply (zs65 ?_); exact q.h) | (apply (zs66 ?_); exact q.h) | (apply (zs68 ?_); exact q.h) | (apply (zs69 ?_); exact q.h) | (apply (zs70 ?_); exact q.h) | (apply zg27; (first | refine zs71 ?_ | refine zs72 ?_); exact q.h) | (apply (zs73 ?_); exact q.h) | (apply (zs74 ?_); exact q.h) | (apply (zs75 ?_); exact q.h) | (apply (zs76 ?_); exact q.h) | (apply (zs77 ?_); exact q.h) | (apply (zs78 ?_); exact q.h) | (apply (zs79 ?_); exact q.h) | (apply (zs80 ?_); exact q.h) | (apply (zs81 ?_); exact q.h) | (apply zg28; refine zs83 ?_; exact q.h) | (apply (zs87 ?_); exact q.h) | (apply (zs90 ?_); exact q.h) | (apply (zs93 ?_); exact q.h) | (apply (zs94 ?_); exact q.h) | (apply Ys; exact zp; exact q.h) | (apply Va; exact zp; exact q.h) | (apply YjM; exact zp; exact q.h) | (apply Ycr; exact zp; exact q.h) | (apply Yf1; exact zp; exact q.h) | fail) : P := h ⟨q⟩
theorem zge {P Q R : Prop} (q : Q) (r : R) (h : Hid Q → Hid R → P := by intro q r; first | (apply zg8; refine zs16 ?_ ?_; exact q.h; exact r.h) | (apply (zs17 ?_ ?_); exact q.h; exact r.h) | (apply (zs19 ?_ ?_); exact q.h; exact r.h) | fail) : P := h ⟨q⟩ ⟨r⟩
theorem zgf {P Q R : Prop} (q : Q) (r : R) (h : Hid Q → Hid R → P := by intro q r; first | (apply zg7; refine zs15 ?_ ?_; exact q.h; exact r.h) | (apply zg8; refine zs16 ?_ ?_; exact q.h; exact r.h) | (apply (zs17 ?_ ?_); exact q.h; exact r.h) | (apply (zs18 ?_ ?_); exact q.h; exact r.h) | (apply (zs19 ?_ ?_); exact q.h; exact r.h) | (apply (zs20 ?_ ?_); exact q.h; exact r.h) | (apply (zs25 ?_ ?_); exact q.h; exact r.h) | (apply (zs62 ?_ ?_); exact q.h; exact r.h) | fail) : P := h ⟨q⟩ ⟨r⟩
theorem zgh {P Q : Prop} (q : Q) (h : Hid Q → P := by intro q; first | (apply zg23; (first | refine zs52 ?_ | refine zs53 ?_); exact q.h) | (apply zg24; refine zs54 ?_; exact q.h) | (apply zg26; refine zs56 ?_; exact q.h) | fail) : P := h ⟨q⟩
theorem zgi {P Q : Prop} (q : Q) (h : Hid Q → P := by intro q; first | (apply zg21; refine zs49 ?_; exact q.h) | fail) : P := h ⟨q⟩
end Go.Eng

namespace Go.Eng
open Go.RowKit
theorem Xi {α : Type} {c : Prop} [Decidable c] {x a b : α} (hc : c) (h : x = a) : x = if c then a else b := by rw [if_pos hc]; exact h
theorem Xh {α : Type} {c : Prop} [Decidable c] {x a b : α} (hc : ¬ c) (h : x = b) : x = if c then a else b := by rw [if_neg hc]; exact h
theorem YiQ {a b : Int} (h0 : 0 ≤ a) (h1 : a ≤ 1000000) (h2 : 0 ≤ b) (h3 : b ≤ 1000000000000) : -9223372036854775808 ≤ a * b ∧ a * b ≤ 9223372036854775807 := by
  have h4 : 0 ≤ a * b := Int.mul_nonneg h0 h2
  have h5 : a * b ≤ 1000000 * b := Int.mul_le_mul_of_nonneg_right h1 h2
  omega
theorem Yj4 {a b : Int} (h0 : 0 ≤ b) (h1 : b ≤ 1000000) (h2 : 0 ≤ a) (h3 : a ≤ 1000000000000) : -9223372036854775808 ≤ a * b ∧ a * b ≤ 9223372036854775807 := by
  rw [Int.mul_comm]; exact YiQ h0 h1 h2 h3
structure HP where
  holds : (Nat → Prop) → World → Prop
  loc : ∀ {S : Nat → Prop} {w w' : World}, (∀ b, S b → w'.heap[b]? = w.heap[b]?) → holds S w → holds S w'
def blk (g : Nat) (o : Obj) : HP := ⟨fun S w => S g ∧ w.heap[g]? = some o, fun h ⟨hs, hg⟩ => ⟨hs, (h _ hs).trans hg⟩⟩
def sepL : List HP → (Nat → Prop) → World → Prop
  | [], _, _ => True
  | A :: L, S, w => ∃ S1 S2 : Nat → Prop, (∀ b, S1 b → S b) ∧ (∀ b, S2 b → S b) ∧ (∀ b, S1 b → ¬ S2 b) ∧ A.holds S1 w ∧ sepL L S2 w
theorem J5 {L : List HP} {S T : Nat → Prop} {w : World} (h : sepL L S w) (hs : ∀ b, S b → T b) : sepL L T w := by
  cases L with
  | nil => trivial
  | cons A L =>
    obtain ⟨S1, S2, h1, h2, h3, h4, h5⟩ := h
    exact ⟨S1, S2, fun b hb => hs b (h1 b hb), fun b hb => hs b (h2 b hb), h3, h4, h5⟩
theorem WE {L : List HP} : ∀ {S : Nat → Prop} {w w' : World}, sepL L S w → (∀ b, S b → w'.heap[b]? = w.heap[b]?) → sepL L S w' := by
  induction L with
  | nil => intros; trivial
  | cons A L ih =>
    intro S w w' h hs
    obtain ⟨S1, S2, h1, h2, h3, h4, h5⟩ := h
    exact ⟨S1, S2, h1, h2, h3, A.loc (fun b hb => hs b (h1 b hb)) h4, ih h5 (fun b hb => hs b (h2 b hb))⟩
theorem Yhw {A B : HP} {L : List HP} {S : Nat → Prop} {w : World} (h : sepL (A :: B :: L) S w) : sepL (B :: A :: L) S w := by
  obtain ⟨S1, S2, h1, h2, h3, h4, T1, T2, k1, k2, k3, k4, k5⟩ := h
  refine ⟨T1, fun b => S1 b ∨ T2 b, fun b hb => h2 b (k1 b hb), fun b hb => hb.elim (h1 b) (fun hb => h2 b (k2 b hb)), fun b hb hc => ?_, k4, S1, T2, fun b hb => .inl hb, fun b hb => .inr hb, fun b hb hc => h3 b hb (k2 b hc), h4, k5⟩
  rcases hc with hc | hc
  · exact h3 b hc (k1 b hb)
  · exact k3 b hb hc
theorem Yb7 {A : HP} {L : List HP} {S : Nat → Prop} {w : World} (h : sepL (A :: L) S w) : sepL L S w := by
  obtain ⟨S1, S2, _, h2, _, _, h5⟩ := h
  exact J5 h5 h2
structure Perm (L M : List HP) : Prop where
  go : ∀ (S : Nat → Prop) (w : World), sepL L S w → sepL M S w
theorem Perm.refl (L : List HP) : Perm L L := ⟨fun _ _ h => h⟩
theorem Perm.cons (A : HP) {L M : List HP} (p : Perm L M) : Perm (A :: L) (A :: M) := by
  refine ⟨fun S w h => ?_⟩
  obtain ⟨S1, S2, h1, h2, h3, h4, h5⟩ := h
  exact ⟨S1, S2, h1, h2, h3, h4, p.go _ _ h5⟩
theorem Perm.swap (A B : HP) (L : List HP) : Perm (A :: B :: L) (B :: A :: L) := ⟨fun _ _ => Yhw⟩
theorem Perm.trans {L M N : List HP} (p : Perm L M) (q : Perm M N) : Perm L N := ⟨fun _ _ h => q.go _ _ (p.go _ _ h)⟩
structure St (B : Nat) (w0 : World) (H : List HP) (w : World) : Prop where
  below : Below B w0 w
  le : B ≤ w.heap.size
  sep : sepL H (fun b => B ≤ b ∧ b < w.heap.size) w
theorem St.start (w : World) : St w.heap.size w [] w := ⟨Below.refl _ _, Nat.le_refl _, trivial⟩
theorem St.perm {B : Nat} {w0 w : World} {H K : List HP} (h : St B w0 H w) (p : Perm H K) : St B w0 K w := ⟨h.below, h.le, p.go _ _ h.sep⟩
theorem St.tail {B : Nat} {w0 w : World} {A : HP} {H : List HP} (h : St B w0 (A :: H) w) : St B w0 H w := ⟨h.below, h.le, Yb7 h.sep⟩
theorem Ygy {L : List HP} {A : HP} (hA : A ∈ L) : ∀ {S : Nat → Prop} {w : World}, sepL L S w → ∃ S1 : Nat → Prop, (∀ b, S1 b → S b) ∧ A.holds S1 w := by
  induction L with
  | nil => cases hA
  | cons B L ih =>
    intro S w h
    obtain ⟨S1, S2, h1, h2, _, h4, h5⟩ := h
    rcases List.mem_cons.1 hA with e | e
    · subst e; exact ⟨S1, h1, h4⟩
    · obtain ⟨S3, h6, h7⟩ := ih e h5
      exact ⟨S3, fun b hb => h2 b (h6 b hb), h7⟩
theorem St.at_ {B : Nat} {w0 w : World} {H : List HP} {A : HP} (h : St B w0 H w) (hA : A ∈ H) : ∃ S1 : Nat → Prop, (∀ b, S1 b → B ≤ b ∧ b < w.heap.size) ∧ A.holds S1 w := Ygy hA h.sep
theorem St.blk {B : Nat} {w0 w : World} {H : List HP} {g : Nat} {o : Obj} (h : St B w0 H w) (hA : blk g o ∈ H) : w.heap[g]? = some o ∧ B ≤ g ∧ g < w.heap.size := by
  obtain ⟨S1, h1, h2, h3⟩ := h.at_ hA
  exact ⟨h3, h1 g h2⟩
theorem St.grow {B : Nat} {w0 w w' : World} {H : List HP} (h : St B w0 H w) (k : Below w.heap.size w w') : St B w0 H w' :=
  ⟨h.below.trans (k.mono h.le), Nat.le_trans h.le k.size, J5 (WE h.sep fun b hb => k.block b hb.2) fun _ hb => ⟨hb.1, Nat.lt_of_lt_of_le hb.2 k.size⟩⟩
theorem St.drew {B : Nat} {w0 w : World} {H : List HP} (h : St B w0 H w) : St B w0 H w.drew := h.grow (Below.refl _ _).drew
theorem St.alloc {B : Nat} {w0 w : World} {H : List HP} (h : St B w0 H w) (o : Obj) : St B w0 (Eng.blk w.heap.size o :: H) (w.alloc o) := by
  refine ⟨h.below.alloc h.le o, by have := h.le; simp; omega, fun b => b = w.heap.size, fun b => B ≤ b ∧ b < w.heap.size, ?_, ?_, ?_, ?_, ?_⟩
  · rintro b rfl; exact ⟨h.le, by simp⟩
  · rintro b ⟨h1, h2⟩; exact ⟨h1, by simp; omega⟩
  · rintro b rfl ⟨_, h2⟩; omega
  · exact ⟨rfl, heap_alloc_new w o⟩
  · exact WE h.sep fun b hb => Below.heap_alloc w o b hb.2
def Upd (A A' : HP) (L M : List HP) : Prop := ∃ L1 L2, L = L1 ++ A :: L2 ∧ M = L1 ++ A' :: L2
theorem Upd.here {A A' : HP} (L : List HP) : Upd A A' (A :: L) (A' :: L) := ⟨[], L, rfl, rfl⟩
theorem Upd.there {A A' : HP} (X : HP) {L M : List HP} (u : Upd A A' L M) : Upd A A' (X :: L) (X :: M) := by
  obtain ⟨L1, L2, rfl, rfl⟩ := u
  exact ⟨X :: L1, L2, rfl, rfl⟩
theorem YeD {A A' : HP} {w w' : World}
    (hA : ∀ S1 : Nat → Prop, A.holds S1 w → (∃ S' : Nat → Prop, A'.holds S' w' ∧ ∀ b, S' b → S1 b ∨ (w.heap.size ≤ b ∧ b < w'.heap.size)) ∧ ∀ b, ¬ S1 b → b < w.heap.size → w'.heap[b]? = w.heap[b]?) (L2 : List HP) :
    ∀ (L1 : List HP) {S : Nat → Prop}, (∀ b, S b → b < w.heap.size) → sepL (L1 ++ A :: L2) S w →
      ∃ S1 : Nat → Prop, (∀ b, S1 b → S b) ∧ A.holds S1 w ∧ sepL (L1 ++ A' :: L2) (fun b => S b ∨ (w.heap.size ≤ b ∧ b < w'.heap.size)) w'
  | [], S, hS, h => by
    obtain ⟨S1, S2, h1, h2, h3, h4, h5⟩ := h
    obtain ⟨⟨S', k1, k3⟩, k2⟩ := hA S1 h4
    refine ⟨S1, h1, h4, S', S2, fun b hb => (k3 b hb).elim (fun h => .inl (h1 b h)) .inr, fun b hb => .inl (h2 b hb), fun b hb hc => ?_, k1, WE h5 fun b hb => k2 b (fun hc => h3 b hc hb) (hS b (h2 b hb))⟩
    rcases k3 b hb with h | h
    · exact h3 b h hc
    · have := hS b (h2 b hc); omega
  | X :: L1, S, hS, h => by
    obtain ⟨S1, S2, h1, h2, h3, h4, h5⟩ := h
    obtain ⟨T, t1, t2, t3⟩ := YeD hA L2 L1 (fun b hb => hS b (h2 b hb)) h5
    obtain ⟨_, k2⟩ := hA T t2
    refine ⟨T, fun b hb => h2 b (t1 b hb), t2, S1, _, fun b hb => .inl (h1 b hb), fun b hb => hb.elim (fun h => .inl (h2 b h)) .inr, fun b hb hc => ?_, X.loc (fun b hb => k2 b (fun hc => h3 b hb (t1 b hc)) (hS b (h1 b hb))) h4, t3⟩
    rcases hc with hc | hc
    · exact h3 b hb hc
    · have := hS b (h1 b hb); omega
theorem St.updN {B : Nat} {w0 w w' : World} {A A' : HP} {H K : List HP} (h : St B w0 H w) (u : Upd A A' H K)
    (hos : w'.os = w.os) (ht : w'.tape = w.tape) (hout : w'.output = w.output) (hsz : w.heap.size ≤ w'.heap.size)
    (hA : ∀ S1 : Nat → Prop, A.holds S1 w → (∃ S' : Nat → Prop, A'.holds S' w' ∧ ∀ b, S' b → S1 b ∨ (w.heap.size ≤ b ∧ b < w'.heap.size)) ∧ ∀ b, ¬ S1 b → b < w.heap.size → w'.heap[b]? = w.heap[b]?) : St B w0 K w' := by
  obtain ⟨L1, L2, rfl, rfl⟩ := u
  obtain ⟨S1, h1, h2, h3⟩ := YeD hA L2 L1 (S := fun b => B ≤ b ∧ b < w.heap.size) (fun b hb => hb.2) h.sep
  obtain ⟨_, k2⟩ := hA S1 h2
  have hle := h.le
  refine ⟨⟨hos.trans h.below.os, ht.trans h.below.tape, hout.trans h.below.output, Nat.le_trans h.below.size hsz, fun b hb => ?_⟩, Nat.le_trans h.le hsz, J5 h3 fun b hb => ?_⟩
  · rw [k2 b (fun hc => by have := (h1 b hc).1; omega) (Nat.lt_of_lt_of_le hb h.le), h.below.block b hb]
  · rcases hb with hb | hb
    · exact ⟨hb.1, Nat.lt_of_lt_of_le hb.2 hsz⟩
    · exact ⟨by omega, hb.2⟩
theorem St.upd {B : Nat} {w0 w w' : World} {A A' : HP} {H K : List HP} (h : St B w0 H w) (u : Upd A A' H K)
    (hos : w'.os = w.os) (ht : w'.tape = w.tape) (hout : w'.output = w.output) (hsz : w.heap.size ≤ w'.heap.size)
    (hA : ∀ S1 : Nat → Prop, A.holds S1 w → A'.holds S1 w' ∧ ∀ b, ¬ S1 b → b < w.heap.size → w'.heap[b]? = w.heap[b]?) : St B w0 K w' :=
  h.updN u hos ht hout hsz fun S1 hS => let ⟨k1, k2⟩ := hA S1 hS; ⟨⟨S1, k1, fun _ hb => .inl hb⟩, k2⟩
theorem St.setCell {B : Nat} {w0 w : World} {H K : List HP} {g i : Nat} {cs : Array Value} {t : TypeId} {fr : Nat × Nat} {v : Value} (h : St B w0 H w)
    (u : Upd (Eng.blk g (.cells cs t fr)) (Eng.blk g (.cells (cs.setIfInBounds i v) t fr)) H K) : St B w0 K (w.setCell ⟨g, i, none⟩ v) := by
  refine h.upd u rfl rfl rfl (by simp) fun S1 ⟨h1, h2⟩ => ⟨⟨h1, ?_⟩, fun b hb _ => Below.heap_setCell w _ v b (fun e => hb (e ▸ h1))⟩
  simp [World.setCell, Array.getElem?_modify, h2]
abbrev Env := List (Nat × Value)
def get : Env → Nat → Option Value
  | [], _ => none
  | (s, v) :: e, t => if s = t then some v else get e t
def evo (env : Env) : Operand → Option Value
  | .tmp t => get env t
  | .const v => some v
  | .global g => some (.pointer (some ⟨g, 0, none⟩))
  | .func f => some (.func (.func f) #[] #[])
structure Shp where
  k : Nat
  ds : List Deferred
  r : Option Nat
structure Fits (n : Shp) (a : Act) (env : Env) : Prop where
  defers : a.defers = n.ds
  size : a.tmps.size = n.k
  slot : ∀ t v, get env t = some v → a.tmps[t]? = some v
theorem Fits.eval {n : Shp} {a : Act} {env : Env} (h : Fits n a env) {x : Operand} {v : Value} (hx : evo env x = some v) : a.eval x = v := by
  cases x with
  | tmp t => have := h.slot t v hx; simp [Act.eval, Array.getD_eq_getD_getElem?, this]
  | const c => exact Option.some.inj hx
  | global g => exact Option.some.inj hx
  | func f => exact Option.some.inj hx
theorem Fits.put {n : Shp} {a : Act} {env : Env} (h : Fits n a env) {d : Nat} (hd : d < n.k) (v : Value) : Fits n (a.put (some d) v) ((d, v) :: env) := by
  refine ⟨h.defers, by simp [Act.put, h.size], fun t u ht => ?_⟩
  by_cases e : d = t
  · subst e
    simp only [get, if_true, Option.some.injEq] at ht
    subst ht
    simp [Act.put, h.size, hd]
  · rw [get, if_neg e] at ht
    simp [Act.put, e, h.slot t u ht]
theorem Fits.sub {n : Shp} {a : Act} {env env' : Env} (h : Fits n a env) (hs : ∀ t v, get env' t = some v → get env t = some v) : Fits n a env' :=
  ⟨h.defers, h.size, fun t v ht => h.slot t v (hs t v ht)⟩
def ZK (o : Oper) : Bool :=
  match o.op with
  | .defer _ => false
  | _ => true
def calm : Code → Bool
  | .seq x y => calm x && calm y
  | .cond _ x y => calm x && calm y
  | .loop c => calm c
  | .block _ c => calm c
  | .region _ ops _ => ops.toList.all ZK
  | .rangeFunc _ _ x y => calm x && calm y
  | .scope _ => false
  | _ => true
def wpR (P : Program) (r : Option Nat) (c : Code) (Q : Exit → Act → World → Prop) (a : Act) (w : World) : Prop :=
  match r with
  | none => c.wp P Q a w
  | some l => ¬ LetsOut Q → calm c = true → c.wpIn (Fence.wide.inRound l) 0 P Q a w
section
variable {P : Program} {r : Option Nat} {Q : Exit → Act → World → Prop} {a : Act} {w : World}
theorem Zs {c : Code} {Q' : Exit → Act → World → Prop} (h : wpR P r c Q a w) (hq : ∀ e a w, Q e a w → Q' e a w) : wpR P r c Q' a w := by
  cases r with
  | none => exact wp_mono h hq
  | some l => exact fun hlo hc => wpIn_mono (h (fun ⟨a, w, hl⟩ => hlo ⟨a, w, hq _ _ _ hl⟩) hc) hq
theorem Yks {x y : Code} (h : wpR P r x (Exit.then (wpR P r y Q) Q) a w) : wpR P r (.seq x y) Q a w := by
  cases r with
  | none => exact wp_seq h
  | some l =>
    intro hlo hc
    simp only [calm, Bool.and_eq_true] at hc
    refine wpIn_seq (wpIn_mono (h (fun ⟨a, w, hl⟩ => hlo ⟨a, w, hl⟩) hc.1) fun e a w hq => ?_)
    cases e <;> first | exact hq | exact hq hlo hc.2
theorem YhP {id : Nat} {c : Code} (h : wpR P r c (Exit.inBlock id Q) a w) : wpR P r (.block id c) Q a w := by
  cases r with
  | none => exact wp_block h
  | some l => exact fun hlo hc => wpIn_block (h (fun ⟨a, w, hl⟩ => hlo ⟨a, w, hl⟩) hc)
theorem Yjs (h : Q .normal a w) : wpR P r .skip Q a w := by
  cases r with
  | none => exact wp_skip h
  | some l => exact fun _ _ => wpIn_skip h
theorem Ykr (h : Q .ret a w) : wpR P r .ret Q a w := by
  cases r with
  | none => exact wp_ret h
  | some l => exact fun _ _ => wpIn_ret h
theorem Yjq {id : Nat} (h : Q (.exit id) a w) : wpR P r (.exit id) Q a w := by
  cases r with
  | none => exact wp_exit h
  | some l => exact fun _ _ => wpIn_exit h
theorem YeR {c : Operand} {x y : Code} {t : Bool} (hc : a.eval c = .bool t) (ht : t = true → wpR P r x Q a w) (hf : t = false → wpR P r y Q a w) : wpR P r (.cond c x y) Q a w := by
  cases r with
  | none => exact wp_cond_split hc ht hf
  | some l =>
    intro hlo hca
    simp only [calm, Bool.and_eq_true] at hca
    exact wpIn_cond_split hc (fun e => ht e hlo hca.1) (fun e => hf e hlo hca.2)
theorem OM {n l : Nat} {row : String} {args : Array Value} {R : Value → World → Prop} (h : Rows P row args w R) : RowsIn (Fence.wide.inRound l) n P row args w R := fun c cs _ => by
  obtain ⟨v, w', h1, h2⟩ := h c cs
  exact ⟨v, w', h1, stepsIn_wide.2 h2⟩
theorem Yb2 {l n : Nat} {o : Oper} {K : Act → World → Prop} (hp : ZK o = true) (h : o.wp P a w K Q) : o.wpIn (Fence.wide.inRound l) n P a w K Q := by
  have hs : Oper.semAt (some l) a.eval o = execOp a.eval o := Oper.semAt_some l _ o fun c e => by
    unfold ZK at hp
    rw [e] at hp
    cases hp
  refine ⟨fun f _ => trivial, ?_⟩
  rw [Fence.inRound_round, hs]
  unfold Oper.wp at h
  generalize (execOp a.eval o).run P w = res at h ⊢
  cases res with
  | ok x w' =>
    cases x <;> simp only [Oper.upon, Oper.uponIn] at h ⊢ <;> first
      | exact h
      | (refine ⟨fun hd => by simp [Fence.wide] at hd, ?_⟩
         refine CallsIn.mono (CallsIn.inRound l (callsIn_wide.2 h)) fun e w'' he => ?_
         cases e <;> exact he)
      | exact ⟨fun hd => by simp [Fence.wide] at hd, OM h⟩
      | exact h.elim
  | halt x w' => cases x <;> simp only [Oper.upon, Oper.uponIn] at h ⊢ <;> first | exact h | exact h.elim
theorem J2 {l n : Nat} {ops : Array Oper} (hlo : ¬ LetsOut Q) : ∀ (os : List Oper) (a : Act) (w : World), os.all ZK = true → wpList P ops Q os a w → wpListIn (Fence.wide.inRound l) n P ops Q os a w
  | [], _, _, _, h => h
  | o :: os, a, w, hc, h => by
    simp only [List.all_cons, Bool.and_eq_true] at hc
    unfold wpList at h
    unfold wpListIn
    split
    · rename_i hw
      rw [if_pos hw] at h
      rcases h with h | ⟨_, h⟩
      · exact Yb2 hc.1 (Oper.wp_mono (fun a w h => J2 hlo os a w hc.2 h) h)
      · exact (hlo h).elim
    · rename_i hw
      rw [if_neg hw] at h
      exact ⟨fun f _ => trivial, J2 hlo os _ w hc.2 h⟩
theorem Wi {l n : Nat} {ops : Array Oper} (hlo : ¬ LetsOut Q) (hc : ops.toList.all ZK = true) : ∀ (fuel : Nat) (listed : Array Bool) (a : Act) (w : World), wpAny P .any ops Q fuel listed a w → wpAnyIn (Fence.wide.inRound l) n P .any ops Q fuel listed a w
  | 0, _, _, _, h => h
  | fuel + 1, listed, a, w, h => by
    refine ⟨h.1, fun i hi => ?_⟩
    have h2 := h.2 i hi
    unfold wpOp at h2
    unfold wpOpIn
    cases ho : ops[i]? with
    | none => rw [ho] at h2; exact Wi hlo hc fuel _ a w h2
    | some o =>
      rw [ho] at h2
      have hpl : ZK o = true := by
        have := Array.getElem?_eq_some_iff.1 ho
        exact List.all_eq_true.1 hc o (by rw [← this.2]; simp)
      simp only at h2 ⊢
      split
      · rename_i hw
        rw [if_pos hw] at h2
        rcases h2 with h2 | ⟨_, h2⟩
        · exact Yb2 hpl (Oper.wp_mono (fun a w h => Wi hlo hc fuel _ a w h) h2)
        · exact (hlo h2).elim
      · rename_i hw
        rw [if_neg hw] at h2
        exact ⟨fun f _ => trivial, Wi hlo hc fuel _ _ w h2⟩
theorem YfO {id : Nat} {l : List Oper} (h : wpList P l.toArray Q l a w) : wpR P r (.region id l.toArray false) Q a w := by
  cases r with
  | none => exact wp_region_lit h
  | some k => exact fun hlo hc => wpIn_region_lit (J2 hlo l a w (by simpa [calm] using hc) h)
theorem JK {id : Nat} {ops : Array Oper} (hm : P.follows .mixedOrders = true) (h : wpAny P .any ops Q ops.size (Array.replicate ops.size false) a w.drew) : wpR P r (.region id ops true) Q a w := by
  cases r with
  | none => exact wp_region_any hm h
  | some k => exact fun hlo hc => wpIn_region_any hm (Wi hlo (by simpa [calm] using hc) _ _ a _ h)
theorem YhQ {id : Nat} {ops : Array Oper} {C : World → Prop} (hm : P.follows .mixedOrders = true) (hB : Region.lexB .any ops = true) (hC : C w.drew)
    (h : wpQuiet P ops C (fun a' => ∀ w', C w' → Q .normal a' w') ops.toList a) : wpR P r (.region id ops true) Q a w := by
  simp only [Region.lexB, Bool.and_eq_true] at hB
  refine JK hm (wpAny_of_quiet (Q := fun a' => ∀ w', C w' → Q .normal a' w') (fun _ w' hw' h => h w' hw') _ _ _ _ hC ?_)
  have := wpAnyQ_lex (C := C) (md := .any) hB.1 ops.toList 0 (Array.replicate ops.size false) a (by simp) (by simpa using hB.2) h
  simpa using this
theorem Yjr {c : Code} (I : Nat → Act → World → Prop) (n₀ : Nat) (h₀ : I n₀ a w)
    (round : ∀ n a w, I n a w → wpR P r c (Exit.then (fun a' w' => ∃ n', n' < n ∧ I n' a' w') Q) a w) : wpR P r (.loop c) Q a w := by
  cases r with
  | none => exact wp_loop_ghost I n₀ h₀ round
  | some l => exact fun hlo hc => wpIn_loop_ghost I n₀ h₀ fun n a w hI => round n a w hI (fun ⟨a, w, hl⟩ => hlo ⟨a, w, hl⟩) hc
end
structure VQ (n : Shp) (B : Nat) (w0 : World) (Q : Exit → Act → World → Prop) (e : Exit) (env : Env) (H : List HP) : Prop where
  run : ∀ a w, Fits n a env → St B w0 H w → Q e a w
structure VC (P : Program) (n : Shp) (B : Nat) (w0 : World) (c : Code) (Q : Exit → Act → World → Prop) (env : Env) (H : List HP) : Prop where
  run : ∀ a w, Fits n a env → St B w0 H w → wpR P n.r c Q a w
def eff (o : Oper) : Bool :=
  match o.op with
  | .move _ | .assign _ | .pick _ _ _ | .build _ _ | .load _ _ | .nilCheck _ | .binOp _ _ _ _ _ | .unOp _ _ _ | .slice _ _ _ _ _ | .fieldAddr _ _ _ | .field _ _ _ | .indexAddr _ _ _ | .index _ _ _ | .lookup _ _ _ _ | .extract _ _ => false
  | .call ⟨.builtin .len, _, _⟩ | .call ⟨.builtin .min, _, _⟩ | .call ⟨.builtin .max, _, _⟩ | .call ⟨.builtin .cap, _, _⟩ => false
  | .convert _ _ _ => false
  | _ => true
def Yt (P : Program) (ops : Array Oper) (Q : Exit → Act → World → Prop) (S : World → Prop) : List Oper → Act → World → Prop
  | [], a, w => Q .normal a w
  | o :: rest, a, w =>
    if eff o then
      (if Region.wanted o (yielded ops a.tmps) then o.wp P a w (fun a' w' => S w' ∧ Yt P ops Q S rest a' w') Q else Yt P ops Q S rest (a.put o.dst undef) w)
    else ∃ v, YieldsIf P ops S o v a ∧ Yt P ops Q S rest (a.put o.dst v) w
abbrev Mode := Option (Option (List HP))
def Yie (P : Program) (m : Mode) (B : Nat) (w0 : World) (ops : Array Oper) (Q : Exit → Act → World → Prop) (l : List Oper) (a : Act) (H : List HP) : Prop :=
  match m with
  | none => ∀ w, St B w0 H w → wpList P ops Q l a w
  | some none => wpQuiet P ops (St B w0 H) (fun a' => ∀ w, St B w0 H w → Q .normal a' w) l a
  | some (some F) => ∀ w, St B w0 (H ++ F) w → Yt P ops Q (St B w0 H) l a w
structure VL (P : Program) (m : Mode) (n : Shp) (B : Nat) (w0 : World) (ops : Array Oper) (Q : Exit → Act → World → Prop) (l : List Oper) (env : Env) (H : List HP) : Prop where
  run : ∀ a, Fits n a env → Yie P m B w0 ops Q l a H
def Post (B : Nat) (w0 : World) (Φ : Value → List HP → Prop) (e : Ending) (w : World) : Prop := ∃ v H, e = .returned v ∧ St B w0 H w ∧ Φ v H
section
variable {P : Program} {n : Shp} {B : Nat} {w0 : World} {Q : Exit → Act → World → Prop} {env : Env} {H : List HP}
theorem Zx {x y : Code} (h : VC P n B w0 x (Exit.then (wpR P n.r y Q) Q) env H) : VC P n B w0 (.seq x y) Q env H := ⟨fun a w ha hw => Yks (h.run a w ha hw)⟩
theorem Yc8 {id : Nat} {c : Code} (h : VC P n B w0 c (Exit.inBlock id Q) env H) : VC P n B w0 (.block id c) Q env H := ⟨fun a w ha hw => YhP (h.run a w ha hw)⟩
theorem Yjw (h : VQ n B w0 Q .normal env H) : VC P n B w0 .skip Q env H := ⟨fun a w ha hw => Yjs (h.run a w ha hw)⟩
theorem YkS (h : VQ n B w0 Q .ret env H) : VC P n B w0 .ret Q env H := ⟨fun a w ha hw => Ykr (h.run a w ha hw)⟩
theorem Yjv {id : Nat} (h : VQ n B w0 Q (.exit id) env H) : VC P n B w0 (.exit id) Q env H := ⟨fun a w ha hw => Yjq (h.run a w ha hw)⟩
theorem Yce {c : Operand} {x y : Code} (hc : evo env c = some (.bool true)) (h : VC P n B w0 x Q env H) : VC P n B w0 (.cond c x y) Q env H :=
  ⟨fun a w ha hw => YeR (ha.eval hc) (fun _ => h.run a w ha hw) (fun e => by cases e)⟩
theorem YaY {c : Operand} {x y : Code} (hc : evo env c = some (.bool false)) (h : VC P n B w0 y Q env H) : VC P n B w0 (.cond c x y) Q env H :=
  ⟨fun a w ha hw => YeR (ha.eval hc) (fun e => by cases e) (fun _ => h.run a w ha hw)⟩
theorem XH {id : Nat} {l : List Oper} (h : VL P none n B w0 l.toArray Q l env H) : VC P n B w0 (.region id l.toArray false) Q env H := ⟨fun a w ha hw => YfO (h.run a ha w hw)⟩
theorem YfS {id : Nat} {l : List Oper} (hm : P.follows .mixedOrders = true) (hB : Region.lexB .any l.toArray = true) (h : VL P (some none) n B w0 l.toArray Q l env H) : VC P n B w0 (.region id l.toArray true) Q env H :=
  ⟨fun a _ ha hw => YhQ (C := St B w0 H) hm hB (hw.drew) (by rw [List.toList_toArray]; exact h.run a ha)⟩
theorem Ycp {y : Code} (h : VC P n B w0 y Q env H) : VQ n B w0 (Exit.then (wpR P n.r y Q) Q) .normal env H := ⟨fun a w ha hw => h.run a w ha hw⟩
theorem Ydt {K : Act → World → Prop} (h : VQ n B w0 Q .ret env H) : VQ n B w0 (Exit.then K Q) .ret env H := ⟨fun a w ha hw => h.run a w ha hw⟩
theorem Ycq {K : Act → World → Prop} {id : Nat} (h : VQ n B w0 Q (.exit id) env H) : VQ n B w0 (Exit.then K Q) (.exit id) env H := ⟨fun a w ha hw => h.run a w ha hw⟩
theorem O0 {id : Nat} (h : VQ n B w0 Q .normal env H) : VQ n B w0 (Exit.inBlock id Q) .normal env H := ⟨fun a w ha hw => h.run a w ha hw⟩
theorem Yco {id : Nat} (h : VQ n B w0 Q .ret env H) : VQ n B w0 (Exit.inBlock id Q) .ret env H := ⟨fun a w ha hw => h.run a w ha hw⟩
theorem Ya2 {id : Nat} (h : VQ n B w0 Q .normal env H) : VQ n B w0 (Exit.inBlock id Q) (.exit id) env H :=
  ⟨fun a w ha hw => by simp only [Exit.inBlock, if_true]; exact h.run a w ha hw⟩
def Next {α : Type} (n : Shp) (B : Nat) (w0 : World) (E : α → Env) (HH : α → List HP) (I : α → Prop) (μ : α → Nat) (x : α) (a : Act) (w : World) : Prop :=
  ∃ y, I y ∧ μ y < μ x ∧ Fits n a (E y) ∧ St B w0 (HH y) w
theorem YfT {α : Type} (E : α → Env) (HH : α → List HP) (I : α → Prop) (μ : α → Nat) {c : Code} (x0 : α) (h0 : I x0)
    (he : ∀ t v, get (E x0) t = some v → get env t = some v) (hH : ∀ w, St B w0 H w → St B w0 (HH x0) w)
    (round : ∀ x, I x → VC P n B w0 c (Exit.then (Next n B w0 E HH I μ x) Q) (E x) (HH x)) : VC P n B w0 (.loop c) Q env H := by
  refine ⟨fun a w ha hw => Yjr (fun k a w => ∃ x, μ x = k ∧ I x ∧ Fits n a (E x) ∧ St B w0 (HH x) w) (μ x0) ⟨x0, rfl, h0, ha.sub he, hH w hw⟩ ?_⟩
  rintro k a w ⟨x, rfl, hx, ha, hw⟩
  refine Zs ((round x hx).run a w ha hw) ?_
  intro e a w hq
  cases e with
  | normal => obtain ⟨y, h1, h2, h3, h4⟩ := hq; exact ⟨μ y, h2, y, rfl, h1, h3, h4⟩
  | exit id => exact hq
  | goto l => exact hq
  | ret => exact hq
  | panic ch => exact hq
  | outgrown => exact hq
theorem Yds {α : Type} {E : α → Env} {HH : α → List HP} {I : α → Prop} {μ : α → Nat} {x : α} (y : α) (hI : I y) (hμ : μ y < μ x)
    (he : ∀ t v, get (E y) t = some v → get env t = some v) (hH : ∀ w, St B w0 H w → St B w0 (HH y) w) : VQ n B w0 (Exit.then (Next n B w0 E HH I μ x) Q) .normal env H :=
  ⟨fun _ w ha hw => ⟨y, hI, hμ, ha.sub he, hH w hw⟩⟩
theorem Ykm (env : Env) : ∀ t v, get [] t = some v → get env t = some v := fun _ _ h => by cases h
theorem Yjh {env e : Env} {t : Nat} {v : Value} (h : get env t = some v) (he : ∀ t v, get e t = some v → get env t = some v) : ∀ t' v', get ((t, v) :: e) t' = some v' → get env t' = some v' := by
  intro t' v' h'
  by_cases e' : t = t'
  · subst e'; rw [get, if_pos rfl] at h'; rw [← h']; exact h
  · rw [get, if_neg e'] at h'; exact he _ _ h'
theorem VR {c : Code} (H' : List HP) (hH : ∀ w, St B w0 H w → St B w0 H' w) (h : VC P n B w0 c Q env H') : VC P n B w0 c Q env H := ⟨fun a w ha hw => h.run a w ha (hH w hw)⟩
theorem Ybm {ops : Array Oper} {l : List Oper} (H' : List HP) (hH : ∀ w, St B w0 H w → St B w0 H' w) (h : VL P none n B w0 ops Q l env H') : VL P none n B w0 ops Q l env H := ⟨fun a ha w hw => h.run a ha w (hH w hw)⟩
theorem Yp {e : Exit} {A : HP} (h : VQ n B w0 Q e env H) : VQ n B w0 Q e env (A :: H) := ⟨fun a w ha hw => h.run a w ha hw.tail⟩
theorem Yi {e : Exit} (H' : List HP) (hH : ∀ w, St B w0 H w → St B w0 H' w) (h : VQ n B w0 Q e env H') : VQ n B w0 Q e env H := ⟨fun a w ha hw => h.run a w ha (hH w hw)⟩
def VZ : Nat → List Value → Env
  | _, [] => []
  | i, v :: l => (i, v) :: VZ (i + 1) l
theorem UY : ∀ (l : List Value) (i t : Nat) (v : Value), get (VZ i l) t = some v → i ≤ t ∧ l[t - i]? = some v
  | [], i, t, v, h => by cases h
  | u :: l, i, t, v, h => by
    by_cases e : i = t
    · subst e; rw [VZ, get, if_pos rfl] at h; simp at h; simp [h]
    · rw [VZ, get, if_neg e] at h
      obtain ⟨h1, h2⟩ := UY l (i + 1) t v h
      refine ⟨by omega, ?_⟩
      rw [show t - i = (t - (i + 1)) + 1 by omega]
      simpa using h2
theorem Yc {n : Nat} {f : FuncId} {fn : Func} {c : Code} {args : List Value} {w : World} {Φ : Value → List HP → Prop} (hf : P.funcs[f]? = some fn) (hn : fn.ntmps = n) (hb : fn.body = some c)
    (hle : Nat.ble args.length n = true) (hw : St B w0 H w) (h : VC P ⟨n, [], none⟩ B w0 c (bodyPost P fn (Post B w0 Φ)) (VZ 0 args) H) : Calls P f args.toArray w (Post B w0 Φ) := by
  refine calls_of_wp hf hb (h.run _ w ⟨rfl, ?_, fun t v ht => ?_⟩ hw)
  · have := Nat.le_of_ble_eq_true hle; simp; omega
  · obtain ⟨_, h2⟩ := UY args 0 t v ht
    rw [Nat.sub_zero] at h2
    have hlt : t < args.length := by
      rcases Nat.lt_or_ge t args.length with h | h
      · exact h
      · rw [List.getElem?_eq_none h] at h2; cases h2
    rw [Array.getElem?_append_left (by simpa using hlt)]
    simpa using h2
theorem Yd {n : Nat} {fn : Func} {Φ : Value → List HP → Prop} {t : Nat} {v : Value} (hr : fn.results = #[.tmp t]) (hv : get env t = some v) (h : Φ v H) : VQ ⟨n, [], none⟩ B w0 (bodyPost P fn (Post B w0 Φ)) .ret env H :=
  ⟨fun a w ha hw => bodyPost_ret (results_tmp hr _ _ _) ha.defers ⟨v, H, by rw [Array.getD_eq_getD_getElem?, ha.slot t v hv]; rfl, hw, h⟩⟩
theorem Yr {n : Nat} {fn : Func} {Φ : Value → List HP → Prop} {t u : Nat} {v x : Value} (hr : fn.results = #[.tmp t, .tmp u]) (hv : get env t = some v) (hx : get env u = some x) (h : Φ (.tuple #[v, x]) H) :
    VQ ⟨n, [], none⟩ B w0 (bodyPost P fn (Post B w0 Φ)) .ret env H :=
  ⟨fun a w ha hw => bodyPost_ret (results_tmp2 hr _ _ _) ha.defers ⟨_, H, by rw [Array.getD_eq_getD_getElem?, Array.getD_eq_getD_getElem?, ha.slot t v hv, ha.slot u x hx]; rfl, hw, h⟩⟩
theorem XV {n : Nat} {fn : Func} {Φ : Value → List HP → Prop} {t u s : Nat} {v x y : Value} (hr : fn.results = #[.tmp t, .tmp u, .tmp s]) (hv : get env t = some v) (hx : get env u = some x) (hy : get env s = some y) (h : Φ (.tuple #[v, x, y]) H) :
    VQ ⟨n, [], none⟩ B w0 (bodyPost P fn (Post B w0 Φ)) .ret env H :=
  ⟨fun a w ha hw => bodyPost_ret (v := .tuple #[v, x, y]) (by simp [results, hr, Array.getD_eq_getD_getElem?, ha.slot t v hv, ha.slot u x hx, ha.slot s y hy]) ha.defers ⟨_, H, rfl, hw, h⟩⟩
theorem Xq {n : Nat} {fn : Func} {Φ : Value → List HP → Prop} (hr : fn.results = #[]) (h : Φ (.tuple #[]) H) : VQ ⟨n, [], none⟩ B w0 (bodyPost P fn (Post B w0 Φ)) .normal env H :=
  ⟨fun _ _ ha hw => bodyPost_end (results_none hr _ _ _) ha.defers ⟨_, H, rfl, hw, h⟩⟩
theorem XU {n : Nat} {fn : Func} {Φ : Value → List HP → Prop} (hr : fn.results = #[]) (h : Φ (.tuple #[]) H) : VQ ⟨n, [], none⟩ B w0 (bodyPost P fn (Post B w0 Φ)) .ret env H :=
  ⟨fun _ _ ha hw => bodyPost_ret (results_none hr _ _ _) ha.defers ⟨_, H, rfl, hw, h⟩⟩
variable {ops : Array Oper} {rest : List Oper}
theorem Yh2 (h : VQ n B w0 Q .normal env H) : VL P none n B w0 ops Q [] env H := ⟨fun a ha w hw => wpList_nil (h.run a w ha hw)⟩
theorem YjE (h : VQ n B w0 Q .normal env H) : VL P (some none) n B w0 ops Q [] env H := ⟨fun a ha => show ∀ w, St B w0 H w → Q .normal a w from fun w hw => h.run a w ha hw⟩
theorem Xw {o : Oper} {d : Nat} (Φ : Value → List HP → Prop) (hg : o.guard = none) (hd : o.dst = some d) (hn : Nat.ble (d + 1) n.k = true)
    (hr : ∀ a w, Fits n a env → St B w0 H w → ∃ v H' w', (execOp a.eval o).run P w = .ok (.value v) w' ∧ St B w0 H' w' ∧ Φ v H')
    (h : ∀ v H', Φ v H' → VL P none n B w0 ops Q rest ((d, v) :: env) H') : VL P none n B w0 ops Q (o :: rest) env H := by
  refine ⟨fun a ha w hw => wpList_plain hg fun K hK => ?_⟩
  obtain ⟨v, H', w', hrun, hst, hΦ⟩ := hr a w ha hw
  unfold Oper.wp
  rw [hrun, Oper.upon_value, hd]
  exact hK _ _ ((h v H' hΦ).run _ (ha.put (Nat.le_of_ble_eq_true hn) v) _ hst)
theorem Yh6 {o : Oper} {d : Nat} {v : Value} {H' : List HP} (hg : o.guard = none) (hd : o.dst = some d) (hn : Nat.ble (d + 1) n.k = true)
    (hr : ∀ a w, Fits n a env → St B w0 H w → ∃ w', (execOp a.eval o).run P w = .ok (.value v) w' ∧ St B w0 H' w')
    (h : VL P none n B w0 ops Q rest ((d, v) :: env) H') : VL P none n B w0 ops Q (o :: rest) env H :=
  Xw (fun u K => u = v ∧ K = H') hg hd hn (fun a w ha hw => let ⟨w', h1, h2⟩ := hr a w ha hw; ⟨v, H', w', h1, h2, rfl, rfl⟩) (by rintro _ _ ⟨rfl, rfl⟩; exact h)
theorem OY {o : Oper} {a : Act} {w : World} {v : Value} (hne : eff o = false) (hy : YieldsIf P ops (St B w0 H) o v a) (h : Yt P ops Q (St B w0 H) rest (a.put o.dst v) w) :
    Yt P ops Q (St B w0 H) (o :: rest) a w := by
  unfold Yt
  rw [if_neg (by rw [hne]; simp)]
  exact ⟨v, hy, h⟩
theorem Yw {m : Mode} {o : Oper} {d : Nat} {v : Value} (hg : o.guard = none) (hd : o.dst = some d) (hn : Nat.ble (d + 1) n.k = true) (hne : eff o = false)
    (hr : ∀ a w, Fits n a env → St B w0 H w → (execOp a.eval o).run P w = .ok (.value v) w)
    (h : VL P m n B w0 ops Q rest ((d, v) :: env) H) : VL P m n B w0 ops Q (o :: rest) env H := by
  match m with
  | none => exact Yh6 hg hd hn (fun a w ha hw => ⟨w, hr a w ha hw, hw⟩) h
  | some none =>
    refine ⟨fun a ha => wpQuiet_step fun K hK => ?_⟩
    rw [if_pos (by simp [Region.wanted, hg])]
    refine ⟨v, fun w hw => ?_, hK _ ?_⟩
    · unfold Oper.quietAt; rw [hr a w ha hw]; exact ⟨rfl, rfl⟩
    · rw [hd]; exact h.run _ (ha.put (Nat.le_of_ble_eq_true hn) v)
  | some (some F) =>
    refine ⟨fun a ha w hw => OY hne (.inl ⟨by simp [Region.wanted, hg], fun w' hw' => hr a w' ha hw'⟩) ?_⟩
    rw [hd]; exact h.run _ (ha.put (Nat.le_of_ble_eq_true hn) v) w hw
theorem Z5 {o : Oper} {H' : List HP} (hg : o.guard = none) (hd : o.dst = none)
    (hr : ∀ a w, Fits n a env → St B w0 H w → ∃ w', (execOp a.eval o).run P w = .ok .skip w' ∧ St B w0 H' w')
    (h : VL P none n B w0 ops Q rest env H') : VL P none n B w0 ops Q (o :: rest) env H := by
  refine ⟨fun a ha w hw => wpList_plain hg fun K hK => ?_⟩
  obtain ⟨w', hrun, hst⟩ := hr a w ha hw
  unfold Oper.wp
  rw [hrun, Oper.upon_skip, hd]
  exact hK _ _ (h.run _ ha _ hst)
theorem Ycj {m : Mode} {dst : Option Tmp} {op : Op} {ty : TypeId} {pos : String} {after : Array Edge} {j s : Nat} {b : Bool} {oj : Oper} (hj : ops[j]? = some oj) (hs : oj.dst = some s)
    (hv : get env s = some (.bool b)) (h : VL P m n B w0 ops Q (⟨dst, op, ty, pos, after, none⟩ :: rest) env H) : VL P m n B w0 ops Q (⟨dst, op, ty, pos, after, some (j, b)⟩ :: rest) env H := by
  have hy : ∀ a : Act, Fits n a env → Region.wanted ⟨dst, op, ty, pos, after, some (j, b)⟩ (yielded ops a.tmps) = true := fun a ha => by simp [Region.wanted, yielded, hj, hs, ha.slot s _ hv]
  match m with
  | none =>
    refine ⟨fun a ha w hw => ?_⟩
    have h1 := h.run a ha w hw
    unfold wpList at h1 ⊢
    rw [if_pos (by rfl)] at h1
    rw [if_pos (hy a ha)]
    exact h1
  | some none =>
    refine ⟨fun a ha => ?_⟩
    have h1 := h.run a ha
    unfold Yie wpQuiet at h1 ⊢
    simp only at h1 ⊢
    rw [if_pos (by rfl)] at h1
    rw [if_pos (hy a ha)]
    exact h1
  | some (some F) =>
    refine ⟨fun a ha w hw => ?_⟩
    have h1 := h.run a ha w hw
    unfold Yt at h1 ⊢
    have he : eff ⟨dst, op, ty, pos, after, some (j, b)⟩ = eff ⟨dst, op, ty, pos, after, none⟩ := rfl
    rw [he]
    by_cases hef : eff ⟨dst, op, ty, pos, after, none⟩ = true
    · rw [if_pos hef] at h1 ⊢
      rw [if_pos (by rfl)] at h1
      rw [if_pos (hy a ha)]
      exact h1
    · rw [if_neg hef] at h1 ⊢
      obtain ⟨v, hyi, h2⟩ := h1
      refine ⟨v, ?_, h2⟩
      rcases hyi with ⟨_, h3⟩ | ⟨h3, _⟩
      · exact .inl ⟨hy a ha, h3⟩
      · cases h3
def notB (v : Value) (b : Bool) : Bool :=
  match v with
  | .bool c => c != b
  | _ => true
theorem Ydf {m : Mode} {d : Nat} {op : Op} {ty : TypeId} {pos : String} {after : Array Edge} {j s : Nat} {b : Bool} {v : Value} {oj : Oper} (hj : ops[j]? = some oj) (hs : oj.dst = some s)
    (hv : get env s = some v) (hne : notB v b = true) (hn : Nat.ble (d + 1) n.k = true)
    (h : VL P m n B w0 ops Q rest ((d, undef) :: env) H) : VL P m n B w0 ops Q (⟨some d, op, ty, pos, after, some (j, b)⟩ :: rest) env H := by
  have hy : ∀ a : Act, Fits n a env → Region.wanted ⟨some d, op, ty, pos, after, some (j, b)⟩ (yielded ops a.tmps) = false := by
    intro a ha
    have hsl := ha.slot s _ hv
    cases v <;> simp [Region.wanted, yielded, hj, hs, hsl]
    rename_i c
    cases b <;> cases c <;> simp_all [notB]
  match m with
  | none => exact ⟨fun a ha w hw => wpList_skip (hy a ha) (h.run _ (ha.put (Nat.le_of_ble_eq_true hn) _) w hw)⟩
  | some none =>
    refine ⟨fun a ha => ?_⟩
    have h1 := h.run _ (ha.put (Nat.le_of_ble_eq_true hn) undef)
    unfold Yie wpQuiet at h1 ⊢
    simp only at h1 ⊢
    rw [if_neg (by rw [hy a ha]; simp)]
    unfold wpQuiet
    exact h1
  | some (some F) =>
    refine ⟨fun a ha w hw => ?_⟩
    have h1 := h.run _ (ha.put (Nat.le_of_ble_eq_true hn) undef) w hw
    by_cases hef : eff ⟨some d, op, ty, pos, after, some (j, b)⟩ = true
    · unfold Yt
      rw [if_pos hef, if_neg (by rw [hy a ha]; simp)]
      exact h1
    · exact OY (by simpa using hef) (.inr ⟨hy a ha, rfl⟩) h1
theorem YhV {id : Nat} {l : List Oper} (hq : (l.all fun o => !eff o) = true) (hm : P.follows .mixedOrders = true) (hB : Region.lexB .any l.toArray = true) (h : VL P (some none) n B w0 l.toArray Q l env H) : VC P n B w0 (.region id l.toArray true) Q env H :=
  YfS hm (by have := hq; exact hB) h
def Args (env : Env) : List Operand → List Value → Prop
  | [], [] => True
  | x :: l, v :: vs => evo env x = some v ∧ Args env l vs
  | _, _ => False
theorem Yin {env : Env} : Args env [] [] := trivial
theorem YgO {env : Env} {x : Operand} {v : Value} {l : List Operand} {vs : List Value} (h : evo env x = some v) (hl : Args env l vs) : Args env (x :: l) (v :: vs) := ⟨h, hl⟩
theorem Vq {n : Shp} {a : Act} {env : Env} (ha : Fits n a env) : ∀ (l : List Operand) (us : List Value), Args env l us → l.map a.eval = us
  | [], [], _ => rfl
  | [], _ :: _, h => h.elim
  | _ :: _, [], h => h.elim
  | x :: l, u :: us, h => by rw [List.map_cons, ha.eval h.1, Vq ha l us h.2]
theorem YeA {a : Act} (ha : Fits n a env) {d f : Nat} {args : List Operand} {tys : Array TypeId} {ty : TypeId} {pos : String} {after : Array Edge} {vs : List Value}
    (hc : ∀ xs w, (callFunc f xs).run P w = .ok (.enter f xs) w) (hargs : Args env args vs) (w : World) :
    (execOp a.eval ⟨some d, .call ⟨.value (.func f), args.toArray, tys⟩, ty, pos, after, none⟩).run P w = .ok (.enter f vs.toArray) w := by
  have hmap : args.toArray.map a.eval = vs.toArray := by rw [List.map_toArray, Vq ha _ _ hargs]
  simp only [execOp, resolve, Act.eval, hmap, Deferred.ofValue, Sem.run_bind, Sem.run_pure, Result.andThen_ok, invoke]
  simpa using hc (vs.toArray) w
theorem Yo {d f : Nat} {args : List Operand} {tys : Array TypeId} {ty : TypeId} {pos : String} {after : Array Edge} {vs : List Value} (Φ : Value → List HP → Prop)
    (hc : ∀ xs w, (callFunc f xs).run P w = .ok (.enter f xs) w) (hargs : Args env args vs) (hn : Nat.ble (d + 1) n.k = true)
    (hcall : ∀ w, St B w0 H w → Calls P f vs.toArray w (Post B w0 Φ))
    (h : ∀ v H', Φ v H' → VL P none n B w0 ops Q rest ((d, v) :: env) H') :
    VL P none n B w0 ops Q (⟨some d, .call ⟨.value (.func f), args.toArray, tys⟩, ty, pos, after, none⟩ :: rest) env H := by
  refine ⟨fun a ha w hw => wpList_plain rfl fun K hK => ?_⟩
  unfold Oper.wp
  rw [YeA ha hc hargs, Oper.upon_enter]
  refine (hcall w hw).mono ?_
  rintro e w' ⟨v, H', rfl, hst, hΦ⟩
  exact hK _ _ ((h v H' hΦ).run _ (ha.put (Nat.le_of_ble_eq_true hn) v) _ hst)
theorem Ya {d f : Nat} {args : List Operand} {tys : Array TypeId} {ty : TypeId} {pos : String} {after : Array Edge} {vs : List Value} {v : Value}
    (hc : ∀ xs w, (callFunc f xs).run P w = .ok (.enter f xs) w) (hargs : Args env args vs) (hn : Nat.ble (d + 1) n.k = true)
    (hcall : ∀ w, St B w0 H w → Calls P f vs.toArray w (Post B w0 fun u K => u = v ∧ K = H))
    (h : VL P none n B w0 ops Q rest ((d, v) :: env) H) :
    VL P none n B w0 ops Q (⟨some d, .call ⟨.value (.func f), args.toArray, tys⟩, ty, pos, after, none⟩ :: rest) env H :=
  Yo _ hc hargs hn hcall (by rintro _ _ ⟨rfl, rfl⟩; exact h)
theorem Yb {d f : Nat} {args : List Operand} {tys : Array TypeId} {ty : TypeId} {pos : String} {after : Array Edge} {vs : List Value} {v : Value}
    (hc : ∀ xs w, (callFunc f xs).run P w = .ok (.enter f xs) w) (hargs : Args env args vs) (hn : Nat.ble (d + 1) n.k = true)
    (hcall : ∀ w, St B w0 H w → Calls P f vs.toArray w (Post B w0 fun u K => u = v ∧ K = H))
    (h : VL P (some none) n B w0 ops Q rest ((d, v) :: env) H) :
    VL P (some none) n B w0 ops Q (⟨some d, .call ⟨.value (.func f), args.toArray, tys⟩, ty, pos, after, none⟩ :: rest) env H := by
  refine ⟨fun a ha => wpQuiet_step fun K hK => ?_⟩
  rw [if_pos (by simp [Region.wanted])]
  refine ⟨v, fun w hw => ?_, hK _ ?_⟩
  · unfold Oper.quietAt
    rw [YeA ha hc hargs]
    refine ⟨rfl, (hcall w hw).mono ?_⟩
    rintro e w' ⟨_, _, rfl, hst, rfl, rfl⟩
    exact ⟨rfl, hst⟩
  · exact h.run _ (ha.put (Nat.le_of_ble_eq_true hn) v)
def ancB (ops : Array Oper) : Nat → Nat → Nat → Bool
  | 0, _, _ => false
  | f + 1, j, i => match ops[j]? with
    | some oj => oj.after.any fun e => Region.binds .any e && (e.on == i || ancB ops f e.on i)
    | none => false
def Closed (ops : Array Oper) (listed : Array Bool) : Prop :=
  ∀ j oj, ops[j]? = some oj → listed.getD j false = true → ∀ e ∈ oj.after, Region.binds .any e = true → listed.getD e.on false = true
theorem Closed.set {ops : Array Oper} {listed : Array Bool} (h : Closed ops listed) {j : Nat} (hj : j ∈ Region.ready .any ops listed) : Closed ops (listed.setIfInBounds j true) := by
  obtain ⟨_, oj, hoj, hall⟩ := mem_ready.1 hj
  intro k ok hk hl e he hb
  by_cases hkj : j = k
  · subst hkj
    obtain rfl : ok = oj := Option.some.inj (hk.symm.trans hoj)
    exact getD_set_true (hall e he hb)
  · rw [getD_set_ne false hkj] at hl
    exact getD_set_true (h k ok hk hl e he hb)
theorem UU {ops : Array Oper} {listed : Array Bool} (h : Closed ops listed) : ∀ (f j i : Nat), (∀ oj, ops[j]? = some oj → ∀ e ∈ oj.after, Region.binds .any e = true → listed.getD e.on false = true) → ancB ops f j i = true → listed.getD i false = true
  | 0, _, _, _, ha => by cases ha
  | f + 1, j, i, hp, ha => by
    unfold ancB at ha
    cases ho : ops[j]? with
    | none => rw [ho] at ha; cases ha
    | some oj =>
      rw [ho] at ha
      obtain ⟨e, he, hb⟩ := Array.any_eq_true'.1 ha
      simp only [Bool.and_eq_true, Bool.or_eq_true, beq_iff_eq] at hb
      have h1 := hp oj ho e he hb.1
      rcases hb.2 with h2 | h2
      · rw [← h2]; exact h1
      · exact UU h f e.on i (fun ok hk => h e.on ok hk h1) h2
def X3 (P : Program) (ops : Array Oper) (Q : Exit → Act → World → Prop) (S : World → Prop) (last : List Nat) : Nat → Array Bool → Act → World → Prop
  | 0, listed, a, w => Region.ready .any ops listed = [] ∧ Q .normal a w
  | fuel + 1, listed, a, w =>
    (Region.ready .any ops listed = [] → Q .normal a w) ∧
    ∀ i ∈ Region.ready .any ops listed, wpOp P ops Q i (fun a' w' => (last.contains i = false → S w') ∧ X3 P ops Q S last fuel (listed.setIfInBounds i true) a' w') a w
theorem X4 {S : World → Prop} {last : List Nat} : ∀ (fuel : Nat) (listed : Array Bool) (a : Act) (w : World), X3 P ops Q S last fuel listed a w → wpAny P .any ops Q fuel listed a w
  | 0, _, _, _, h => h
  | fuel + 1, _, _, _, h => ⟨h.1, fun i hi => wpOp_mono (fun a' w' h' => X4 fuel _ a' w' h'.2) (h.2 i hi)⟩
theorem Zr {S : World → Prop} {last : List Nat} {i : Nat} {oi : Oper} {v : Value} (hi : ops[i]? = some oi) (hsel : ∀ (j : Nat) (o : Oper) cs b, ops[j]? = some o → o.op ≠ .select cs b)
    (hQ : ∀ c (a : Act) (w : World), ¬ Q (.panic c) a w) (hlast : ∀ j, last.contains j = true → ∃ f, ancB ops f j i = true) (hil : last.contains i = false) :
    ∀ (fuel : Nat) (listed : Array Bool) (a : Act) (w : World), Closed ops listed →
      (∀ j oj, ops[j]? = some oj → j ≠ i → listed.getD j true = false → (∀ e ∈ oj.after, Region.binds .any e = true → e.on ≠ i) → oi.apart ops oj = true) →
      i ∈ Region.ready .any ops listed → YieldsIf P ops S oi v a → S w →
      X3 P ops Q S last fuel (listed.setIfInBounds i true) (a.put oi.dst v) w → X3 P ops Q S last (fuel + 1) listed a w := by
  intro fuel
  induction fuel with
  | zero =>
    intro listed a w _ _ hr hy hS H
    refine ⟨fun h => (by rw [h] at hr; cases hr), fun j hj => ?_⟩
    by_cases hji : j = i
    · subst hji; exact hy.wpOp hi hS ⟨fun _ => hS, H⟩
    · have := ready_mono hj hji
      rw [H.1] at this
      cases this
  | succ fuel ih =>
    intro listed a w hcl hfree hr hy hS H
    refine ⟨fun h => (by rw [h] at hr; cases hr), fun j hj => ?_⟩
    by_cases hji : j = i
    · subst hji; exact hy.wpOp hi hS ⟨fun _ => hS, H⟩
    · have h1 := H.2 j (ready_mono hj hji)
      obtain ⟨hjun, oj, hoj, hall⟩ := mem_ready.1 hj
      have hun := (mem_ready.1 hr).1
      have hun' : listed.getD i false = false := by
        rcases Nat.lt_or_ge i listed.size with h' | h'
        · simp [h'] at hun ⊢; exact hun
        · simp [Array.getElem?_eq_none h'] at hun
      have hnl : last.contains j = false := by
        cases hc : last.contains j with
        | false => rfl
        | true =>
          obtain ⟨f, hf⟩ := hlast j hc
          have := UU hcl f j i (fun ok hk e he hb => by
            obtain rfl : ok = oj := Option.some.inj (hk.symm.trans hoj)
            exact hall e he hb) hf
          rw [hun'] at this
          cases this
      have hnot : ∀ e ∈ oj.after, Region.binds .any e = true → e.on ≠ i := fun e he hb heq => by
        have h2 := hall e he hb
        rw [heq, hun'] at h2
        cases h2
      have h2 := wpOp_putIf hoj (hfree j oj hoj hji hjun hnot) (fun cs b => hsel i oi cs b hi) (fun cs b => hsel j oj cs b hoj) (fun c a w h => (hQ c _ w h).elim) hy h1
      have hfree' : ∀ k ok, ops[k]? = some ok → k ≠ i → (listed.setIfInBounds j true).getD k true = false →
          (∀ e ∈ ok.after, Region.binds .any e = true → e.on ≠ i) → oi.apart ops ok = true := fun k ok hk hki hu hno => by
        refine hfree k ok hk hki ?_ hno
        by_cases hjk : j = k
        · subst hjk; exact hjun
        · rw [getD_set_ne true hjk] at hu; exact hu
      refine wpOp_mono (fun a' w' h3 => ⟨fun _ => h3.2.1 hnl, ih (listed.setIfInBounds j true) a' w' (hcl.set hj) hfree' (ready_mono hr (Ne.symm hji)) h3.1 (h3.2.1 hnl) ?_⟩) h2
      rw [Array.setIfInBounds_comm _ _ hji]
      exact h3.2.2
def Vu (ops : Array Oper) : List Nat → Array Bool → Bool
  | [], listed => (Region.ready .any ops listed).isEmpty
  | i :: rest, listed =>
    (match ops[i]? with
      | some o => if eff o then decide (Region.ready .any ops listed = [i]) else (Region.ready .any ops listed).contains i && Region.free .any ops listed i
      | none => false) && Vu ops rest (listed.setIfInBounds i true)
def YbW (ops : Array Oper) (last : List Nat) : Bool :=
  last.all fun j => (match ops[j]? with | some o => eff o | none => false) && (List.range ops.size).all fun i => (match ops[i]? with | some o => eff o | none => false) || ancB ops ops.size j i
def nthO : List Oper → Nat → Oper
  | [], _ => default
  | o :: _, 0 => o
  | _ :: l, i + 1 => nthO l i
theorem Qf : ∀ (l : List Oper) (i : Nat), nthO l i = l.getD i default
  | [], i => by simp [nthO]
  | o :: l, 0 => by simp [nthO]
  | o :: l, i + 1 => by simp [nthO, Qf l i]
def Yj (l : List Oper) : List Nat → List Oper
  | [] => []
  | i :: r => nthO l i :: Yj l r
def X5 (P : Program) (ops : Array Oper) (Q : Exit → Act → World → Prop) (l : List Oper) : Exit → Act → World → Prop
  | .normal, a, w => wpList P ops Q l a w
  | e, a, w => Q e a w
theorem Oper.wp_mono_noQ' {o : Oper} {a : Act} {w : World} {K : Act → World → Prop} {l : List Oper} (_h1 : ∀ c (a : Act) (w : World), False → ¬ Q (.panic c) a w) (h : o.wp P a w K (X5 P ops Q l)) : o.wp P a w K Q := by
  unfold Oper.wp at h ⊢
  generalize (execOp a.eval o).run P w = r at *
  cases r with
  | ok nx w' =>
    cases nx <;> simp only [Oper.upon] at h ⊢ <;> first
      | exact h
      | (refine Calls.mono h fun e w'' he => ?_
         cases e with
         | returned u => exact he
         | panicked c => exact he
         | outgrown => obtain ⟨a', w', h'⟩ := he; exact ⟨a', w', h'⟩)
  | halt x w' =>
    cases x <;> simp only [Oper.upon] at h ⊢
    exact h
theorem Vn {last : List Nat} (h : YbW ops last = true) : (∀ j, last.contains j = true → ∃ o, ops[j]? = some o ∧ eff o = true) ∧ ∀ i oi, ops[i]? = some oi → eff oi = false → ∀ j, last.contains j = true → ∃ f, ancB ops f j i = true := by
  refine ⟨fun j hj => ?_, fun i oi hi he j hj => ?_⟩
  · have h1 := List.all_eq_true.1 h j (by simpa using hj)
    simp only [Bool.and_eq_true] at h1
    cases ho : ops[j]? with
    | none => rw [ho] at h1; cases h1.1
    | some o => rw [ho] at h1; exact ⟨o, rfl, h1.1⟩
  · have h1 := List.all_eq_true.1 h j (by simpa using hj)
    simp only [Bool.and_eq_true] at h1
    have hlt : i < ops.size := (Array.getElem?_eq_some_iff.1 hi).1
    have h2 := List.all_eq_true.1 h1.2 i (List.mem_range.2 hlt)
    rw [hi] at h2
    simp only [he, Bool.false_or] at h2
    exact ⟨_, h2⟩
theorem VB {S : World → Prop} {last : List Nat} (l : List Oper) (hl : ops = l.toArray) (hef : ∀ j, last.contains j = true → ∃ o, ops[j]? = some o ∧ eff o = true) (hlo : ¬ LetsOut Q) :
    ∀ (o2 : List Nat) (listed : Array Bool) (a : Act) (w : World), (∀ j ∈ o2, last.contains j = true) → Vu ops o2 listed = true → wpList P ops Q (Yj l o2) a w → X3 P ops Q S last o2.length listed a w
  | [], listed, a, w, _, hB, h => ⟨by simpa [Vu] using hB, h⟩
  | i :: rest, listed, a, w, hin, hB, h => by
    simp only [Vu, Bool.and_eq_true] at hB
    obtain ⟨h1, h2⟩ := hB
    obtain ⟨o, ho, he⟩ := hef i (hin i (by simp))
    rw [ho] at h1
    simp only [he, if_true, decide_eq_true_eq] at h1
    have hget : nthO l i = o := by
      rw [Qf]
      rw [hl] at ho
      simp only [List.getElem?_toArray] at ho
      simp [List.getD, ho]
    simp only [Yj, hget] at h
    unfold wpList at h
    refine ⟨fun h0 => (by rw [h1] at h0; cases h0), fun k hk => ?_⟩
    rw [h1] at hk
    obtain rfl : k = i := by simpa using hk
    unfold wpOp
    simp only [ho]
    have hc : last.contains k = true := hin k (by simp)
    by_cases hw : Region.wanted o (yielded ops a.tmps) = true
    · rw [if_pos hw] at h ⊢
      rcases h with h | ⟨_, h⟩
      · exact .inl (Oper.wp_mono (fun a' w' h' => ⟨fun hf => (by rw [hc] at hf; cases hf), VB l hl hef hlo rest _ a' w' (fun j hj => hin j (by simp [hj])) h2 h'⟩) h)
      · exact (hlo h).elim
    · rw [if_neg hw] at h ⊢
      exact ⟨fun hf => (by rw [hc] at hf; cases hf), VB l hl hef hlo rest _ _ w (fun j hj => hin j (by simp [hj])) h2 h⟩
theorem Jn {S : World → Prop} {last : List Nat} (hs : Region.noSelect ops = true) (hQ : ∀ c (a : Act) (w : World), ¬ Q (.panic c) a w) (hlo : ¬ LetsOut Q) (l : List Oper) (hl : ops = l.toArray) (hlast : YbW ops last = true) :
    ∀ (o1 : List Nat) (listed : Array Bool) (a : Act) (w : World), Closed ops listed → (∀ j ∈ o1, last.contains j = false) → Vu ops (o1 ++ last) listed = true → S w → Yt P ops (X5 P ops Q (Yj l last)) S (Yj l o1) a w →
      X3 P ops Q S last (o1 ++ last).length listed a w
  | [], listed, a, w, _, _, hB, _, h => VB l hl (Vn hlast).1 hlo last listed a w (fun j hj => by simpa using hj) hB h
  | i :: rest, listed, a, w, hcl, hno, hB, hS, h => by
    simp only [List.cons_append, Vu, Bool.and_eq_true] at hB
    obtain ⟨h1, h2⟩ := hB
    have hno' : ∀ j ∈ rest, last.contains j = false := fun j hj => hno j (by simp [hj])
    cases ho : ops[i]? with
    | none => rw [ho] at h1; cases h1
    | some o =>
      rw [ho] at h1
      have hget : nthO l i = o := by
        rw [Qf]
        rw [hl] at ho
        simp only [List.getElem?_toArray] at ho
        simp [List.getD, ho]
      simp only [Yj, hget] at h
      by_cases he : eff o = true
      · simp only [he, if_true, decide_eq_true_eq] at h1
        unfold Yt at h
        rw [if_pos he] at h
        refine ⟨fun h0 => (by rw [h1] at h0; cases h0), fun k hk => ?_⟩
        have hk' := hk
        rw [h1] at hk
        obtain rfl : k = i := by simpa using hk
        unfold wpOp
        simp only [ho]
        by_cases hw : Region.wanted o (yielded ops a.tmps) = true
        · rw [if_pos hw] at h ⊢
          refine .inl (Oper.wp_mono_noQ' (fun c a w h => by cases h) (Oper.wp_mono (fun a' w' h' => ⟨fun _ => h'.1, Jn hs hQ hlo l hl hlast rest _ a' w' (hcl.set hk') hno' h2 h'.1 h'.2⟩) h))
        · rw [if_neg hw] at h ⊢
          exact ⟨fun _ => hS, Jn hs hQ hlo l hl hlast rest _ _ w (hcl.set hk') hno' h2 hS h⟩
      · simp only [he] at h1
        simp only [Bool.false_eq_true, if_false, Bool.and_eq_true] at h1
        unfold Yt at h
        rw [if_neg he] at h
        obtain ⟨v, hy, h3⟩ := h
        have hr : i ∈ Region.ready .any ops listed := by simpa using h1.1
        exact Zr ho (Region.noSelect_spec hs) hQ ((Vn hlast).2 i o ho (by simpa using he)) (hno i (by simp)) _ listed a w hcl (Region.free_spec ho h1.2) hr hy hS (Jn hs hQ hlo l hl hlast rest _ _ w (hcl.set hr) hno' h2 hS h3)
def Split : List Bool → List HP → List HP → List HP → Prop
  | [], L, Hc, F => Hc = [] ∧ F = L
  | true :: bs, A :: L, C :: Hc, F => C = A ∧ Split bs L Hc F
  | false :: bs, A :: L, Hc, C :: F => C = A ∧ Split bs L Hc F
  | _, _, _, _ => False
theorem YhG {L : List HP} : Split [] L [] L := ⟨rfl, rfl⟩
theorem Ykl {bs : List Bool} {A : HP} {L Hc F : List HP} (h : Split bs L Hc F) : Split (true :: bs) (A :: L) (A :: Hc) F := ⟨rfl, h⟩
theorem Ykk {bs : List Bool} {A : HP} {L Hc F : List HP} (h : Split bs L Hc F) : Split (false :: bs) (A :: L) Hc (A :: F) := by
  cases Hc <;> exact ⟨rfl, h⟩
theorem Yen (A : HP) : ∀ (L M : List HP), Perm (A :: (L ++ M)) (L ++ A :: M)
  | [], _ => Perm.refl _
  | B :: L, M => (Perm.swap A B (L ++ M)).trans ((Yen A L M).cons B)
theorem Xj : ∀ {bs : List Bool} {L Hc F : List HP}, Split bs L Hc F → Perm L (Hc ++ F)
  | [], L, Hc, F, h => by obtain ⟨rfl, rfl⟩ := h; exact Perm.refl _
  | true :: bs, A :: L, C :: Hc, F, h => by obtain ⟨rfl, h⟩ := h; exact (Xj h).cons C
  | false :: bs, A :: L, [], C :: F, h => by
    obtain ⟨rfl, h⟩ : C = A ∧ Split bs L [] F := h
    exact (Xj h).cons C
  | false :: bs, A :: L, D :: Hc, C :: F, h => by
    obtain ⟨rfl, h⟩ : C = A ∧ Split bs L (D :: Hc) F := h
    exact ((Xj h).cons C).trans (Yen C (D :: Hc) F)
  | true :: _, [], _, _, h => h.elim
  | true :: _, _ :: _, [], _, h => h.elim
  | false :: _, [], _, _, h => by cases h
  | false :: _, _ :: _, [], [], h => by cases h
  | false :: _, _ :: _, _ :: _, [], h => by cases h
theorem St.prefix_ {B : Nat} {w0 w : World} : ∀ {L F : List HP}, St B w0 (L ++ F) w → St B w0 L w := by
  intro L F h
  refine ⟨h.below, h.le, ?_⟩
  have key : ∀ (L : List HP) (S : Nat → Prop), sepL (L ++ F) S w → sepL L S w := by
    intro L
    induction L with
    | nil => intros; trivial
    | cons A L ih =>
      intro S hh
      obtain ⟨S1, S2, h1, h2, h3, h4, h5⟩ := hh
      exact ⟨S1, S2, h1, h2, h3, h4, ih S2 h5⟩
  exact key L _ h.sep
def Only (Q : Exit → Act → World → Prop) : Exit → Act → World → Prop
  | .normal, a, w => Q .normal a w
  | _, _, _ => False
theorem Xz (ops : Array Oper) (k : Nat) : Closed ops (Array.replicate k false) := by
  intro j oj _ hl
  rcases Nat.lt_or_ge j k with h | h
  · simp [h] at hl
  · simp [h] at hl
theorem YZ {id : Nat} {l : List Oper} (o1 last : List Nat) (mask : List Bool) {Hc F : List HP} (hm : P.follows .mixedOrders = true)
    (hB : (Region.noSelect l.toArray && decide ((o1 ++ last).length = l.toArray.size) && YbW l.toArray last && (o1.all fun j => !last.contains j) && Vu l.toArray (o1 ++ last) (Array.replicate l.toArray.size false)) = true)
    (hsp : Split mask H Hc F) {l1 l2 : List Oper} (hl1 : Yj l o1 = l1) (hl2 : Yj l last = l2) (h : VL P (some (some F)) n B w0 l.toArray (X5 P l.toArray (Only Q) l2) l1 env Hc) : VC P n B w0 (.region id l.toArray true) Q env H := by
  simp only [Bool.and_eq_true, decide_eq_true_eq] at hB
  obtain ⟨⟨⟨⟨h1, h2⟩, h3⟩, h4⟩, h5⟩ := hB
  refine ⟨fun a w ha hw => Zs (Q := Only Q) ?_ fun e a w h => by cases e <;> first | exact h | cases h⟩
  have hst : St B w0 (Hc ++ F) w.drew := (hw.perm (Xj hsp)).drew
  have hr : Yt P l.toArray (X5 P l.toArray (Only Q) l2) (St B w0 Hc) l1 a w.drew := h.run a ha w.drew hst
  rw [← hl1, ← hl2] at hr
  have := Jn (S := St B w0 Hc) h1 (fun c a w h => h) (by rintro ⟨_, _, h⟩; exact h) l rfl h3 o1 _ a w.drew (Xz _ _) (fun j hj => by simpa using List.all_eq_true.1 h4 j hj) h5 hst.prefix_ hr
  rw [h2] at this
  exact JK hm (X4 _ _ _ _ this)
def Yc6 (P : Program) (B : Nat) (w0 : World) (ops : Array Oper) (Q : Exit → Act → World → Prop) (Hc : List HP) (rest : List Oper) : Exit → Act → World → Prop
  | .normal, a, w => St B w0 Hc w ∧ Yt P ops Q (St B w0 Hc) rest a w
  | _, _, _ => False
theorem Oper.wp_mono_noQ {o : Oper} {a : Act} {w : World} {K : Act → World → Prop} {Q1 Q2 : Exit → Act → World → Prop} (h1 : ∀ c a w, ¬ Q1 (.panic c) a w) (h2 : ¬ LetsOut Q1) (h : o.wp P a w K Q1) : o.wp P a w K Q2 := by
  unfold Oper.wp at h ⊢
  generalize (execOp a.eval o).run P w = r at *
  cases r with
  | ok nx w' =>
    cases nx <;> simp only [Oper.upon] at h ⊢ <;> first
      | exact h
      | (refine Calls.mono h fun e w'' he => ?_
         cases e with
         | returned u => exact he
         | panicked c => exact (h1 _ _ _ he).elim
         | outgrown => exact (h2 he).elim)
  | halt x w' =>
    cases x <;> simp only [Oper.upon] at h ⊢
    exact (h1 _ _ _ h).elim
def App : List HP → List HP → List HP → Prop
  | [], F, HF => HF = F
  | A :: L, F, B :: HF => B = A ∧ App L F HF
  | _, _, _ => False
theorem YjN {F : List HP} : App [] F F := rfl
theorem Yim {A : HP} {L F HF : List HP} (h : App L F HF) : App (A :: L) F (A :: HF) := ⟨rfl, h⟩
theorem JL : ∀ {L F HF : List HP}, App L F HF → HF = L ++ F
  | [], _, _, h => h
  | A :: L, F, B :: HF, h => by obtain ⟨rfl, h⟩ := h; rw [JL h]; rfl
  | _ :: _, _, [], h => h.elim
theorem Yjz {o : Oper} {F HF : List HP} (he : eff o = true) (hg : o.guard = none) (happ : App H F HF) (h : VL P none n B w0 ops (Yc6 P B w0 ops Q H rest) [o] env HF) : VL P (some (some F)) n B w0 ops Q (o :: rest) env H := by
  refine ⟨fun a ha w hw => ?_⟩
  rw [← JL happ] at hw
  have h1 : wpList P ops (Yc6 P B w0 ops Q H rest) [o] a w := h.run a ha w hw
  unfold Yt
  rw [if_pos he, if_pos (by simp [Region.wanted, hg])]
  unfold wpList at h1
  rw [if_pos (by simp [Region.wanted, hg])] at h1
  have hlo : ¬ LetsOut (Yc6 P B w0 ops Q H rest) := by rintro ⟨_, _, h⟩; exact h
  rcases h1 with h1 | ⟨_, h2⟩
  · refine Oper.wp_mono_noQ (fun c a w h => h) hlo (Oper.wp_mono (fun a' w' h' => ?_) h1)
    exact h'
  · exact (hlo h2).elim
def Rem (A : HP) (L M : List HP) : Prop := Perm L (A :: M)
theorem Yf {A : HP} {L : List HP} : Rem A (A :: L) L := Perm.refl _
theorem Ye {A X : HP} {L M : List HP} (h : Rem A L M) : Rem A (X :: L) (X :: M) := (Perm.cons X h).trans (Perm.swap X A M)
def Pull (Hc L F : List HP) : Prop := Perm L (Hc ++ F)
theorem Yh {L : List HP} : Pull [] L L := Perm.refl _
theorem Yg {A : HP} {Hc L M F : List HP} (h : Rem A L M) (h2 : Pull Hc M F) : Pull (A :: Hc) L F := Perm.trans h (Perm.cons A h2)
theorem Yk {F H' : List HP} {Hc : List HP} (hp : Pull Hc H' F) (h : VL P (some (some F)) n B w0 ops Q rest env Hc) : VQ n B w0 (Yc6 P B w0 ops Q Hc rest) .normal env H' :=
  ⟨fun a w ha hw => ⟨(hw.perm hp).prefix_, h.run a ha w (hw.perm hp)⟩⟩
theorem Ys {F HF : List HP} (happ : App H F HF) (h : VQ n B w0 Q .normal env HF) : VL P (some (some F)) n B w0 ops Q [] env H :=
  ⟨fun a ha w hw => by rw [← JL happ] at hw; exact h.run a w ha hw⟩
theorem Yih {l : List Oper} (h : VL P none n B w0 ops Q l env H) : VQ n B w0 (X5 P ops Q l) .normal env H := ⟨fun a w ha hw => h.run a ha w hw⟩
theorem YjL (h : VQ n B w0 Q .normal env H) : VQ n B w0 (Only Q) .normal env H := ⟨fun a w ha hw => h.run a w ha hw⟩
end
open Go.RowKit
def Qk (P : Program) (t : TypeId) : Bool :=
  match P.underlying t with
  | some (.struct _) | some (.array _ _) | none => false
  | some _ => true
def aggT (P : Program) (t : TypeId) : Option Nat :=
  match P.underlying t with
  | some (.struct _) | some (.array _ _) => (P.info? t).map (·.size)
  | _ => none
def V7 (P : Program) (s f : Nat) : Option Nat :=
  match P.underlying s with
  | some (.struct fs) => (fs[f]?).bind fun fld => (P.info? fld.type).bind fun i => if i.size = 0 then none else some fld.offset
  | _ => none
def YaL (P : Program) (t : TypeId) : Option (Nat × Nat × Nat) :=
  match P.underlying t with
  | some (.slice e) => (P.info? e).bind fun i => i.zero.bind fun z => if z.cells.size = i.size ∧ 0 < i.size ∧ 0 < i.bytes then some (e, i.size, i.bytes) else none
  | _ => none
def QD (P : Program) (t : TypeId) : Option (Nat × Nat × Nat) :=
  match P.underlying t with
  | some (.array n e) => (P.info? e).map fun i => (n, e, i.size)
  | _ => none
def intT (P : Program) (t : TypeId) : Option IntKind :=
  match P.underlying t with
  | some (.int k) => some k
  | _ => none
def Yc1 (P : Program) (t : TypeId) : Bool :=
  match P.underlying t with
  | some .string => true
  | _ => false
def oneT (P : Program) (t : TypeId) : Bool := Qk P t && ((P.info? t).map (·.size)) == some 1
def look {β : Type} : List (Nat × β) → Nat → Option β
  | [], _ => none
  | (s, v) :: l, t => if s = t then some v else look l t
theorem ZP {β : Type} : ∀ {l : List (Nat × β)} {t : Nat} {v : β}, look l t = some v → (t, v) ∈ l
  | (s, u) :: l, t, v, h => by
    by_cases e : s = t
    · subst e; rw [look, if_pos rfl] at h; cases h; exact List.mem_cons_self
    · rw [look, if_neg e] at h; exact List.mem_cons_of_mem _ (ZP h)
def Ud : List (Nat × Nat × Nat) → Nat → Nat → Option Nat
  | [], _, _ => none
  | (s, f, v) :: l, t, g => if s = t then (if f = g then some v else Ud l t g) else Ud l t g
theorem W3 : ∀ {l : List (Nat × Nat × Nat)} {t g v : Nat}, Ud l t g = some v → (t, g, v) ∈ l
  | (s, f, u) :: l, t, g, v, h => by
    by_cases e : s = t
    · subst e
      rw [Ud, if_pos rfl] at h
      by_cases e' : f = g
      · subst e'; rw [if_pos rfl] at h; cases h; exact List.mem_cons_self
      · rw [if_neg e'] at h; exact List.mem_cons_of_mem _ (W3 h)
    · rw [Ud, if_neg e] at h; exact List.mem_cons_of_mem _ (W3 h)
structure Tab (P : Program) where
  sc : List (Nat × Unit)
  ag : List (Nat × Nat)
  fo : List (Nat × Nat × Nat)
  sl : List (Nat × (Nat × Nat × Nat))
  ar : List (Nat × (Nat × Nat × Nat))
  ik : List (Nat × IntKind)
  st : List (Nat × Unit)
  sc_ok : (sc.all fun x => oneT P x.1) = true
  ag_ok : (ag.all fun x => aggT P x.1 == some x.2) = true
  fo_ok : (fo.all fun x => V7 P x.1 x.2.1 == some x.2.2) = true
  sl_ok : (sl.all fun x => YaL P x.1 == some x.2) = true
  ar_ok : (ar.all fun x => QD P x.1 == some x.2) = true
  ik_ok : (ik.all fun x => decide (intT P x.1 = some x.2)) = true
  st_ok : (st.all fun x => Yc1 P x.1) = true
section
variable {P : Program} (T : Tab P)
theorem Tab.scal {t : Nat} (h : look T.sc t = some ()) : Qk P t = true ∧ (P.info? t).map (·.size) = some 1 := by
  have := List.all_eq_true.1 T.sc_ok _ (ZP h)
  simpa [oneT] using this
theorem Tab.aggs {t k : Nat} (h : look T.ag t = some k) : aggT P t = some k := by simpa using List.all_eq_true.1 T.ag_ok _ (ZP h)
theorem Tab.offs {s f k : Nat} (h : Ud T.fo s f = some k) : V7 P s f = some k := by simpa using List.all_eq_true.1 T.fo_ok _ (W3 h)
theorem Tab.slic {t e k b : Nat} (h : look T.sl t = some (e, k, b)) : YaL P t = some (e, k, b) := by simpa using List.all_eq_true.1 T.sl_ok _ (ZP h)
theorem Tab.arra {t m e k : Nat} (h : look T.ar t = some (m, e, k)) : QD P t = some (m, e, k) := by simpa using List.all_eq_true.1 T.ar_ok _ (ZP h)
theorem Tab.strs {t : Nat} (h : look T.st t = some ()) : P.underlying t = some .string := by
  have := List.all_eq_true.1 T.st_ok _ (ZP h)
  simp only [Yc1] at this
  split at this <;> simp_all
theorem Tab.ints {t : Nat} {k : IntKind} (h : look T.ik t = some k) : intT P t = some k := by simpa using List.all_eq_true.1 T.ik_ok _ (ZP h)
end
theorem YbR {P : Program} {t : TypeId} {k : IntKind} (h : intT P t = some k) : P.underlying t = some (.int k) := by
  unfold intT at h
  split at h
  · cases h; assumption
  · cases h
theorem XW {P : Program} {t : TypeId} (h : Qk P t = true) (w : World) : (isAgg t).run P w = .ok false w := by
  unfold Qk at h
  cases hu : P.underlying t with
  | none => rw [hu] at h; cases h
  | some d => rw [hu] at h; cases d <;> first | (simp [isAgg, run_underlying hu]; done) | cases h
theorem XE {P : Program} {t : TypeId} {k : Nat} (h : aggT P t = some k) (w : World) : (isAgg t).run P w = .ok true w := by
  unfold aggT at h
  cases hu : P.underlying t with
  | none => rw [hu] at h; cases h
  | some d => rw [hu] at h; cases d <;> first | (simp [isAgg, run_underlying hu]; done) | cases h
theorem Xr {P : Program} {t : TypeId} {k : Nat} (h : (P.info? t).map (·.size) = some k) (w : World) : (sizeOf t).run P w = .ok k w := by
  cases hi : P.info? t with
  | none => rw [hi] at h; cases h
  | some i => rw [hi] at h; simp at h; subst h; simp [sizeOf, typeInfo, hi]
theorem ZA {P : Program} {t : TypeId} {k : Nat} (h : aggT P t = some k) : (P.info? t).map (·.size) = some k := by
  unfold aggT at h
  split at h <;> first | exact h | cases h
def nth : List Value → Nat → Option Value
  | [], _ => none
  | v :: _, 0 => some v
  | _ :: l, i + 1 => nth l i
theorem Yfs : ∀ (l : List Value) (i : Nat), nth l i = l[i]?
  | [], i => by simp [nth]
  | v :: l, 0 => by simp [nth]
  | v :: l, i + 1 => by simp [nth, Yfs l i]
theorem YcL (cs : Array Value) (i : Nat) : nth cs.toList i = cs[i]? := by rw [Yfs]; simp
section
variable {P : Program} {m : Mode} {n : Shp} {B : Nat} {w0 : World} {Q : Exit → Act → World → Prop} {env : Env} {H : List HP} {ops : Array Oper} {rest : List Oper}
variable {d : Nat} {ty : TypeId} {pos : String} {after : Array Edge}
theorem YjD {x : Operand} {v : Value} (hx : evo env x = some v) (hn : Nat.ble (d + 1) n.k = true) (h : VL P m n B w0 ops Q rest ((d, v) :: env) H) :
    VL P m n B w0 ops Q (⟨some d, .move x, ty, pos, after, none⟩ :: rest) env H :=
  Yw rfl rfl hn rfl (fun a w ha _ => by simp [execOp, ha.eval hx]) h
theorem YgF {x : Operand} {v : Value} (hx : evo env x = some v) (hn : Nat.ble (d + 1) n.k = true) (h : VL P m n B w0 ops Q rest ((d, v) :: env) H) :
    VL P m n B w0 ops Q (⟨some d, .assign x, ty, pos, after, none⟩ :: rest) env H :=
  Yw rfl rfl hn rfl (fun a w ha _ => by simp [execOp, ha.eval hx]) h
theorem Ycl {c x y : Operand} {v : Value} (hc : evo env c = some (.bool true)) (hx : evo env x = some v) (hn : Nat.ble (d + 1) n.k = true) (h : VL P m n B w0 ops Q rest ((d, v) :: env) H) :
    VL P m n B w0 ops Q (⟨some d, .pick c x y, ty, pos, after, none⟩ :: rest) env H :=
  Yw rfl rfl hn rfl (fun a w ha _ => by simp [execOp, ha.eval hx, ha.eval hc, asBool]) h
theorem Ya1 {c x y : Operand} {v : Value} (hc : evo env c = some (.bool false)) (hx : evo env y = some v) (hn : Nat.ble (d + 1) n.k = true) (h : VL P m n B w0 ops Q rest ((d, v) :: env) H) :
    VL P m n B w0 ops Q (⟨some d, .pick c x y, ty, pos, after, none⟩ :: rest) env H :=
  Yw rfl rfl hn rfl (fun a w ha _ => by simp [execOp, ha.eval hx, ha.eval hc, asBool]) h
theorem VX {x : Operand} {p : Addr} (hx : evo env x = some (.pointer (some p))) (hn : Nat.ble (d + 1) n.k = true) (h : VL P m n B w0 ops Q rest ((d, .pointer (some p)) :: env) H) :
    VL P m n B w0 ops Q (⟨some d, .nilCheck x, ty, pos, after, none⟩ :: rest) env H :=
  Yw rfl rfl hn rfl (fun a w ha _ => by simp [execOp, ha.eval hx]) h
theorem YeX {x : Operand} {i : Nat} {vs : Array Value} {v : Value} (hx : evo env x = some (.tuple vs)) (hv : nth vs.toList i = some v) (hn : Nat.ble (d + 1) n.k = true) (h : VL P m n B w0 ops Q rest ((d, v) :: env) H) :
    VL P m n B w0 ops Q (⟨some d, .extract x i, ty, pos, after, none⟩ :: rest) env H :=
  Yw rfl rfl hn rfl (fun a w ha _ => by rw [YcL] at hv; simp [execOp, ha.eval hx, Instr.extract, hv]) h
theorem Yh4 {x : Operand} {b : Bool} {xt : TypeId} (hx : evo env x = some (.bool b)) (hn : Nat.ble (d + 1) n.k = true) (h : VL P m n B w0 ops Q rest ((d, .bool (!b)) :: env) H) :
    VL P m n B w0 ops Q (⟨some d, .unOp .not xt x, ty, pos, after, none⟩ :: rest) env H :=
  Yw rfl rfl hn rfl (fun a w ha _ => by simp [execOp, ha.eval hx, Op.unary]) h
theorem Ydl {x : Operand} {xt : TypeId} (hx : evo env x = some (.bool true)) (hn : Nat.ble (d + 1) n.k = true) (h : VL P m n B w0 ops Q rest ((d, .bool false) :: env) H) :
    VL P m n B w0 ops Q (⟨some d, .unOp .not xt x, ty, pos, after, none⟩ :: rest) env H := Yh4 hx hn h
theorem Yck {x : Operand} {xt : TypeId} (hx : evo env x = some (.bool false)) (hn : Nat.ble (d + 1) n.k = true) (h : VL P m n B w0 ops Q rest ((d, .bool true) :: env) H) :
    VL P m n B w0 ops Q (⟨some d, .unOp .not xt x, ty, pos, after, none⟩ :: rest) env H := Yh4 hx hn h
theorem YR {op : BinOp} {xt yt : TypeId} {x y : Operand} {u v z : Value} (hx : evo env x = some u) (hy : evo env y = some v) (hn : Nat.ble (d + 1) n.k = true)
    (hg : ∀ w, (eqGuard op xt x y u v).run P w = .ok () w) (hb : ∀ w, (binOp op xt u v).run P w = .ok z w)
    (h : VL P m n B w0 ops Q rest ((d, z) :: env) H) : VL P m n B w0 ops Q (⟨some d, .binOp op xt x y yt, ty, pos, after, none⟩ :: rest) env H :=
  Yw rfl rfl hn rfl (fun a w ha _ => by simp [execOp, ha.eval hx, ha.eval hy, hg w, hb w]) h
section
variable {xt yt : TypeId} {x y : Operand} {k : IntKind} {a b : Int}
theorem YhX (hx : evo env x = some (.int k a)) (hy : evo env y = some (.int k b)) (hn : Nat.ble (d + 1) n.k = true) (h : VL P m n B w0 ops Q rest ((d, .int k (k.wrap (a + b))) :: env) H) :
    VL P m n B w0 ops Q (⟨some d, .binOp .add xt x y yt, ty, pos, after, none⟩ :: rest) env H := YR hx hy hn (fun _ => rfl) (fun _ => by rw [binOp_add]; rfl) h
theorem Yib (hx : evo env x = some (.int k a)) (hy : evo env y = some (.int k b)) (hn : Nat.ble (d + 1) n.k = true) (h : VL P m n B w0 ops Q rest ((d, .int k (k.wrap (a - b))) :: env) H) :
    VL P m n B w0 ops Q (⟨some d, .binOp .sub xt x y yt, ty, pos, after, none⟩ :: rest) env H := YR hx hy hn (fun _ => rfl) (fun _ => by rw [binOp_sub]; rfl) h
theorem Yh1 (hx : evo env x = some (.int k a)) (hy : evo env y = some (.int k b)) (hn : Nat.ble (d + 1) n.k = true) (h : VL P m n B w0 ops Q rest ((d, .int k (k.wrap (a * b))) :: env) H) :
    VL P m n B w0 ops Q (⟨some d, .binOp .mul xt x y yt, ty, pos, after, none⟩ :: rest) env H := YR hx hy hn (fun _ => rfl) (fun _ => by rw [binOp_mul]; rfl) h
theorem YkT (hx : evo env x = some (.int .i64 a)) (hy : evo env y = some (.int .i64 b)) (hn : Nat.ble (d + 1) n.k = true) (hb : -9223372036854775808 ≤ a + b ∧ a + b ≤ 9223372036854775807) (h : VL P m n B w0 ops Q rest ((d, .int .i64 (a + b)) :: env) H) :
    VL P m n B w0 ops Q (⟨some d, .binOp .add xt x y yt, ty, pos, after, none⟩ :: rest) env H := YhX hx hy hn (by rw [IntWalk.i64_in _ hb]; exact h)
theorem Yk7 (hx : evo env x = some (.int .i64 a)) (hy : evo env y = some (.int .i64 b)) (hn : Nat.ble (d + 1) n.k = true) (hb : -9223372036854775808 ≤ a - b ∧ a - b ≤ 9223372036854775807) (h : VL P m n B w0 ops Q rest ((d, .int .i64 (a - b)) :: env) H) :
    VL P m n B w0 ops Q (⟨some d, .binOp .sub xt x y yt, ty, pos, after, none⟩ :: rest) env H := Yib hx hy hn (by rw [IntWalk.i64_in _ hb]; exact h)
theorem Yk1 (hx : evo env x = some (.int .i64 a)) (hy : evo env y = some (.int .i64 b)) (hn : Nat.ble (d + 1) n.k = true) (hb : -9223372036854775808 ≤ a * b ∧ a * b ≤ 9223372036854775807) (h : VL P m n B w0 ops Q rest ((d, .int .i64 (a * b)) :: env) H) :
    VL P m n B w0 ops Q (⟨some d, .binOp .mul xt x y yt, ty, pos, after, none⟩ :: rest) env H := Yh1 hx hy hn (by rw [IntWalk.i64_in _ hb]; exact h)
theorem Yh7 (hx : evo env x = some (.int k a)) (hy : evo env y = some (.int k b)) (hn : Nat.ble (d + 1) n.k = true) (hb : b ≠ 0) (h : VL P m n B w0 ops Q rest ((d, .int k (k.wrap (a.tdiv b))) :: env) H) :
    VL P m n B w0 ops Q (⟨some d, .binOp .quo xt x y yt, ty, pos, after, none⟩ :: rest) env H := YR hx hy hn (fun _ => rfl) (fun _ => by rw [binOp_quo]; simp [Op.intDiv, hb]) h
theorem Yh8 (hx : evo env x = some (.int k a)) (hy : evo env y = some (.int k b)) (hn : Nat.ble (d + 1) n.k = true) (hb : b ≠ 0) (h : VL P m n B w0 ops Q rest ((d, .int k (a.tmod b)) :: env) H) :
    VL P m n B w0 ops Q (⟨some d, .binOp .rem xt x y yt, ty, pos, after, none⟩ :: rest) env H := YR hx hy hn (fun _ => rfl) (fun _ => by rw [binOp_rem]; simp [Op.intDiv, hb]) h
theorem Yk4 (hx : evo env x = some (.int .i64 a)) (hy : evo env y = some (.int .i64 b)) (hn : Nat.ble (d + 1) n.k = true) (hb : 0 ≤ a ∧ a ≤ 9223372036854775807 ∧ 1 ≤ b) (h : VL P m n B w0 ops Q rest ((d, .int .i64 (a / b)) :: env) H) :
    VL P m n B w0 ops Q (⟨some d, .binOp .quo xt x y yt, ty, pos, after, none⟩ :: rest) env H := by
  refine Yh7 hx hy hn (by omega) ?_
  have h1 : a / b ≤ a := Int.ediv_le_self _ hb.1
  have h2 : 0 ≤ a / b := Int.ediv_nonneg hb.1 (by omega)
  rw [Int.tdiv_eq_ediv_of_nonneg hb.1, IntWalk.i64_in _ (by omega)]
  exact h
theorem Yk5 (hx : evo env x = some (.int k a)) (hy : evo env y = some (.int k b)) (hn : Nat.ble (d + 1) n.k = true) (hb : 0 ≤ a ∧ 1 ≤ b) (h : VL P m n B w0 ops Q rest ((d, .int k (a % b)) :: env) H) :
    VL P m n B w0 ops Q (⟨some d, .binOp .rem xt x y yt, ty, pos, after, none⟩ :: rest) env H := by
  refine Yh8 hx hy hn (by omega) ?_
  rw [Int.tmod_eq_emod_of_nonneg hb.1]
  exact h
theorem YkZ (hx : evo env x = some (.int k a)) (hy : evo env y = some (.int k b)) (hn : Nat.ble (d + 1) n.k = true) (h1 : a < b → VL P m n B w0 ops Q rest ((d, .bool true) :: env) H) (h2 : b ≤ a → VL P m n B w0 ops Q rest ((d, .bool false) :: env) H) :
    VL P m n B w0 ops Q (⟨some d, .binOp .lss xt x y yt, ty, pos, after, none⟩ :: rest) env H := by
  by_cases hc : a < b
  · exact YR hx hy hn (fun _ => rfl) (fun _ => by rw [binOp_lss, decide_eq_true hc]; rfl) (h1 hc)
  · exact YR hx hy hn (fun _ => rfl) (fun _ => by rw [binOp_lss, decide_eq_false hc]; rfl) (h2 (by omega))
theorem YkY (hx : evo env x = some (.int k a)) (hy : evo env y = some (.int k b)) (hn : Nat.ble (d + 1) n.k = true) (h1 : a ≤ b → VL P m n B w0 ops Q rest ((d, .bool true) :: env) H) (h2 : b < a → VL P m n B w0 ops Q rest ((d, .bool false) :: env) H) :
    VL P m n B w0 ops Q (⟨some d, .binOp .leq xt x y yt, ty, pos, after, none⟩ :: rest) env H := by
  by_cases hc : a ≤ b
  · exact YR hx hy hn (fun _ => rfl) (fun _ => by rw [binOp_leq, decide_eq_true hc]; rfl) (h1 hc)
  · exact YR hx hy hn (fun _ => rfl) (fun _ => by rw [binOp_leq, decide_eq_false hc]; rfl) (h2 (by omega))
theorem YkW (hx : evo env x = some (.int k a)) (hy : evo env y = some (.int k b)) (hn : Nat.ble (d + 1) n.k = true) (h1 : b < a → VL P m n B w0 ops Q rest ((d, .bool true) :: env) H) (h2 : a ≤ b → VL P m n B w0 ops Q rest ((d, .bool false) :: env) H) :
    VL P m n B w0 ops Q (⟨some d, .binOp .gtr xt x y yt, ty, pos, after, none⟩ :: rest) env H := by
  by_cases hc : a > b
  · exact YR hx hy hn (fun _ => rfl) (fun _ => by rw [binOp_gtr, decide_eq_true hc]; rfl) (h1 hc)
  · exact YR hx hy hn (fun _ => rfl) (fun _ => by rw [binOp_gtr, decide_eq_false hc]; rfl) (h2 (by omega))
theorem YkV (hx : evo env x = some (.int k a)) (hy : evo env y = some (.int k b)) (hn : Nat.ble (d + 1) n.k = true) (h1 : b ≤ a → VL P m n B w0 ops Q rest ((d, .bool true) :: env) H) (h2 : a < b → VL P m n B w0 ops Q rest ((d, .bool false) :: env) H) :
    VL P m n B w0 ops Q (⟨some d, .binOp .geq xt x y yt, ty, pos, after, none⟩ :: rest) env H := by
  by_cases hc : a ≥ b
  · exact YR hx hy hn (fun _ => rfl) (fun _ => by rw [binOp_geq, decide_eq_true hc]; rfl) (h1 hc)
  · exact YR hx hy hn (fun _ => rfl) (fun _ => by rw [binOp_geq, decide_eq_false hc]; rfl) (h2 (by omega))
theorem YkU (hx : evo env x = some (.int k a)) (hy : evo env y = some (.int k b)) (hn : Nat.ble (d + 1) n.k = true) (h1 : a = b → VL P m n B w0 ops Q rest ((d, .bool true) :: env) H) (h2 : a ≠ b → VL P m n B w0 ops Q rest ((d, .bool false) :: env) H) :
    VL P m n B w0 ops Q (⟨some d, .binOp .eql xt x y yt, ty, pos, after, none⟩ :: rest) env H := by
  by_cases hc : a = b
  · exact YR hx hy hn (fun _ => rfl) (fun _ => by rw [binOp_eql, beq_iff_eq.2 hc]; rfl) (h1 hc)
  · exact YR hx hy hn (fun _ => rfl) (fun _ => by rw [binOp_eql, beq_eq_false_iff_ne.2 hc]; rfl) (h2 hc)
theorem Yk2 (hx : evo env x = some (.int k a)) (hy : evo env y = some (.int k b)) (hn : Nat.ble (d + 1) n.k = true) (h1 : a ≠ b → VL P m n B w0 ops Q rest ((d, .bool true) :: env) H) (h2 : a = b → VL P m n B w0 ops Q rest ((d, .bool false) :: env) H) :
    VL P m n B w0 ops Q (⟨some d, .binOp .neq xt x y yt, ty, pos, after, none⟩ :: rest) env H := by
  by_cases hc : a = b
  · exact YR hx hy hn (fun _ => rfl) (fun _ => by rw [binOp_neq]; simp [hc]) (h2 hc)
  · exact YR hx hy hn (fun _ => rfl) (fun _ => by rw [binOp_neq]; simp [hc]) (h1 hc)
theorem Yk6 (hx : evo env x = some (.int k a)) {yk : IntKind} (hy : evo env y = some (.int yk b)) (hn : Nat.ble (d + 1) n.k = true) (hb : 0 ≤ b ∧ b ≤ k.bits) (h : VL P m n B w0 ops Q rest ((d, .int k (a / 2 ^ b.toNat)) :: env) H) :
    VL P m n B w0 ops Q (⟨some d, .binOp .shr xt x y yt, ty, pos, after, none⟩ :: rest) env H :=
  YR hx hy hn (fun _ => rfl) (fun _ => by rw [binOp_shr, shift_shr _ _ _ _ hb.1 hb.2]; rfl) h
theorem Yh9 {yk : IntKind} {D : Int} (hx : evo env x = some (.int k a)) (hn : Nat.ble (d + 1) n.k = true) (hb : 0 ≤ b ∧ b ≤ k.bits) (hD : (2 : Int) ^ b.toNat = D) (h : VL P m n B w0 ops Q rest ((d, .int k (a / D)) :: env) H) :
    VL P m n B w0 ops Q (⟨some d, .binOp .shr xt x (.const (.int yk b)) yt, ty, pos, after, none⟩ :: rest) env H :=
  Yk6 hx (y := .const (.int yk b)) rfl hn hb (by rw [hD]; exact h)
theorem YfU (T : Tab P) {src dst : TypeId} {j : IntKind} (hx : evo env x = some (.int k a)) (hs : look T.ik src = some j) {kd : IntKind} (ht : look T.ik dst = some kd) (hn : Nat.ble (d + 1) n.k = true) (h : VL P m n B w0 ops Q rest ((d, .int kd (kd.wrap a)) :: env) H) :
    VL P m n B w0 ops Q (⟨some d, .convert src dst x, ty, pos, after, none⟩ :: rest) env H := by
  refine Yw rfl rfl hn rfl (fun f w ha _ => ?_) h
  simp [execOp, ha.eval hx, convert, run_underlying (YbR (T.ints hs)), run_underlying (YbR (T.ints ht)), Conv.intToInt]
theorem YeW (T : Tab P) {src dst : TypeId} {j : IntKind} (hx : evo env x = some (.int k a)) (hs : look T.ik src = some j) (ht : look T.ik dst = some .i64) (hn : Nat.ble (d + 1) n.k = true) (hb : -9223372036854775808 ≤ a ∧ a ≤ 9223372036854775807)
    (h : VL P m n B w0 ops Q rest ((d, .int .i64 a) :: env) H) : VL P m n B w0 ops Q (⟨some d, .convert src dst x, ty, pos, after, none⟩ :: rest) env H :=
  YfU T hx hs ht hn (by rw [IntWalk.i64_in _ hb]; exact h)
end
theorem Vb (s t : ByteArray) : (s.toList == t.toList) = true ↔ s = t := by
  rw [beq_iff_eq]
  constructor
  · intro h
    rw [ByteArray.toList_eq, ByteArray.toList_eq] at h
    cases s; cases t
    simp at h
    rw [h]
  · rintro rfl; rfl
section
variable {xt yt : TypeId} {x y : Operand} {s t : ByteArray}
theorem YjG (hx : evo env x = some (.string s)) (hy : evo env y = some (.string t)) (hn : Nat.ble (d + 1) n.k = true) (h1 : s = t → VL P m n B w0 ops Q rest ((d, .bool true) :: env) H) (h2 : s ≠ t → VL P m n B w0 ops Q rest ((d, .bool false) :: env) H) :
    VL P m n B w0 ops Q (⟨some d, .binOp .eql xt x y yt, ty, pos, after, none⟩ :: rest) env H := by
  by_cases hc : s = t
  · exact YR hx hy hn (fun _ => rfl) (fun _ => by simp [binOp, Op.stringOp, hc]) (h1 hc)
  · refine YR hx hy hn (fun _ => rfl) (fun _ => ?_) (h2 hc)
    have : (s.toList == t.toList) = false := by rw [Bool.eq_false_iff]; exact fun e => hc ((Vb s t).1 e)
    simp only [binOp, Op.stringOp, this]; rfl
theorem YjI (hx : evo env x = some (.string s)) (hy : evo env y = some (.string t)) (hn : Nat.ble (d + 1) n.k = true) (h1 : s ≠ t → VL P m n B w0 ops Q rest ((d, .bool true) :: env) H) (h2 : s = t → VL P m n B w0 ops Q rest ((d, .bool false) :: env) H) :
    VL P m n B w0 ops Q (⟨some d, .binOp .neq xt x y yt, ty, pos, after, none⟩ :: rest) env H := by
  by_cases hc : s = t
  · exact YR hx hy hn (fun _ => rfl) (fun _ => by simp [binOp, Op.stringOp, hc]) (h2 hc)
  · refine YR hx hy hn (fun _ => rfl) (fun _ => ?_) (h1 hc)
    have : (s.toList == t.toList) = false := by rw [Bool.eq_false_iff]; exact fun e => hc ((Vb s t).1 e)
    simp only [binOp, Op.stringOp, this]; rfl
theorem YjF (hx : evo env x = some (.string s)) (hy : evo env y = some (.string t)) (hn : Nat.ble (d + 1) n.k = true) (hb : s.size + t.size ≤ 9223372036854775807) (h : VL P m n B w0 ops Q rest ((d, .string (s ++ t)) :: env) H) :
    VL P m n B w0 ops Q (⟨some d, .binOp .add xt x y yt, ty, pos, after, none⟩ :: rest) env H := by
  refine YR hx hy hn (fun _ => rfl) (fun _ => ?_) h
  have : ¬ ((s.size + t.size : Nat) : Int) > IntKind.i64.max := by rw [IntKind.max_i64]; omega
  simp only [binOp, Op.stringOp, if_neg this]; rfl
theorem YjH (T : Tab P) (hx : evo env x = some (.string s)) {tx : TypeId} (ht : look T.st tx = some ()) (hn : Nat.ble (d + 1) n.k = true) (h : VL P m n B w0 ops Q rest ((d, .int .i64 s.size) :: env) H) :
    VL P m n B w0 ops Q (⟨some d, .call ⟨.builtin .len, #[x], #[tx]⟩, ty, pos, after, none⟩ :: rest) env H :=
  Yw rfl rfl hn rfl (fun f w ha _ => by simp [execOp, resolve, invoke, builtin, ha.eval hx, Builtin.len_, run_underlying (T.strs ht), goInt]) h
end
theorem Ych (T : Tab P) {s f k g i : Nat} {x : Operand} (hx : evo env x = some (.pointer (some ⟨g, i, none⟩))) (hf : Ud T.fo s f = some k) (hn : Nat.ble (d + 1) n.k = true)
    (h : VL P m n B w0 ops Q rest ((d, .pointer (some ⟨g, i + k, none⟩)) :: env) H) : VL P m n B w0 ops Q (⟨some d, .fieldAddr s x f, ty, pos, after, none⟩ :: rest) env H := by
  refine Yw rfl rfl hn rfl (fun a w ha _ => ?_) h
  have h1 := T.offs hf
  unfold V7 at h1
  split at h1
  · rename_i fs hu
    cases hfl : fs[f]? with
    | none => rw [hfl] at h1; cases h1
    | some fld =>
      rw [hfl] at h1
      simp only [Option.bind_some] at h1
      cases hi : P.info? fld.type with
      | none => rw [hi] at h1; cases h1
      | some inf =>
        rw [hi] at h1
        simp only [Option.bind_some] at h1
        by_cases hz : inf.size = 0
        · rw [if_pos hz] at h1; cases h1
        · rw [if_neg hz] at h1
          have h2 : fld.offset = k := by simpa using h1
          subst h2
          simp [execOp, ha.eval hx, Instr.fieldAt, run_underlying hu, hfl, Instr.sureAddr, fieldPlace, sizeOf, typeInfo, hi, hz, Addr.add_lit]
  · cases h1
theorem Y8 {w : World} {g i : Nat} {cs : Array Value} {t : TypeId} {fr : Nat × Nat} (h : w.heap[g]? = some (.cells cs t fr)) : w.cell? ⟨g, i, none⟩ = cs[i]? := by simp [World.cell?, h]
theorem YjA (T : Tab P) {t g i : Nat} {cs : Array Value} {tt : TypeId} {fr : Nat × Nat} {v : Value} {x : Operand} (hx : evo env x = some (.pointer (some ⟨g, i, none⟩))) (hm : blk g (.cells cs tt fr) ∈ H) (hv : nth cs.toList i = some v)
    (ht : look T.sc t = some ()) (hn : Nat.ble (d + 1) n.k = true) (h : VL P m n B w0 ops Q rest ((d, v) :: env) H) : VL P m n B w0 ops Q (⟨some d, .load t x, ty, pos, after, none⟩ :: rest) env H := by
  refine Yw rfl rfl hn rfl (fun a w ha hw => ?_) h
  rw [YcL] at hv
  have hc := Y8 (i := i) (hw.blk hm).1
  simp [execOp, ha.eval hx, Instr.loadAt, Instr.sureAddr, loadVar, XW (T.scal ht).1, hc, hv]
theorem Ya0 (T : Tab P) {t g k : Nat} {cs : Array Value} {tt : TypeId} {fr : Nat × Nat} {x : Operand} (hx : evo env x = some (.pointer (some ⟨g, 0, none⟩))) (hm : blk g (.cells cs tt fr) ∈ H)
    (ht : look T.ag t = some k) (hk : cs.size = k) (hn : Nat.ble (d + 1) n.k = true) (h : VL P m n B w0 ops Q rest ((d, .agg cs) :: env) H) :
    VL P m n B w0 ops Q (⟨some d, .load t x, ty, pos, after, none⟩ :: rest) env H := by
  refine Yw rfl rfl hn rfl (fun a w ha hw => ?_) h
  have hb := (hw.blk hm).1
  have hl := run_loadCells_list (P := P) w ⟨g, 0, none⟩ cs.toList (fun j v hj => by rw [Addr.add_lit, Y8 hb, Nat.zero_add]; simpa using hj)
  rw [show cs.toList.length = k by simpa using hk] at hl
  simp [execOp, ha.eval hx, Instr.loadAt, Instr.sureAddr, loadVar, XE (T.aggs ht), Xr (ZA (T.aggs ht)), hl]
theorem Ydi (T : Tab P) {t g i k : Nat} {cs : Array Value} {vs : List Value} {tt : TypeId} {fr : Nat × Nat} {x : Operand} (hx : evo env x = some (.pointer (some ⟨g, i, none⟩))) (hm : blk g (.cells cs tt fr) ∈ H)
    (ht : look T.ag t = some k) (hk : vs.length = k) (hv : ∀ j v, vs[j]? = some v → cs[i + j]? = some v) (hn : Nat.ble (d + 1) n.k = true) (h : VL P m n B w0 ops Q rest ((d, .agg vs.toArray) :: env) H) :
    VL P m n B w0 ops Q (⟨some d, .load t x, ty, pos, after, none⟩ :: rest) env H := by
  refine Yw rfl rfl hn rfl (fun a w ha hw => ?_) h
  have hb := (hw.blk hm).1
  have hl := run_loadCells_list (P := P) w ⟨g, i, none⟩ vs (fun j v hj => by rw [Addr.add_lit, Y8 hb]; exact hv j v hj)
  rw [hk] at hl
  simp [execOp, ha.eval hx, Instr.loadAt, Instr.sureAddr, loadVar, XE (T.aggs ht), Xr (ZA (T.aggs ht)), hl]
def Ybl (l : List Value) (i : Nat) (v : Value) (l' : List Value) : Prop := i < l.length ∧ l' = l.set i v
theorem YaJ {x v : Value} {l : List Value} : Ybl (x :: l) 0 v (v :: l) := ⟨by simp, rfl⟩
theorem ON {x v : Value} {l l' : List Value} {i : Nat} (h : Ybl l i v l') : Ybl (x :: l) (i + 1) v (x :: l') := ⟨by have := h.1; simp; omega, by rw [h.2]; rfl⟩
theorem Yia (T : Tab P) {t g i : Nat} {cs cs' : List Value} {tt : TypeId} {v : Value} {x y : Operand} {K : List HP} (hx : evo env x = some (.pointer (some ⟨g, i, none⟩))) (hy : evo env y = some v) (h1 : v.oneCell' = true)
    (hu : Upd (blk g (.cells cs.toArray tt (0, 0))) (blk g (.cells cs'.toArray tt (0, 0))) H K) (hs : Ybl cs i v cs')
    (ht : look T.sc t = some ()) (h : VL P none n B w0 ops Q rest env K) : VL P none n B w0 ops Q (⟨none, .store t x y, ty, pos, after, none⟩ :: rest) env H := by
  obtain ⟨hi, rfl⟩ := hs
  have hu' : Upd (blk g (.cells cs.toArray tt (0, 0))) (blk g (.cells (cs.toArray.setIfInBounds i v) tt (0, 0))) H K := by rw [List.setIfInBounds_toArray]; exact hu
  refine Z5 rfl rfl (fun a w ha hw => ⟨w.setCell ⟨g, i, none⟩ v, ?_, hw.setCell hu'⟩) h
  have hb : w.heap[g]? = some (.cells cs.toArray tt (0, 0)) := by
    obtain ⟨L1, L2, rfl, _⟩ := hu
    exact (hw.blk (by simp)).1
  have hc := Y8 (i := i) hb
  have hcs : v.cells = #[v] := by cases v <;> first | rfl | simp [Value.oneCell'] at h1
  have hz : w.frozen? ⟨g, i, none⟩ = false := by simp [World.frozen?, hb]
  have hv : (cs.toArray)[i]? = some cs[i] := by simp [hi]
  rw [hv] at hc
  simp [execOp, ha.eval hx, ha.eval hy, Instr.storeAt, Instr.sureAddr, storeVar, hcs, Xr (T.scal ht).2, storeCells, run_store _ _ _ _ _ h1, Addr.add_zero', hc, hz]
theorem Xv {t : TypeId} {x : Operand} {cs : Array Value} (hx : evo env x = some (.agg cs)) (hn : Nat.ble (d + 1) n.k = true)
    (h : ∀ g, VL P none n B w0 ops Q rest ((d, .pointer (some ⟨g, 0, none⟩)) :: env) (blk g (.cells cs t (0, 0)) :: H)) : VL P none n B w0 ops Q (⟨some d, .box t x, ty, pos, after, none⟩ :: rest) env H :=
  Xw (fun v K => ∃ g, v = .pointer (some ⟨g, 0, none⟩) ∧ K = blk g (.cells cs t (0, 0)) :: H) rfl rfl hn
    (fun a w ha hw => ⟨_, _, w.alloc (.cells cs t (0, 0)), by simp [execOp, ha.eval hx, Instr.box, newVar, newRow, Value.cells], hw.alloc _, w.heap.size, rfl, rfl⟩)
    (by rintro _ _ ⟨g, rfl, rfl⟩; exact h g)
theorem YeV {t : TypeId} {x : Operand} {v : Value} (hx : evo env x = some v) (h1 : v.cells = #[v]) (hn : Nat.ble (d + 1) n.k = true)
    (h : ∀ g, VL P none n B w0 ops Q rest ((d, .pointer (some ⟨g, 0, none⟩)) :: env) (blk g (.cells #[v] t (0, 0)) :: H)) : VL P none n B w0 ops Q (⟨some d, .box t x, ty, pos, after, none⟩ :: rest) env H :=
  Xw (fun v' K => ∃ g, v' = .pointer (some ⟨g, 0, none⟩) ∧ K = blk g (.cells #[v] t (0, 0)) :: H) rfl rfl hn
    (fun a w ha hw => ⟨_, _, w.alloc (.cells #[v] t (0, 0)), by simp [execOp, ha.eval hx, Instr.box, newVar, newRow, h1], hw.alloc _, w.heap.size, rfl, rfl⟩)
    (by rintro _ _ ⟨g, rfl, rfl⟩; exact h g)
theorem YhY {t : TypeId} {z : Value} {cs : Array Value} (hz : ∀ w, (zeroValue t).run P w = .ok z w) (hc : z.cells = cs) (hn : Nat.ble (d + 1) n.k = true)
    (h : ∀ g, VL P none n B w0 ops Q rest ((d, .pointer (some ⟨g, 0, none⟩)) :: env) (blk g (.cells cs t (0, 0)) :: H)) : VL P none n B w0 ops Q (⟨some d, .alloc t, ty, pos, after, none⟩ :: rest) env H :=
  Xw (fun v' K => ∃ g, v' = .pointer (some ⟨g, 0, none⟩) ∧ K = blk g (.cells cs t (0, 0)) :: H) rfl rfl hn
    (fun a w _ hw => ⟨_, _, w.alloc (.cells cs t (0, 0)), by simp [execOp, Instr.alloc, hz, newVar, newRow, hc], hw.alloc _, w.heap.size, rfl, rfl⟩)
    (by rintro _ _ ⟨g, rfl, rfl⟩; exact h g)
def Ol (env : Env) : List (Nat × Operand) → List (Nat × Value) → Prop
  | [], [] => True
  | x :: l, v :: vs => x.1 = v.1 ∧ evo env x.2 = some v.2 ∧ Ol env l vs
  | _, _ => False
theorem Yb3 {env : Env} : Ol env [] [] := trivial
theorem Yfw {env : Env} {i : Nat} {x : Operand} {v : Value} {l : List (Nat × Operand)} {vs : List (Nat × Value)} (h : evo env x = some v) (hl : Ol env l vs) : Ol env ((i, x) :: l) ((i, v) :: vs) := ⟨rfl, h, hl⟩
theorem W5 {n : Shp} {a : Act} {env : Env} (ha : Fits n a env) : ∀ (l : List (Nat × Operand)) (us : List (Nat × Value)), Ol env l us → l.map (fun p => (p.1, a.eval p.2)) = us
  | [], [], _ => rfl
  | [], _ :: _, h => h.elim
  | _ :: _, [], h => h.elim
  | x :: l, u :: us, h => by rw [List.map_cons, ha.eval h.2.1, W5 ha l us h.2.2, h.1]
theorem YhZ {t : TypeId} {parts : List (Nat × Operand)} {ps : List (Nat × Value)} {v : Value} (hp : Ol env parts ps) (hb : ∀ w, (Instr.build t ps.toArray).run P w = .ok v w) (hn : Nat.ble (d + 1) n.k = true)
    (h : VL P m n B w0 ops Q rest ((d, v) :: env) H) : VL P m n B w0 ops Q (⟨some d, .build t parts.toArray, ty, pos, after, none⟩ :: rest) env H := by
  refine Yw rfl rfl hn rfl (fun a w ha _ => ?_) h
  have hm : (parts.toArray.map fun (i, x) => (i, a.eval x)) = ps.toArray := by rw [List.map_toArray]; exact congrArg List.toArray (W5 ha _ _ hp)
  simp only [execOp, hm]
  simp [hb]
end
open Go.RowKit
def sl (e size : Nat) (A : Option Addr) (k cap : Nat) (xs : List Value) : HP :=
  ⟨fun S w => w.ownsRow 0 e size (.slice A k cap) k xs ∧ ∀ a, A = some a → S a.block, by
    rintro S w w' hs ⟨⟨h1, h2⟩, h3⟩
    refine ⟨⟨h1, ?_⟩, h3⟩
    rcases h2 with h2 | ⟨g, c, cur, e1, e2, e3, e4⟩
    · exact .inl h2
    · refine .inr ⟨g, c, cur, e1, e2, ?_, e4⟩
      injection e1 with e1
      rw [hs g (h3 _ e1)]
      exact e3⟩
theorem Ylm {e size : Nat} (S : Nat → Prop) (w : World) : (sl e size none 0 0 []).holds S w := ⟨⟨by simp, .inl ⟨rfl, rfl⟩⟩, fun a h => by cases h⟩
theorem St.nilSlice {B : Nat} {w0 w : World} {H : List HP} (h : St B w0 H w) (e size : Nat) : St B w0 (sl e size none 0 0 [] :: H) w :=
  ⟨h.below, h.le, fun _ => False, fun b => B ≤ b ∧ b < w.heap.size, fun _ hb => hb.elim, fun _ hb => hb, fun _ hb => hb.elim, Ylm _ _, h.sep⟩
theorem St.sl {B : Nat} {w0 w : World} {H : List HP} {e size : Nat} {A : Option Addr} {k cap : Nat} {xs : List Value} (h : St B w0 H w) (hm : Eng.sl e size A k cap xs ∈ H) :
    w.ownsRow 0 e size (.slice A k cap) k xs := by
  obtain ⟨S, _, h2, _⟩ := h.at_ hm
  exact h2
theorem Qm {w : World} {e size : Nat} {A : Option Addr} {k cap : Nat} {xs : List Value} (h : w.ownsRow 0 e size (.slice A k cap) k xs) {j : Nat} {v : Value} (hv : xs[j]? = some v) :
    ∃ g, A = some ⟨g, 0, none⟩ ∧ w.cell? ⟨g, j, none⟩ = some v ∧ ∃ cur, w.heap[g]? = some (.cells cur e (0, 0)) ∧ cur[j]? = some v := by
  rcases h.2 with ⟨e1, e2⟩ | ⟨g, c, cur, e1, _, e3, _, _, _, e4⟩
  · exfalso
    have := h.1
    rw [e2, Nat.zero_mul] at this
    rw [List.eq_nil_of_length_eq_zero this] at hv
    cases hv
  · injection e1 with e1
    have hc : cur[j]? = some v := by
      rw [← e4] at hv
      rw [List.getElem?_take] at hv
      split at hv
      · simpa using hv
      · cases hv
    exact ⟨g, e1, by rw [Y8 e3]; exact hc, cur, e3, hc⟩
theorem YX {P : Program} {t e size bytes : Nat} (h : YaL P t = some (e, size, bytes)) :
    P.underlying t = some (.slice e) ∧ ∃ i z, P.info? e = some i ∧ i.zero = some z ∧ z.cells.size = size ∧ i.size = size ∧ i.bytes = bytes ∧ 0 < size ∧ 0 < bytes := by
  unfold YaL at h
  split at h
  · rename_i e' hu
    cases hi : P.info? e' with
    | none => rw [hi] at h; cases h
    | some i =>
      rw [hi] at h
      simp only [Option.bind_some] at h
      cases hz : i.zero with
      | none => rw [hz] at h; cases h
      | some z =>
        rw [hz] at h
        simp only [Option.bind_some] at h
        split at h
        · rename_i hc
          simp only [Option.some.injEq, Prod.mk.injEq] at h
          obtain ⟨rfl, rfl, rfl⟩ := h
          exact ⟨hu, i, z, hi, hz, hc.1, rfl, rfl, hc.2⟩
        · cases h
  · cases h
def Jg : List Value → Bool
  | [] => true
  | v :: l => v.oneCell' && Jg l
theorem X6 : ∀ {l : List Value}, Jg l = true → ∀ u ∈ l, u.oneCell' = true
  | [], _, u, hu => by cases hu
  | v :: l, h, u, hu => by
    simp only [Jg, Bool.and_eq_true] at h
    rcases List.mem_cons.1 hu with e | e
    · rw [e]; exact h.1
    · exact X6 h.2 u e
def sptr (A : Option Addr) (j : Nat) : Value := .pointer (A.map fun a => a.add j)
section
variable {P : Program} {m : Mode} {n : Shp} {B : Nat} {w0 : World} {Q : Exit → Act → World → Prop} {env : Env} {H : List HP} {ops : Array Oper} {rest : List Oper}
variable {d : Nat} {ty : TypeId} {pos : String} {after : Array Edge}
theorem ZL (e size : Nat) {c : Code} (h : VC P n B w0 c Q env (sl e size none 0 0 [] :: H)) : VC P n B w0 c Q env H := ⟨fun a w ha hw => h.run a w ha (hw.nilSlice e size)⟩
theorem YkX (T : Tab P) {tx : Nat} {x : Operand} {A : Option Addr} {k cap : Nat} {es : Nat × Nat × Nat} (hx : evo env x = some (.slice A k cap)) (ht : look T.sl tx = some es) (hn : Nat.ble (d + 1) n.k = true) (h : VL P m n B w0 ops Q rest ((d, .int .i64 k) :: env) H) :
    VL P m n B w0 ops Q (⟨some d, .call ⟨.builtin .len, #[x], #[tx]⟩, ty, pos, after, none⟩ :: rest) env H := by
  obtain ⟨e, size, bytes⟩ := es
  obtain ⟨hu, _⟩ := YX (T.slic ht)
  exact Yw rfl rfl hn rfl (fun f w ha _ => by simp [execOp, resolve, invoke, builtin, ha.eval hx, Builtin.len_, run_underlying hu, goInt]) h
theorem YgE (T : Tab P) {t tt : Nat} {x y : Operand} {A : Option Addr} {k cap : Nat} {xs : List Value} {g mm c : Nat} {cs : Array Value} {fr : Nat × Nat} {e size bytes : Nat} {K : Option Addr → Nat → List HP}
    (hx : evo env x = some (.slice A k cap)) (ht : look T.sl t = some (e, size, bytes))
    (hy : evo env y = some (.slice (some ⟨g, 0, none⟩) mm c)) (hb : blk g (.cells cs tt fr) ∈ H) (hk : cs.size = mm * size) (h1 : Jg cs.toList = true) (hn : Nat.ble (d + 1) n.k = true)
    (hu : ∀ A' cap', Upd (sl e size A k cap xs) (sl e size A' (k + mm) cap' (xs ++ cs.toList)) H (K A' cap')) (hby : (k + mm) * bytes ≤ 140737488355328)
    (h : ∀ A' cap', VL P none n B w0 ops Q rest ((d, .slice A' (k + mm) cap') :: env) (K A' cap')) :
    VL P none n B w0 ops Q (⟨some d, .call ⟨.builtin .append, #[x, y], #[t, t]⟩, ty, pos, after, none⟩ :: rest) env H := by
  obtain ⟨hut, i, z, hi, hz, hzs, hsi, hbi, hs0, hb0⟩ := YX (T.slic ht)
  refine Xw (fun v K' => ∃ A' cap', v = .slice A' (k + mm) cap' ∧ K' = K A' cap') rfl rfl hn (fun a w ha hw => ?_) (by rintro _ _ ⟨A', cap', rfl, rfl⟩; exact h A' cap')
  have hmem : sl e size A k cap xs ∈ H := by
    obtain ⟨L1, L2, rfl, _⟩ := hu none 0
    simp
  have hown := hw.sl hmem
  have hblk := (hw.blk hb).1
  have h63 : k + mm ≤ maxLen := by
    have : k + mm ≤ (k + mm) * bytes := Nat.le_mul_of_pos_right _ hb0
    simp only [maxLen]; omega
  obtain ⟨v', w', hrun, hown', hgrow, _, hat⟩ := run_append_own_at (P := P) w 0 t ty e i z size bytes hut hi hz hsi hbi hzs hs0 (.slice A k cap) k xs hown ⟨g, 0, none⟩ mm c cs.toList (by simpa using hk)
    (fun j u hj => by rw [Addr.add_lit, Y8 hblk, Nat.zero_add]; simpa using hj) (X6 h1) h63 hby (Nat.zero_le _)
  have hshape : ∃ A' cap', v' = .slice A' (k + mm) cap' := by
    rcases hown'.2 with ⟨e1, e2⟩ | ⟨g', c', _, e1, _⟩
    · exact ⟨none, 0, by rw [e1, e2]⟩
    · exact ⟨_, _, e1⟩
  obtain ⟨A', cap', rfl⟩ := hshape
  refine ⟨_, K A' cap', w', by simp [execOp, resolve, invoke, builtin, ha.eval hx, ha.eval hy, hrun], ?_, A', cap', rfl, rfl⟩
  refine hw.updN (hu A' cap') hgrow.os hgrow.tape hgrow.output hgrow.size fun S1 ⟨_, hS⟩ => ⟨⟨fun b => Value.ownBlock (.slice A' (k + mm) cap') = some b, ⟨hown', ?_⟩, fun b hb => ?_⟩, fun b hb hlt => hgrow.block b hlt (fun e => hb ?_)⟩
  · rintro a rfl; rfl
  · rcases hat with e | e
    · rw [e] at hb
      cases A with
      | none => cases hb
      | some a => left; have := hS a rfl; simp only [Value.ownBlock, Option.some.injEq] at hb; rwa [← hb]
    · rw [e] at hb
      right
      simp only [Option.some.injEq] at hb
      subst hb
      refine ⟨Nat.le_refl _, ?_⟩
      rcases hown'.2 with ⟨e1, _⟩ | ⟨g', _, _, e1, _, e3, _⟩
      · rw [e1] at e; cases e
      · rw [e1] at e
        simp only [Value.ownBlock, Option.some.injEq] at e
        subst e
        rcases Nat.lt_or_ge w.heap.size w'.heap.size with h | h
        · exact h
        · rw [Array.getElem?_eq_none h] at e3; cases e3
  · cases A with
    | none => cases e
    | some a => simp only [Value.ownBlock, Option.some.injEq] at e; rw [e]; exact hS a rfl
theorem Ydh (T : Tab P) {t : Nat} {x y : Operand} {A : Option Addr} {k cap : Nat} {xs : List Value} {e size bytes : Nat} {ki : IntKind} {i : Int} (hx : evo env x = some (.slice A k cap)) (hm : sl e size A k cap xs ∈ H) (hy : evo env y = some (.int ki i))
    (ht : look T.sl t = some (e, size, bytes)) (hn : Nat.ble (d + 1) n.k = true) (hi : 0 ≤ i ∧ i < k) (h : VL P m n B w0 ops Q rest ((d, sptr A (i.toNat * size)) :: env) H) :
    VL P m n B w0 ops Q (⟨some d, .indexAddr t x y, ty, pos, after, none⟩ :: rest) env H := by
  obtain ⟨hut, inf, z, hinf, _, _, hsi, _, _, _⟩ := YX (T.slic ht)
  refine Yw rfl rfl hn rfl (fun a w ha hw => ?_) h
  have hown := hw.sl hm
  rcases hown.2 with ⟨_, e2⟩ | ⟨g, c, cur, e1, _⟩
  · exfalso; omega
  · injection e1 with e1
    subst e1
    simp [execOp, ha.eval hx, ha.eval hy, Instr.indexAt, asIntOf, run_underlying hut, hi, sizeOf, typeInfo, hinf, hsi, sptr]
theorem Qt (T : Tab P) {t j : Nat} {x : Operand} {A : Option Addr} {k cap : Nat} {xs : List Value} {e size : Nat} {v : Value} (hx : evo env x = some (sptr A j)) (hm : sl e size A k cap xs ∈ H) (ht : look T.sc t = some ()) (hn : Nat.ble (d + 1) n.k = true) (hv : xs[j]? = some v)
    (h : VL P m n B w0 ops Q rest ((d, v) :: env) H) : VL P m n B w0 ops Q (⟨some d, .load t x, ty, pos, after, none⟩ :: rest) env H := by
  refine Yw rfl rfl hn rfl (fun a w ha hw => ?_) h
  obtain ⟨g, rfl, hc, _⟩ := Qm (hw.sl hm) hv
  simp [execOp, ha.eval hx, sptr, Instr.loadAt, Instr.sureAddr, loadVar, XW (T.scal ht).1, Addr.add_lit, hc]
theorem Ydo (T : Tab P) {t j : Nat} {x y : Operand} {A : Option Addr} {k cap : Nat} {xs : List Value} {e size : Nat} {v : Value} {K : List HP} (hx : evo env x = some (sptr A j)) (hy : evo env y = some v) (h1 : v.oneCell' = true)
    (hu : Upd (sl e size A k cap xs) (sl e size A k cap (xs.set j v)) H K) (ht : look T.sc t = some ()) (hj : j < xs.length)
    (h : VL P none n B w0 ops Q rest env K) : VL P none n B w0 ops Q (⟨none, .store t x y, ty, pos, after, none⟩ :: rest) env H := by
  have hmem : sl e size A k cap xs ∈ H := by
    obtain ⟨L1, L2, rfl, _⟩ := hu
    simp
  refine Z5 rfl rfl (fun a w ha hw => ?_) h
  obtain ⟨g, rfl, hc, cur, hb, hcj⟩ := Qm (hw.sl hmem) (List.getElem?_eq_getElem hj)
  refine ⟨w.setCell ⟨g, j, none⟩ v, ?_, ?_⟩
  · have hcs : v.cells = #[v] := by cases v <;> first | rfl | simp [Value.oneCell'] at h1
    have hz : w.frozen? ⟨g, j, none⟩ = false := by simp [World.frozen?, hb]
    simp [execOp, ha.eval hx, ha.eval hy, sptr, Instr.storeAt, Instr.sureAddr, storeVar, hcs, Xr (T.scal ht).2, storeCells, run_store _ _ _ _ _ h1, Addr.add_lit, hc, hz]
  · refine hw.upd hu rfl rfl rfl (by simp) fun S1 ⟨hown, hS⟩ => ⟨⟨⟨?_, ?_⟩, hS⟩, fun b hb' _ => Below.heap_setCell w _ v b (fun e => hb' (by rw [e]; exact hS ⟨g, 0, none⟩ rfl))⟩
    · simpa using hown.1
    · rcases hown.2 with ⟨e1, _⟩ | ⟨g', c', cur', e1, e2, e3, e4, e5, e6, e7⟩
      · cases e1
      · injection e1 with e1 e8 e9
        injection e1 with e1
        injection e1 with e1
        subst e1
        refine .inr ⟨g, c', cur'.setIfInBounds j v, by rw [e9], e2, ?_, e4, e5, by simpa using e6, ?_⟩
        · simp [World.setCell, Array.getElem?_modify, e3]
        · rw [← e7]
          simp only [Array.toList_setIfInBounds]
          rw [List.take_set]
theorem YfW {x y : Operand} {k : IntKind} {a b : Int} {tys : Array TypeId} (hx : evo env x = some (.int k a)) (hy : evo env y = some (.int k b)) (hn : Nat.ble (d + 1) n.k = true) (h1 : b < a → VL P m n B w0 ops Q rest ((d, .int k b) :: env) H) (h2 : a ≤ b → VL P m n B w0 ops Q rest ((d, .int k a) :: env) H) :
    VL P m n B w0 ops Q (⟨some d, .call ⟨.builtin .min, #[x, y], tys⟩, ty, pos, after, none⟩ :: rest) env H := by
  by_cases hc : b < a
  · exact Yw rfl rfl hn rfl (fun f w ha _ => by simp [execOp, resolve, invoke, builtin, ha.eval hx, ha.eval hy, run_min_int2, hc]) (h1 hc)
  · exact Yw rfl rfl hn rfl (fun f w ha _ => by simp [execOp, resolve, invoke, builtin, ha.eval hx, ha.eval hy, run_min_int2, hc]) (h2 (by omega))
theorem UH {t e len : Nat} {parts : List (Nat × Operand)} {ps : List (Nat × Value)} {cs : Array Value} (hp : Ol env parts ps) (hb : ∀ w, (Instr.buildSlice t len ps.toArray).run P w = .ok (.slice (some ⟨w.heap.size, 0, none⟩) len len) (w.alloc (.cells cs e (0, 0)))) (hn : Nat.ble (d + 1) n.k = true)
    (h : ∀ g, VL P none n B w0 ops Q rest ((d, .slice (some ⟨g, 0, none⟩) len len) :: env) (blk g (.cells cs e (0, 0)) :: H)) : VL P none n B w0 ops Q (⟨some d, .buildSlice t len parts.toArray, ty, pos, after, none⟩ :: rest) env H := by
  refine Xw (fun v K => ∃ g, v = .slice (some ⟨g, 0, none⟩) len len ∧ K = blk g (.cells cs e (0, 0)) :: H) rfl rfl hn (fun a w ha hw => ?_) (by rintro _ _ ⟨g, rfl, rfl⟩; exact h g)
  have hm : (parts.toArray.map fun (i, x) => (i, a.eval x)) = ps.toArray := by rw [List.map_toArray]; exact congrArg List.toArray (W5 ha _ _ hp)
  refine ⟨_, _, w.alloc (.cells cs e (0, 0)), ?_, hw.alloc _, w.heap.size, rfl, rfl⟩
  simp only [execOp, hm]
  simp [hb]
theorem On (e size : Nat) {ex : Exit} (h : VQ n B w0 Q ex env (sl e size none 0 0 [] :: H)) : VQ n B w0 Q ex env H := ⟨fun a w ha hw => h.run a w ha (hw.nilSlice e size)⟩
theorem Yc9 {α β : Type} (E : α → β → Env) (HH : α → β → List HP) (I : α → β → Prop) (μ : α → β → Nat) {c : Code} (x0 : α) (y0 : β) (h0 : I x0 y0)
    (he : ∀ t v, get (E x0 y0) t = some v → get env t = some v) (hH : ∀ w, St B w0 H w → St B w0 (HH x0 y0) w)
    (round : ∀ x y, I x y → ∀ K : Act → World → Prop, (∀ x' y', I x' y' → μ x' y' < μ x y → ∀ env' H', (∀ t v, get (E x' y') t = some v → get env' t = some v) → (∀ w, St B w0 H' w → St B w0 (HH x' y') w) → VQ n B w0 (Exit.then K Q) .normal env' H') →
      VC P n B w0 c (Exit.then K Q) (E x y) (HH x y)) : VC P n B w0 (.loop c) Q env H :=
  YfT (α := α × β) (fun p => E p.1 p.2) (fun p => HH p.1 p.2) (fun p => I p.1 p.2) (fun p => μ p.1 p.2) (x0, y0) h0 he hH fun p hp =>
    round p.1 p.2 hp _ fun x' y' hI hμ _ _ he' hH' => Yds (x', y') hI hμ he' hH'
theorem Yl {α : Type} (E : α → Env) (HH : α → List HP) (I : α → Prop) (μ : α → Nat) {c : Code} (x0 : α) (h0 : I x0)
    (he : ∀ t v, get (E x0) t = some v → get env t = some v) (hH : ∀ w, St B w0 H w → St B w0 (HH x0) w)
    (round : ∀ x, I x → ∀ K : Act → World → Prop, (∀ x', I x' → μ x' < μ x → ∀ env' H', (∀ t v, get (E x') t = some v → get env' t = some v) → (∀ w, St B w0 H' w → St B w0 (HH x') w) → VQ n B w0 (Exit.then K Q) .normal env' H') →
      VC P n B w0 c (Exit.then K Q) (E x) (HH x)) : VC P n B w0 (.loop c) Q env H :=
  YfT E HH I μ x0 h0 he hH fun p hp => round p hp _ fun x' hI hμ _ _ he' hH' => Yds x' hI hμ he' hH'
end
open Go.RowKit
open Go.ChangeMaps (setBlock)
def U4 (P : Program) (t : TypeId) : Option Value → Option Value → Bool
  | some (.int k _), some (.int k' _) => decide (k = k') && (match P.underlying t with | some (.int _) => true | _ => false)
  | some (.string _), some (.string _) => match P.underlying t with | some .string => true | _ => false
  | some (.bool _), some (.bool _) => match P.underlying t with | some .bool => true | _ => false
  | _, _ => false
def O9 (P : Program) (t : TypeId) (xs ys : List Value) : Bool :=
  match P.underlying t with
  | some (.struct fs) => !P.stoodInHeld t && (fs.toList.map (·.offset) == List.range xs.length) && (xs.length == ys.length) && fs.toList.all (fun f => f.name != "_" && U4 P f.type xs[f.offset]? ys[f.offset]?)
  | _ => false
section
variable {P : Program}
theorem YcV (w : World) (d : Nat) {t : TypeId} {x y : Value} (h : U4 P t (some x) (some y) = true) : ∃ r : Bool, (Op.equalIn (d + 1) t x y).run P w = .ok r w ∧ (r = true ↔ x = y) := by
  unfold U4 at h
  split at h
  · rename_i k a k' b e1 e2
    injection e1 with e1; injection e2 with e2
    subst e1; subst e2
    simp only [Bool.and_eq_true, decide_eq_true_eq] at h
    obtain ⟨rfl, h⟩ := h
    split at h
    · rename_i q hu
      exact ⟨a == b, run_equalIn_int w d t k q a b hu, by simp⟩
    · cases h
  · rename_i a b e1 e2
    injection e1 with e1; injection e2 with e2
    subst e1; subst e2
    split at h
    · rename_i hu
      exact ⟨a.toList == b.toList, run_equalIn_string w d t a b hu, by rw [Vb]; simp⟩
    · cases h
  · rename_i a b e1 e2
    injection e1 with e1; injection e2 with e2
    subst e1; subst e2
    split at h
    · rename_i hu
      exact ⟨a == b, run_equalIn_bool w d t a b hu, by simp⟩
    · cases h
  · cases h
theorem Yfr {t : TypeId} {x y : Option Value} (h : U4 P t x y = true) : P.plainKey t = true ∧ ∃ a b, x = some a ∧ y = some b := by
  unfold U4 at h
  split at h
  · simp only [Bool.and_eq_true] at h
    obtain ⟨_, h⟩ := h
    split at h
    · rename_i hu; exact ⟨by simp [Program.plainKey, hu], _, _, rfl, rfl⟩
    · cases h
  · split at h
    · rename_i hu; exact ⟨by simp [Program.plainKey, hu], _, _, rfl, rfl⟩
    · cases h
  · split at h
    · rename_i hu; exact ⟨by simp [Program.plainKey, hu], _, _, rfl, rfl⟩
    · cases h
  · cases h
theorem UR (w : World) (d : Nat) (xs ys : List Value) : ∀ fs : List Field, (∀ f ∈ fs, f.name ≠ "_" ∧ U4 P f.type xs[f.offset]? ys[f.offset]? = true) →
    ∃ r : Bool, (Op.eqFields (d + 1) xs.toArray ys.toArray fs).run P w = .ok r w ∧ (r = true ↔ ∀ f ∈ fs, xs[f.offset]? = ys[f.offset]?)
  | [], _ => ⟨true, by simp [Op.eqFields], by simp⟩
  | f :: fs, hall => by
    obtain ⟨hn, hl⟩ := hall f (by simp)
    obtain ⟨hp, a, b, hx, hy⟩ := Yfr hl
    rw [hx, hy] at hl
    obtain ⟨r, hr, hiff⟩ := YcV w d hl
    obtain ⟨r', hr', hiff'⟩ := UR w d xs ys fs (fun g hg => hall g (by simp [hg]))
    have p1 := run_part_plain (P := P) (w := w) hp (xs := xs.toArray) (off := f.offset) (v := a) (by simpa using hx)
    have p2 := run_part_plain (P := P) (w := w) hp (xs := ys.toArray) (off := f.offset) (v := b) (by simpa using hy)
    simp only [Op.eqFields, hn, ne_eq, not_false_eq_true, if_true, Sem.run_bind, p1, p2, hr, Result.andThen_ok]
    cases r
    · refine ⟨false, by simp, ?_⟩
      simp only [Bool.false_eq_true, false_iff]
      intro h
      have h1 := h f (by simp)
      rw [hx, hy] at h1
      injection h1 with h1
      exact absurd (hiff.2 h1) (by simp)
    · refine ⟨r', by simpa using hr', ?_⟩
      rw [hiff']
      have h1 : a = b := hiff.1 rfl
      constructor
      · intro h g hg
        rcases List.mem_cons.1 hg with rfl | hg
        · rw [hx, hy, h1]
        · exact h g hg
      · exact fun h g hg => h g (by simp [hg])
theorem YfC (w : World) {t : TypeId} {xs ys : List Value} (h : O9 P t xs ys = true) : ∃ r : Bool, (Op.equal t (.agg xs.toArray) (.agg ys.toArray)).run P w = .ok r w ∧ (r = true ↔ xs = ys) := by
  unfold O9 at h
  split at h
  · rename_i fs hu
    simp only [Bool.and_eq_true, Bool.not_eq_true', beq_iff_eq, List.all_eq_true, bne_iff_ne, ne_eq] at h
    obtain ⟨⟨⟨h1, h2⟩, h3⟩, h4⟩ := h
    have hfs : P.fieldsOf t = fs := by simp [Program.fieldsOf, hu]
    obtain ⟨r, hr, hiff⟩ := UR w 9998 xs ys fs.toList h4
    refine ⟨r, ?_, ?_⟩
    · unfold Op.equal
      rw [show Op.maxDepth = 9999 + 1 from rfl, run_equalIn_struct w 9999 t _ _ (by rw [hfs]; exact hu) h1, hfs]
      exact hr
    · rw [hiff]
      constructor
      · intro h
        apply List.ext_getElem?
        intro i
        by_cases hi : i < xs.length
        · have : i ∈ fs.toList.map (·.offset) := by rw [h2]; exact List.mem_range.2 hi
          obtain ⟨f, hf, rfl⟩ := List.mem_map.1 this
          exact h f hf
        · rw [List.getElem?_eq_none (by omega), List.getElem?_eq_none (by omega)]
      · rintro rfl f _; rfl
  · cases h
end
section
variable {P : Program} {n : Shp} {B : Nat} {w0 : World} {Q : Exit → Act → World → Prop} {env : Env} {H : List HP} {m : Mode} {ops : Array Oper} {rest : List Oper} {d : Nat} {ty : TypeId} {pos : String} {after : Array Edge}
theorem Od (w : World) (k : Nat) {t e : TypeId} (a : Option Addr) (hu : P.underlying t = some (.pointer e)) : (Op.equalIn (k + 1) t (.pointer a) (.pointer none)).run P w = .ok a.isNone w := by
  unfold Op.equalIn
  cases a <;> simp [run_underlying hu]
def YiK (P : Program) (t : TypeId) : Bool := match P.underlying t with | some (.pointer _) => true | _ => false
theorem Yfm {t : TypeId} (h : YiK P t = true) : ∃ e, P.underlying t = some (.pointer e) := by
  unfold YiK at h
  split at h
  · rename_i e hu; exact ⟨e, hu⟩
  · cases h
theorem Ydm {xt yt : TypeId} {x : Operand} {a : Option Addr} (hx : evo env x = some (.pointer a)) (hn : Nat.ble (d + 1) n.k = true) (hu : YiK P xt = true)
    (h : VL P m n B w0 ops Q rest ((d, .bool a.isNone) :: env) H) : VL P m n B w0 ops Q (⟨some d, .binOp .eql xt x (.const (.pointer none)) yt, ty, pos, after, none⟩ :: rest) env H := by
  obtain ⟨e, hu⟩ := Yfm hu
  refine YR hx (y := .const (.pointer none)) rfl hn (fun w => by simp [eqGuard]) (fun w => ?_) h
  simp only [binOp, Op.equal]
  rw [Sem.run_bind, show Op.maxDepth = 9999 + 1 from rfl, Od w 9999 a hu]
  simp
theorem Oq {t k e size : Nat} (h : QD P t = some (k, e, size)) : ∃ i, P.underlying t = some (.array k e) ∧ P.info? e = some i ∧ i.size = size := by
  unfold QD at h
  split at h
  · rename_i k' e' hu
    cases hi : P.info? e' with
    | none => rw [hi] at h; cases h
    | some i =>
      rw [hi] at h
      simp only [Option.map_some, Option.some.injEq, Prod.mk.injEq] at h
      obtain ⟨rfl, rfl, rfl⟩ := h
      exact ⟨i, hu, hi, rfl⟩
  · cases h
theorem J9 (T : Tab P) {t g o k e size : Nat} {x y : Operand} {ki : IntKind} {i : Int} (hx : evo env x = some (.pointer (some ⟨g, o, none⟩))) (hy : evo env y = some (.int ki i)) (ht : look T.ar t = some (k, e, size)) (hn : Nat.ble (d + 1) n.k = true) (hi : 0 ≤ i ∧ i < k)
    (h : VL P m n B w0 ops Q rest ((d, .pointer (some ⟨g, o + i.toNat * size, none⟩)) :: env) H) :
    VL P m n B w0 ops Q (⟨some d, .indexAddr t x y, ty, pos, after, none⟩ :: rest) env H := by
  obtain ⟨inf, hu, hinf, hs⟩ := Oq (T.arra ht)
  refine Yw rfl rfl hn rfl (fun a w ha hw => ?_) h
  simp [execOp, ha.eval hx, ha.eval hy, Instr.indexAt, Instr.sureAddr, asIntOf, run_underlying hu, hi, sizeOf, typeInfo, hinf, hs, Addr.add_lit]
abbrev Ents := List (Int × Value × Nat)
def toE (e : Int × Value × Nat) : MapEntry := ⟨.int .i64 e.1, e.2.1, e.2.2⟩
def mobj (es : Ents) (clock : Nat) : Obj := .map (es.map toE).toArray clock
def mget (es : Ents) (k : Int) : Option Value := (es.find? fun e => e.1 == k).map (·.2.1)
def mapT (P : Program) (t kt et : TypeId) : Bool := (match P.underlying t with | some (.map a b) => a == kt && b == et | _ => false) && (match P.underlying kt with | some (.int .i64) => true | _ => false)
theorem UD {t kt et : TypeId} (h : mapT P t kt et = true) : P.underlying t = some (.map kt et) ∧ P.underlying kt = some (.int .i64) := by
  unfold mapT at h
  rw [Bool.and_eq_true] at h
  obtain ⟨h1, h2⟩ := h
  constructor
  · split at h1
    · rename_i a b hu
      simp only [Bool.and_eq_true, beq_iff_eq] at h1
      rw [hu, h1.1, h1.2]
    · cases h1
  · split at h2
    · rename_i hu; exact hu
    · cases h2
theorem Vg {es : Ents} {k : Int} (i : Nat) (h : mget es k = none) : Instr.findNow (.int .i64) (.int .i64 k) (es.map toE) i = some none := by
  induction es generalizing i with
  | nil => rfl
  | cons e es ih =>
    simp only [mget, List.find?_cons] at h
    by_cases hk : e.1 = k
    · simp [hk] at h
    · have hk' : (e.1 == k) = false := by simpa using hk
      rw [hk'] at h
      have : (k == e.1) = false := by simpa using fun e => hk e.symm
      simp only [List.map_cons, Instr.findNow, toE, Instr.sameNow, if_true, this]
      exact ih (i + 1) h
theorem YcG {es : Ents} {k : Int} {v : Value} (i : Nat) (h : mget es k = some v) : ∃ l1 b l2, es = l1 ++ (k, v, b) :: l2 ∧ (∀ e ∈ l1, e.1 ≠ k) ∧ Instr.findNow (.int .i64) (.int .i64 k) (es.map toE) i = some (some (i + l1.length, v)) := by
  induction es generalizing i with
  | nil => simp [mget] at h
  | cons e es ih =>
    simp only [mget, List.find?_cons] at h
    by_cases hk : e.1 = k
    · have hk' : (e.1 == k) = true := by simpa using hk
      rw [hk'] at h
      simp only [Option.map_some, Option.some.injEq] at h
      refine ⟨[], e.2.2, es, by rw [← h, ← hk]; rfl, by simp, ?_⟩
      have : (k == e.1) = true := by simpa using hk.symm
      simp only [List.map_cons, Instr.findNow, toE, Instr.sameNow, if_true, this]
      simp [h]
    · have hk' : (e.1 == k) = false := by simpa using hk
      rw [hk'] at h
      have : (k == e.1) = false := by simpa using fun e => hk e.symm
      obtain ⟨l1, b, l2, e1, e2, e3⟩ := ih (i + 1) h
      refine ⟨e :: l1, b, l2, by rw [e1]; rfl, ?_, ?_⟩
      · intro x hx
        rcases List.mem_cons.1 hx with rfl | hx
        · exact hk
        · exact e2 x hx
      · simp only [List.map_cons, Instr.findNow, toE, Instr.sameNow, if_true, this]
        rw [e3]
        simp; omega
theorem U6 {α : Type} (f : α → α) (xs : List α) (y : α) (zs : List α) : (xs ++ y :: zs).modify xs.length f = xs ++ f y :: zs := by
  induction xs with
  | nil => rfl
  | cons x xs ih => simp only [List.cons_append, List.length_cons, List.modify_succ_cons, ih]
theorem Z8 (w : World) {kt : TypeId} (hk : P.underlying kt = some (.int .i64)) (k : Int) (b : Bool) : (Instr.checkKey b 10000 kt (.int .i64 k)).run P w = .ok () w := by
  rw [show 10000 = 9999 + 1 from rfl]
  unfold Instr.checkKey
  simp [run_underlying hk]
theorem St.setBlock {w : World} {K : List HP} {g : Nat} {o o' : Obj} (h : St B w0 H w) (u : Upd (Eng.blk g o) (Eng.blk g o') H K) : St B w0 K (ChangeMaps.setBlock w g o') := by
  refine h.upd u rfl rfl rfl (by simp [ChangeMaps.setBlock]) fun S1 ⟨h1, h2⟩ => ⟨⟨h1, ?_⟩, fun b hb _ => ?_⟩
  · have : g < w.heap.size := (Array.getElem?_eq_some_iff.1 h2).1
    simp [ChangeMaps.setBlock, this]
  · have : g ≠ b := fun e => hb (e ▸ h1)
    simp [ChangeMaps.setBlock, this]
theorem YeY {t : TypeId} (hn : Nat.ble (d + 1) n.k = true) (h : ∀ g, VL P none n B w0 ops Q rest ((d, .map (some g)) :: env) (blk g (mobj [] 0) :: H)) : VL P none n B w0 ops Q (⟨some d, .makeMap t none, ty, pos, after, none⟩ :: rest) env H :=
  Xw (fun v K => ∃ g, v = .map (some g) ∧ K = blk g (mobj [] 0) :: H) rfl rfl hn
    (fun a w _ hw => ⟨_, _, w.alloc (mobj [] 0), by simp [execOp, Instr.makeMap, newObj, Sem.run, mobj], hw.alloc _, w.heap.size, rfl, rfl⟩)
    (by rintro _ _ ⟨g, rfl, rfl⟩; exact h g)
theorem XK {t kt et g clock : Nat} {es : Ents} {x y : Operand} {k : Int} {v : Value} (hx : evo env x = some (.map (some g))) (hy : evo env y = some (.int .i64 k)) (hm : blk g (mobj es clock) ∈ H) (ht : mapT P t kt et = true) (hn : Nat.ble (d + 1) n.k = true) (hk : mget es k = some v)
    (h : VL P m n B w0 ops Q rest ((d, .tuple #[v, .bool true]) :: env) H) : VL P m n B w0 ops Q (⟨some d, .lookup t x y true, ty, pos, after, none⟩ :: rest) env H := by
  obtain ⟨h1, h2⟩ := UD ht
  refine Yw rfl rfl hn rfl (fun a w ha hw => ?_) h
  have hb := (hw.blk hm).1
  unfold mobj at hb
  obtain ⟨l1, b, l2, _, _, e3⟩ := YcG 0 hk
  simp [execOp, ha.eval hx, ha.eval hy, Instr.lookup, run_underlying h1, getObj, Sem.run, hb, Z8 _ h2, MapKept.run_findKey h2 e3]
theorem Zc {t kt et g clock : Nat} {es : Ents} {x y : Operand} {k : Int} {z : Value} (hx : evo env x = some (.map (some g))) (hy : evo env y = some (.int .i64 k)) (hm : blk g (mobj es clock) ∈ H) (ht : mapT P t kt et = true) (hn : Nat.ble (d + 1) n.k = true) (hk : mget es k = none) (hz : ∀ w, (zeroValue et).run P w = .ok z w)
    (h : VL P m n B w0 ops Q rest ((d, .tuple #[z, .bool false]) :: env) H) : VL P m n B w0 ops Q (⟨some d, .lookup t x y true, ty, pos, after, none⟩ :: rest) env H := by
  obtain ⟨h1, h2⟩ := UD ht
  refine Yw rfl rfl hn rfl (fun a w ha hw => ?_) h
  have hb := (hw.blk hm).1
  unfold mobj at hb
  simp [execOp, ha.eval hx, ha.eval hy, Instr.lookup, run_underlying h1, getObj, Sem.run, hb, Z8 _ h2, MapKept.run_findKey h2 (Vg 0 hk), hz]
theorem YgI {t kt et g clock : Nat} {es : Ents} {x y u : Operand} {k : Int} {v : Value} {K : List HP} (hx : evo env x = some (.map (some g))) (hy : evo env y = some (.int .i64 k)) (hv : evo env u = some v) (ht : mapT P t kt et = true)
    (hu : Upd (blk g (mobj es clock)) (blk g (mobj (es ++ [(k, v, clock)]) (clock + 1))) H K) (hk : mget es k = none)
    (h : VL P none n B w0 ops Q rest env K) : VL P none n B w0 ops Q (⟨none, .mapUpdate t x y u, ty, pos, after, none⟩ :: rest) env H := by
  obtain ⟨h1, h2⟩ := UD ht
  refine Z5 rfl rfl (fun a w ha hw => ⟨setBlock w g (mobj (es ++ [(k, v, clock)]) (clock + 1)), ?_, hw.setBlock hu⟩) h
  have hb : w.heap[g]? = some (mobj es clock) := by
    obtain ⟨L1, L2, rfl, _⟩ := hu
    exact (hw.blk (by simp)).1
  have hb' := hb
  unfold mobj at hb
  simp [execOp, ha.eval hx, ha.eval hy, ha.eval hv, Instr.mapUpdate, run_underlying h1, getObj, Sem.run, hb, Z8 _ h2, MapKept.run_findKey h2 (Vg 0 hk), MapKept.run_setObj_map _ hb, setBlock, mobj, toE]
theorem Yk3 {o : Oper} {v : Value} {H' : List HP} (hg : o.guard = none) (hd : o.dst = none)
    (hr : ∀ a w, Fits n a env → St B w0 H w → ∃ w', (execOp a.eval o).run P w = .ok (.value v) w' ∧ St B w0 H' w')
    (h : VL P none n B w0 ops Q rest env H') : VL P none n B w0 ops Q (o :: rest) env H := by
  refine ⟨fun a ha w hw => wpList_plain hg fun K hK => ?_⟩
  obtain ⟨w', hrun, hst⟩ := hr a w ha hw
  unfold Oper.wp
  rw [hrun, Oper.upon_value, hd]
  exact hK _ _ (h.run _ ha _ hst)
theorem Yq {fn : Fn} {caps : List Operand} {cs : List Value} (hc : Args env caps cs) (hn : Nat.ble (d + 1) n.k = true) (h : VL P none n B w0 ops Q rest ((d, .func fn #[] cs.toArray) :: env) H) :
    VL P none n B w0 ops Q (⟨some d, .makeFunc fn #[] caps.toArray, ty, pos, after, none⟩ :: rest) env H := by
  refine Yh6 rfl rfl hn (fun a w ha hw => ⟨w, ?_, hw⟩) h
  have hmap : caps.toArray.map a.eval = cs.toArray := by rw [List.map_toArray, Vq ha _ _ hc]
  simp [execOp, Instr.makeFunc, hmap]
theorem Wc {f : Nat} {x : Operand} {args : List Operand} {tys : Array TypeId} {vs cs : List Value} (Φ : Value → List HP → Prop) (hx : evo env x = some (.func (.func f) #[] cs.toArray))
    (hc : ∀ xs w, (callFunc f xs).run P w = .ok (.enter f xs) w) (hargs : Args env args vs) (hn : Nat.ble (d + 1) n.k = true)
    (hcall : ∀ w, St B w0 H w → Calls P f (vs ++ cs).toArray w (Post B w0 Φ))
    (h : ∀ v H', Φ v H' → VL P none n B w0 ops Q rest ((d, v) :: env) H') :
    VL P none n B w0 ops Q (⟨some d, .call ⟨.value x, args.toArray, tys⟩, ty, pos, after, none⟩ :: rest) env H := by
  refine ⟨fun a ha w hw => wpList_plain rfl fun K hK => ?_⟩
  unfold Oper.wp
  have hmap : args.toArray.map a.eval = vs.toArray := by rw [List.map_toArray, Vq ha _ _ hargs]
  have hrun : (execOp a.eval ⟨some d, .call ⟨.value x, args.toArray, tys⟩, ty, pos, after, none⟩).run P w = .ok (.enter f (vs ++ cs).toArray) w := by
    simp only [execOp, resolve, ha.eval hx, hmap, Deferred.ofValue, Sem.run_bind, Sem.run_pure, Result.andThen_ok, invoke]
    simpa using hc ((vs ++ cs).toArray) w
  rw [hrun, Oper.upon_enter]
  refine (hcall w hw).mono ?_
  rintro e w' ⟨v, H', rfl, hst, hΦ⟩
  exact hK _ _ ((h v H' hΦ).run _ (ha.put (Nat.le_of_ble_eq_true hn) v) _ hst)
def many (L : List HP) : HP := ⟨fun S w => sepL L S w, fun h hs => WE hs h⟩
theorem YaI {M : List HP} {w : World} : ∀ {L : List HP} {S : Nat → Prop}, sepL (L ++ M) S w → ∃ S1 S2 : Nat → Prop, (∀ b, S1 b → S b) ∧ (∀ b, S2 b → S b) ∧ (∀ b, S1 b → ¬ S2 b) ∧ sepL L S1 w ∧ sepL M S2 w
  | [], S, h => ⟨fun _ => False, S, fun _ hb => hb.elim, fun _ hb => hb, fun _ hb => hb.elim, trivial, h⟩
  | A :: L, S, h => by
    obtain ⟨T1, T2, h1, h2, h3, h4, h5⟩ := h
    obtain ⟨U1, U2, k1, k2, k3, k4, k5⟩ := YaI h5
    refine ⟨fun b => T1 b ∨ U1 b, U2, fun b hb => hb.elim (h1 b) (fun hb => h2 b (k1 b hb)), fun b hb => h2 b (k2 b hb), fun b hb hc => ?_, ⟨T1, U1, fun b hb => .inl hb, fun b hb => .inr hb, fun b hb hc => h3 b hb (k1 b hc), h4, k4⟩, k5⟩
    rcases hb with hb | hb
    · exact h3 b hb (k2 b hc)
    · exact k3 b hb hc
theorem Yb6 {M : List HP} {w : World} : ∀ {L : List HP} {S S1 S2 : Nat → Prop}, (∀ b, S1 b → S b) → (∀ b, S2 b → S b) → (∀ b, S1 b → ¬ S2 b) → sepL L S1 w → sepL M S2 w → sepL (L ++ M) S w
  | [], _, _, _, _, h2, _, _, h => J5 h h2
  | A :: L, S, S1, S2, h1, h2, h3, h4, h5 => by
    obtain ⟨T1, T2, k1, k2, k3, k4, k5⟩ := h4
    refine ⟨T1, fun b => T2 b ∨ S2 b, fun b hb => h1 b (k1 b hb), fun b hb => hb.elim (fun hb => h1 b (k2 b hb)) (h2 b), fun b hb hc => ?_, k4, Yb6 (fun b hb => .inl hb) (fun b hb => .inr hb) (fun b hb hc => h3 b (k2 b hb) hc) k5 h5⟩
    rcases hc with hc | hc
    · exact k3 b hb hc
    · exact h3 b (k1 b hb) hc
theorem Perm.open_ (L M : List HP) : Perm (many L :: M) (L ++ M) := ⟨fun _ _ ⟨_, _, h1, h2, h3, h4, h5⟩ => Yb6 h1 h2 h3 h4 h5⟩
theorem Perm.close (L M : List HP) : Perm (L ++ M) (many L :: M) := ⟨fun _ _ h => YaI h⟩
theorem Perm.mid (A : HP) : ∀ (L M : List HP), Perm (L ++ A :: M) (A :: (L ++ M))
  | [], _ => .refl _
  | B :: L, M => .trans (.cons B (.mid A L M)) (.swap B A (L ++ M))
theorem Perm.mid' (A : HP) : ∀ (L M : List HP), Perm (A :: (L ++ M)) (L ++ A :: M)
  | [], _ => .refl _
  | B :: L, M => .trans (.swap A B (L ++ M)) (.cons B (.mid' A L M))
theorem Perm.drop (A : HP) (L : List HP) : Perm (A :: L) L := ⟨fun _ _ h => Yb7 h⟩
theorem Perm.pull (A : HP) (L1 L2 M : List HP) : Perm (many (L1 ++ A :: L2) :: M) (A :: many (L1 ++ L2) :: M) := by
  refine .trans (.open_ _ _) ?_
  rw [List.append_assoc, List.cons_append]
  refine .trans (.mid A L1 (L2 ++ M)) (.cons A ?_)
  rw [← List.append_assoc]
  exact .close _ _
theorem Perm.push (A : HP) (L1 L2 M : List HP) : Perm (A :: many (L1 ++ L2) :: M) (many (L1 ++ A :: L2) :: M) := by
  refine .trans (.cons A (.open_ _ _)) ?_
  rw [List.append_assoc]
  refine .trans (.mid' A L1 (L2 ++ M)) ?_
  rw [← List.cons_append, ← List.append_assoc]
  exact .close _ _
theorem Perm.noMany (M : List HP) : Perm M (many [] :: M) := .close [] M
end
open Go.RowKit
inductive PutAt : List Value → Nat → List Value → List Value → Prop
  | nil {l : List Value} {o : Nat} : PutAt l o [] l
  | cons {l l1 l' r : List Value} {o : Nat} {v : Value} (h : Ybl l o v l1) (h2 : PutAt l1 (o + 1) r l') : PutAt l o (v :: r) l'
section
variable {P : Program} {m : Mode} {n : Shp} {B : Nat} {w0 : World} {ops : Array Oper} {Q : Exit → Act → World → Prop} {rest : List Oper} {env : Env} {H : List HP} {d : Nat} {ty : TypeId} {pos : String} {after : Array Edge}
theorem UO {g : Nat} {tt : TypeId} {fr : Nat × Nat} : ∀ {vs cs cs' : List Value} {o : Nat} {w : World}, PutAt cs o vs cs' → w.heap[g]? = some (.cells cs.toArray tt fr) → (w.setCells g o vs).heap[g]? = some (.cells cs'.toArray tt fr)
  | [], _, _, _, _, h, hb => by cases h; exact hb
  | v :: vs, cs, cs', o, w, h, hb => by
    cases h with
    | cons h1 h2 =>
      rw [World.setCells]
      refine UO h2 ?_
      obtain ⟨_, rfl⟩ := h1
      simp [World.setCell, Array.getElem?_modify, hb]
theorem Z4 {g b : Nat} (hne : b ≠ g) : ∀ (vs : List Value) (o : Nat) (w : World), (w.setCells g o vs).heap[b]? = w.heap[b]?
  | [], _, _ => rfl
  | v :: vs, o, w => by rw [World.setCells, Z4 hne vs (o + 1)]; exact Below.heap_setCell w _ v b hne
theorem US {g : Nat} : ∀ (vs : List Value) (o : Nat) (w : World), (w.setCells g o vs).os = w.os ∧ (w.setCells g o vs).tape = w.tape ∧ (w.setCells g o vs).output = w.output ∧ (w.setCells g o vs).heap.size = w.heap.size
  | [], _, _ => ⟨rfl, rfl, rfl, rfl⟩
  | v :: vs, o, w => by
    obtain ⟨h1, h2, h3, h4⟩ := US (g := g) vs (o + 1) (w.setCell ⟨g, o, none⟩ v)
    exact ⟨h1, h2, h3, h4.trans (by simp)⟩
theorem St.setCells {w : World} {K : List HP} {g o : Nat} {cs cs' vs : List Value} {tt : TypeId} {fr : Nat × Nat} (h : St B w0 H w) (hp : PutAt cs o vs cs')
    (u : Upd (Eng.blk g (.cells cs.toArray tt fr)) (Eng.blk g (.cells cs'.toArray tt fr)) H K) : St B w0 K (w.setCells g o vs) := by
  obtain ⟨h1, h2, h3, h4⟩ := US (g := g) vs o w
  refine h.upd u h1 h2 h3 (Nat.le_of_eq h4.symm) fun S1 ⟨hs, hb⟩ => ⟨⟨hs, UO hp hb⟩, fun b hnb _ => Z4 (fun e : b = g => hnb (by rw [e]; exact hs)) vs o w⟩
theorem Yet : ∀ {vs l l' : List Value} {o : Nat}, PutAt l o vs l' → ∀ j, j < vs.length → o + j < l.length
  | [], _, _, _, _, j, hj => by simp at hj
  | v :: vs, l, l', o, h, j, hj => by
    cases h with
    | cons h1 h2 =>
      obtain ⟨h0, rfl⟩ := h1
      cases j with
      | zero => exact h0
      | succ j => have := Yet h2 j (by simpa using hj); simp at this; omega
theorem Ycm (T : Tab P) {t g i k : Nat} {cs vs cs' : List Value} {tt : TypeId} {x y : Operand} {K : List HP} (hx : evo env x = some (.pointer (some ⟨g, i, none⟩))) (hy : evo env y = some (.agg vs.toArray)) (h1 : Jg vs = true)
    (hu : Upd (blk g (.cells cs.toArray tt (0, 0))) (blk g (.cells cs'.toArray tt (0, 0))) H K) (hs : PutAt cs i vs cs')
    (ht : look T.ag t = some k) (hk : vs.length = k) (h : VL P none n B w0 ops Q rest env K) : VL P none n B w0 ops Q (⟨none, .store t x y, ty, pos, after, none⟩ :: rest) env H := by
  refine Z5 rfl rfl (fun a w ha hw => ⟨w.setCells g i vs, ?_, hw.setCells hs hu⟩) h
  have hb : w.heap[g]? = some (.cells cs.toArray tt (0, 0)) := by
    obtain ⟨L1, L2, rfl, _⟩ := hu
    exact (hw.blk (by simp)).1
  have hr := run_storeCells_cells (P := P) g i vs 0 w (fun j hj => by
      rw [Nat.add_zero, Y8 hb]; have := Yet hs j hj; simp [this]) (fun j hj => by simp [World.frozen?, hb]) (X6 h1)
  simp [execOp, ha.eval hx, ha.eval hy, Instr.storeAt, Instr.sureAddr, storeVar, Value.cells, Xr (ZA (T.aggs ht)), hk, hr]
theorem Z9 (T : Tab P) {w : World} {t g k : Nat} {cs : Array Value} {tt : TypeId} {fr : Nat × Nat} (hb : w.heap[g]? = some (.cells cs tt fr)) (ht : look T.ag t = some k) (hk : cs.size = k) : (loadVar t ⟨g, 0, none⟩).run P w = .ok (.agg cs) w := by
  have hl := run_loadCells_list (P := P) w ⟨g, 0, none⟩ cs.toList (fun j v hj => by rw [Addr.add_lit, Y8 hb, Nat.zero_add]; simpa using hj)
  rw [show cs.toList.length = k by simpa using hk] at hl
  simp [loadVar, XE (T.aggs ht), Xr (ZA (T.aggs ht)), hl]
theorem Ydr {n : Nat} (T : Tab P) {fn : Func} {Φ : Value → List HP → Prop} {p g k rt : Nat} {cs : Array Value} {tt : TypeId} {fr : Nat × Nat} (hr : fn.results = #[.cell p rt]) (hp : get env p = some (.pointer (some ⟨g, 0, none⟩)))
    (hm : blk g (.cells cs tt fr) ∈ H) (ht : look T.ag rt = some k) (hk : cs.size = k) {H2 : List HP} (hH : ∀ w, St B w0 H w → St B w0 H2 w) (h : Φ (.agg cs) H2) : VQ ⟨n, [], none⟩ B w0 (bodyPost P fn (Post B w0 Φ)) .ret env H := by
  refine ⟨fun a w ha hw => bodyPost_ret (v := .agg cs) ?_ ha.defers ⟨_, H2, rfl, hH w hw, h⟩⟩
  have hp' := ha.slot p _ hp
  simp [results, hr, Array.getD_eq_getD_getElem?, hp', asAddr, Z9 T (hw.blk hm).1 ht hk]
theorem Wf {n : Nat} (T : Tab P) {fn : Func} {Φ : Value → List HP → Prop} {p g k u rt : Nat} {x : Value} {cs : Array Value} {tt : TypeId} {fr : Nat × Nat} (hr : fn.results = #[.cell p rt, .tmp u]) (hp : get env p = some (.pointer (some ⟨g, 0, none⟩))) (hu : get env u = some x)
    (hm : blk g (.cells cs tt fr) ∈ H) (ht : look T.ag rt = some k) (hk : cs.size = k) {H2 : List HP} (hH : ∀ w, St B w0 H w → St B w0 H2 w) (h : Φ (.tuple #[.agg cs, x]) H2) : VQ ⟨n, [], none⟩ B w0 (bodyPost P fn (Post B w0 Φ)) .ret env H := by
  refine ⟨fun a w ha hw => bodyPost_ret (v := .tuple #[.agg cs, x]) ?_ ha.defers ⟨_, H2, rfl, hH w hw, h⟩⟩
  have hp' := ha.slot p _ hp
  simp [results, hr, Array.getD_eq_getD_getElem?, hp', ha.slot u _ hu, asAddr, Z9 T (hw.blk hm).1 ht hk]
end
open Go.RowKit
inductive OT where
  | done
  | n1 (i : Nat) (t : OT)
  | n2 (i : Nat) (t : OT) (j : Nat) (u : OT)
section
variable {P : Program} {n : Shp} {B : Nat} {w0 : World} {Q : Exit → Act → World → Prop} {env : Env} {H : List HP} {ops : Array Oper}
def Jy (P : Program) (ops : Array Oper) (l : List Oper) (Q : Exit → Act → World → Prop) (S : World → Prop) : OT → Act → World → Prop
  | .done, a, w => Q .normal a w
  | .n1 i t, a, w => Yt P ops (fun e a w => match e with | .normal => Jy P ops l Q S t a w | _ => False) S [nthO l i] a w
  | .n2 i t j u, a, w => Yt P ops (fun e a w => match e with | .normal => Jy P ops l Q S t a w | _ => False) S [nthO l i] a w ∧ Yt P ops (fun e a w => match e with | .normal => Jy P ops l Q S u a w | _ => False) S [nthO l j] a w
def Zi (ops : Array Oper) (i : Nat) : Bool := match ops[i]? with | some o => eff o | none => false
def YaS (ops : Array Oper) (last : List Nat) : OT → Array Bool → Nat → Bool
  | .done, listed, 0 => Vu ops last listed
  | .done, _, _ + 1 => false
  | .n1 i t, listed, k + 1 => !last.contains i && (match ops[i]? with
      | some o => if eff o then decide (Region.ready .any ops listed = [i]) else (Region.ready .any ops listed).contains i && Region.free .any ops listed i
      | none => false) && YaS ops last t (listed.setIfInBounds i true) k
  | .n2 i t j u, listed, k + 1 => !last.contains i && !last.contains j && Zi ops i && Zi ops j && ((Region.ready .any ops listed).all fun x => x == i || x == j) && !(Region.ready .any ops listed).isEmpty && YaS ops last t (listed.setIfInBounds i true) k && YaS ops last u (listed.setIfInBounds j true) k
  | .n1 _ _, _, 0 => false
  | .n2 _ _ _ _, _, 0 => false
theorem YN {l : List Oper} (hl : ops = l.toArray) {i : Nat} {o : Oper} (ho : ops[i]? = some o) : nthO l i = o := by
  rw [Qf]
  rw [hl] at ho
  simp only [List.getElem?_toArray] at ho
  simp [List.getD, ho]
theorem Zg {S : World → Prop} {Q1 : Exit → Act → World → Prop} {last : List Nat} {i k : Nat} {o : Oper} {listed : Array Bool} {a : Act} {w : World} (ho : ops[i]? = some o) (he : eff o = true) (_hl : last.contains i = false)
    (hQ1 : ∀ e a w, e ≠ .normal → ¬ Q1 e a w) (hS : S w) (h : Yt P ops Q1 S [o] a w)
    (hk : ∀ a w, S w → Q1 .normal a w → X3 P ops Q S last k (listed.setIfInBounds i true) a w) :
    wpOp P ops Q i (fun a' w' => (last.contains i = false → S w') ∧ X3 P ops Q S last k (listed.setIfInBounds i true) a' w') a w := by
  unfold Yt at h
  rw [if_pos he] at h
  unfold wpOp
  simp only [ho]
  by_cases hw : Region.wanted o (yielded ops a.tmps) = true
  · rw [if_pos hw] at h ⊢
    refine .inl (Oper.wp_mono_noQ (fun c a w => hQ1 _ a w (by intro h; cases h)) (by rintro ⟨a, w, h⟩; exact hQ1 _ _ _ (by intro h; cases h) h) (Oper.wp_mono (fun a' w' h' => ?_) h))
    exact ⟨fun _ => h'.1, hk a' w' h'.1 h'.2⟩
  · rw [if_neg hw] at h ⊢
    exact ⟨fun _ => hS, hk _ w hS h⟩
theorem Jt {S : World → Prop} {last : List Nat} (hs : Region.noSelect ops = true) (hQ : ∀ c (a : Act) (w : World), ¬ Q (.panic c) a w) (hlo : ¬ LetsOut Q) (l : List Oper) (hl : ops = l.toArray) (hlast : YbW ops last = true) :
    ∀ (t : OT) (k : Nat) (listed : Array Bool) (a : Act) (w : World), Closed ops listed → YaS ops last t listed k = true → S w → Jy P ops l (X5 P ops Q (Yj l last)) S t a w →
      X3 P ops Q S last (k + last.length) listed a w
  | .done, 0, listed, a, w, _, hB, _, h => by
    have := VB (S := S) l hl (Vn hlast).1 hlo last listed a w (fun j hj => by simpa using hj) hB h
    rw [Nat.zero_add]
    exact this
  | .done, _ + 1, _, _, _, _, hB, _, _ => by cases hB
  | .n1 _ _, 0, _, _, _, _, hB, _, _ => by cases hB
  | .n2 _ _ _ _, 0, _, _, _, _, hB, _, _ => by cases hB
  | .n1 i t, k + 1, listed, a, w, hcl, hB, hS, h => by
    simp only [YaS, Bool.and_eq_true] at hB
    obtain ⟨⟨h0, h1⟩, h2⟩ := hB
    have hno : last.contains i = false := by simpa using h0
    cases ho : ops[i]? with
    | none => rw [ho] at h1; cases h1
    | some o =>
      rw [ho] at h1
      have hget := YN hl ho
      unfold Jy at h
      rw [hget] at h
      rw [Nat.add_right_comm]
      by_cases he : eff o = true
      · simp only [he, if_true, decide_eq_true_eq] at h1
        refine ⟨fun h0 => (by rw [h1] at h0; cases h0), fun j hj => ?_⟩
        have hj' := hj
        rw [h1] at hj
        obtain rfl : j = i := by simpa using hj
        exact Zg ho he hno (fun e a w hne => by cases e <;> simp_all) hS h fun a w hS' h' => Jt hs hQ hlo l hl hlast t k _ a w (hcl.set hj') h2 hS' h'
      · simp only [he] at h1
        simp only [Bool.false_eq_true, if_false, Bool.and_eq_true] at h1
        unfold Yt at h
        rw [if_neg he] at h
        obtain ⟨v, hy, h3⟩ := h
        have hr : i ∈ Region.ready .any ops listed := by simpa using h1.1
        exact Zr ho (Region.noSelect_spec hs) hQ ((Vn hlast).2 i o ho (by simpa using he)) hno _ listed a w hcl (Region.free_spec ho h1.2) hr hy hS (Jt hs hQ hlo l hl hlast t k _ _ w (hcl.set hr) h2 hS h3)
  | .n2 i t j u, k + 1, listed, a, w, hcl, hB, hS, h => by
    simp only [YaS, Bool.and_eq_true] at hB
    obtain ⟨⟨⟨⟨⟨⟨⟨b1, b2⟩, b3⟩, b4⟩, b5⟩, b6⟩, b7⟩, b8⟩ := hB
    have hi : last.contains i = false := by simpa using b1
    have hj : last.contains j = false := by simpa using b2
    unfold Jy at h
    rw [Nat.add_right_comm]
    refine ⟨fun h0 => (by rw [h0] at b6; cases b6), fun x hx => ?_⟩
    have h5 := List.all_eq_true.1 b5 x hx
    simp only [Bool.or_eq_true, beq_iff_eq] at h5
    rcases h5 with rfl | rfl
    · unfold Zi at b3
      cases ho : ops[x]? with
      | none => rw [ho] at b3; cases b3
      | some o =>
        rw [ho] at b3
        have hg := h.1
        rw [YN hl ho] at hg
        exact Zg ho b3 hi (fun e a w hne => by cases e <;> simp_all) hS hg fun a w hS' h' => Jt hs hQ hlo l hl hlast t k _ a w (hcl.set hx) b7 hS' h'
    · unfold Zi at b4
      cases ho : ops[x]? with
      | none => rw [ho] at b4; cases b4
      | some o =>
        rw [ho] at b4
        have hg := h.2
        rw [YN hl ho] at hg
        exact Zg ho b4 hj (fun e a w hne => by cases e <;> simp_all) hS hg fun a w hS' h' => Jt hs hQ hlo l hl hlast u k _ a w (hcl.set hx) b8 hS' h'
structure VT (P : Program) (n : Shp) (B : Nat) (w0 : World) (ops : Array Oper) (l : List Oper) (Q : Exit → Act → World → Prop) (t : OT) (env : Env) (H F : List HP) : Prop where
  run : ∀ a, Fits n a env → ∀ w, St B w0 (H ++ F) w → Jy P ops l Q (St B w0 H) t a w
def VP (P : Program) (B : Nat) (w0 : World) (ops : Array Oper) (l : List Oper) (Q : Exit → Act → World → Prop) (Hc : List HP) (t : OT) : Exit → Act → World → Prop
  | .normal, a, w => Jy P ops l Q (St B w0 Hc) t a w
  | _, _, _ => False
theorem YaT {l : List Oper} {t : OT} : VP P B w0 ops l Q H t = fun e a w => match e with | .normal => Jy P ops l Q (St B w0 H) t a w | _ => False := by
  funext e a w
  cases e <;> rfl
theorem Va {l : List Oper} {F HF : List HP} (happ : App H F HF) (h : VQ n B w0 Q .normal env HF) : VT P n B w0 ops l Q .done env H F :=
  ⟨fun a ha w hw => by rw [← JL happ] at hw; exact h.run a w ha hw⟩
theorem YlB {l : List Oper} {F : List HP} {i : Nat} {t : OT} {o : Oper} (ho : nthO l i = o) (h : VL P (some (some F)) n B w0 ops (VP P B w0 ops l Q H t) [o] env H) : VT P n B w0 ops l Q (.n1 i t) env H F := by
  refine ⟨fun a ha w hw => ?_⟩
  have h1 : Yt P ops (VP P B w0 ops l Q H t) (St B w0 H) [o] a w := h.run a ha w hw
  unfold Jy
  rw [ho, ← YaT]
  exact h1
theorem YlC {l : List Oper} {F : List HP} {i j : Nat} {t u : OT} {o o' : Oper} (ho : nthO l i = o) (ho' : nthO l j = o') (h : VL P (some (some F)) n B w0 ops (VP P B w0 ops l Q H t) [o] env H)
    (h' : VL P (some (some F)) n B w0 ops (VP P B w0 ops l Q H u) [o'] env H) : VT P n B w0 ops l Q (.n2 i t j u) env H F := by
  refine ⟨fun a ha w hw => ?_⟩
  have h1 : Yt P ops (VP P B w0 ops l Q H t) (St B w0 H) [o] a w := h.run a ha w hw
  have h2 : Yt P ops (VP P B w0 ops l Q H u) (St B w0 H) [o'] a w := h'.run a ha w hw
  unfold Jy
  rw [ho, ho', ← YaT, ← YaT]
  exact ⟨h1, h2⟩
theorem Y9 {l : List Oper} {F H' Hc : List HP} {t : OT} (hp : Pull Hc H' F) (h : VT P n B w0 ops l Q t env Hc F) : VQ n B w0 (VP P B w0 ops l Q Hc t) .normal env H' :=
  ⟨fun a w ha hw => h.run a ha w (hw.perm hp)⟩
theorem Us {id : Nat} {l : List Oper} (t : OT) (last : List Nat) (mask : List Bool) {Hc F : List HP} (hm : P.follows .mixedOrders = true)
    (hB : (Region.noSelect l.toArray && decide (last.length ≤ l.toArray.size) && YbW l.toArray last && YaS l.toArray last t (Array.replicate l.toArray.size false) (l.toArray.size - last.length)) = true)
    (hsp : Split mask H Hc F) {l2 : List Oper} (hl2 : Yj l last = l2) (h : VT P n B w0 l.toArray l (X5 P l.toArray (Only Q) l2) t env Hc F) : VC P n B w0 (.region id l.toArray true) Q env H := by
  simp only [Bool.and_eq_true, decide_eq_true_eq] at hB
  obtain ⟨⟨⟨h1, h2⟩, h3⟩, h5⟩ := hB
  refine ⟨fun a w ha hw => Zs (Q := Only Q) ?_ fun e a w h => by cases e <;> first | exact h | cases h⟩
  have hst : St B w0 (Hc ++ F) w.drew := (hw.perm (Xj hsp)).drew
  have hr := h.run a ha w.drew hst
  rw [← hl2] at hr
  have := Jt (S := St B w0 Hc) h1 (fun c a w h => h) (by rintro ⟨_, _, h⟩; exact h) l rfl h3 t _ _ a w.drew (Xz _ _) h5 hst.prefix_ hr
  rw [Nat.sub_add_cancel h2] at this
  exact JK hm (X4 _ _ _ _ this)
theorem Zb {α : Type} (E : α → Env) (HH : α → List HP) {x y : Code} (h1 : ∀ K : Act → World → Prop, (∀ z env' H', (∀ t v, get (E z) t = some v → get env' t = some v) → (∀ w, St B w0 H' w → St B w0 (HH z) w) → VQ n B w0 (Exit.then K Q) .normal env' H') → VC P n B w0 x (Exit.then K Q) env H)
    (h2 : ∀ z, VC P n B w0 y Q (E z) (HH z)) : VC P n B w0 x (Exit.then (wpR P n.r y Q) Q) env H := by
  have h := h1 (fun a w => ∃ z, Fits n a (E z) ∧ St B w0 (HH z) w) (fun z env' H' he hH => ⟨fun a w ha hw => ⟨z, ha.sub he, hH w hw⟩⟩)
  refine ⟨fun a w ha hw => Zs (h.run a w ha hw) ?_⟩
  intro e a w hq
  cases e with
  | normal => obtain ⟨z, h3, h4⟩ := hq; exact (h2 z).run a w h3 h4
  | exit id => exact hq
  | goto l => exact hq
  | ret => exact hq
  | panic ch => exact hq
  | outgrown => exact hq
end
open Go.RowKit
def Rd (B : Nat) (w0 : World) (H : List HP) (A : Option Addr) (xs : List Value) : Prop :=
  ∀ w, St B w0 H w → ∀ j v, xs[j]? = some v → ∃ g o, A = some ⟨g, o, none⟩ ∧ w.cell? ⟨g, o + j, none⟩ = some v
section
variable {B : Nat} {w0 : World} {H : List HP} {A : Option Addr} {xs : List Value}
theorem Rd.cons {X : HP} (h : Rd B w0 H A xs) : Rd B w0 (X :: H) A xs := fun w hw => h w hw.tail
theorem Rd.sl {e size k cap : Nat} (hm : Eng.sl e size A k cap xs ∈ H) : Rd B w0 H A xs := fun w hw j v hv => by
  obtain ⟨g, e1, hc, _⟩ := Qm (hw.sl hm) hv
  exact ⟨g, 0, e1, by rw [Nat.zero_add]; exact hc⟩
theorem Rd.old (h : ∀ j v, xs[j]? = some v → ∃ g o, A = some ⟨g, o, none⟩ ∧ g < B ∧ w0.cell? ⟨g, o + j, none⟩ = some v) : Rd B w0 H A xs := fun w hw j v hv => by
  obtain ⟨g, o, e1, hg, hc⟩ := h j v hv
  exact ⟨g, o, e1, (hw.below.cell (p := ⟨g, o + j, none⟩) hg).trans hc⟩
theorem Rd.nil : Rd B w0 H A [] := fun w _ j v hv => by simp at hv
theorem Rd.mono {H' : List HP} (h : Rd B w0 H A xs) (hH : ∀ w, St B w0 H' w → St B w0 H w) : Rd B w0 H' A xs := fun w hw => h w (hH w hw)
theorem Rd.blk {g : Nat} {cs : Array Value} {t : TypeId} {fr : Nat × Nat} (hm : Eng.blk g (.cells cs t fr) ∈ H) : Rd B w0 H (some ⟨g, 0, none⟩) cs.toList := fun w hw j v hv => by
  refine ⟨g, 0, rfl, ?_⟩
  rw [Nat.zero_add, Y8 (hw.blk hm).1]
  simpa using hv
end
theorem Y0 {α : Type} {f : α → List Value} {q : Nat} (hq : ∀ a, (f a).length = q) : ∀ l : List α, (l.flatMap f).length = l.length * q
  | [] => by simp
  | a :: l => by rw [List.flatMap_cons, List.length_append, hq, Y0 hq l, List.length_cons, Nat.add_mul]; omega
theorem JT {α : Type} {f : α → List Value} {q : Nat} (hq : ∀ a, (f a).length = q) : ∀ (l : List α) (i j : Nat) (a : α), l[i]? = some a → j < q → (l.flatMap f)[i * q + j]? = (f a)[j]?
  | [], i, j, a, h, _ => by simp at h
  | b :: l, 0, j, a, h, hj => by
    obtain rfl : b = a := by simpa using h
    rw [List.flatMap_cons, List.getElem?_append_left (by rw [hq]; omega), Nat.zero_mul, Nat.zero_add]
  | b :: l, i + 1, j, a, h, hj => by
    rw [List.flatMap_cons, List.getElem?_append_right (by rw [hq, Nat.add_mul]; omega), hq, show (i + 1) * q + j - q = i * q + j by rw [Nat.add_mul]; omega]
    exact JT hq l i j a (by simpa using h) hj
section
variable {P : Program} {m : Mode} {n : Shp} {B : Nat} {w0 : World} {ops : Array Oper} {Q : Exit → Act → World → Prop} {rest : List Oper} {env : Env} {H : List HP} {d : Nat} {ty : TypeId} {pos : String} {after : Array Edge}
theorem Ydg (T : Tab P) {α : Type} {f : α → List Value} {l : List α} {t : Nat} {x y : Operand} {A : Option Addr} {cap : Nat} {e size bytes : Nat} {ki : IntKind} {i : Int} (hx : evo env x = some (.slice A l.length cap)) (hy : evo env y = some (.int ki i))
    (hr : Rd B w0 H A (l.flatMap f)) (ht : look T.sl t = some (e, size, bytes)) (hq : ∀ a, (f a).length = size) (h0 : Nat.blt 0 size = true) (hn : Nat.ble (d + 1) n.k = true) (hi : 0 ≤ i ∧ i < l.length)
    (h : VL P m n B w0 ops Q rest ((d, sptr A (i.toNat * size)) :: env) H) : VL P m n B w0 ops Q (⟨some d, .indexAddr t x y, ty, pos, after, none⟩ :: rest) env H := by
  obtain ⟨hut, inf, z, hinf, _, _, hsi, _, _, _⟩ := YX (T.slic ht)
  refine Yw rfl rfl hn rfl (fun a w ha hw => ?_) h
  have h0' : 0 < size := by simpa using h0
  have hlt : i.toNat < l.length := by omega
  have hget := JT hq l i.toNat 0 _ (List.getElem?_eq_getElem hlt) h0'
  have hg2 : (f l[i.toNat])[0]? = some ((f l[i.toNat])[0]'(by rw [hq]; exact h0')) := List.getElem?_eq_getElem _
  rw [hg2] at hget
  obtain ⟨g, o, rfl, _⟩ := hr w hw _ _ hget
  simp [execOp, ha.eval hx, ha.eval hy, Instr.indexAt, asIntOf, run_underlying hut, hi, sizeOf, typeInfo, hinf, hsi, sptr]
theorem Yde (T : Tab P) {s f k j : Nat} {x : Operand} {A : Option Addr} {xs : List Value} (hx : evo env x = some (sptr A j)) (hr : Rd B w0 H A xs) (hj : j < xs.length) (hf : Ud T.fo s f = some k) (hn : Nat.ble (d + 1) n.k = true)
    (h : VL P m n B w0 ops Q rest ((d, sptr A (j + k)) :: env) H) : VL P m n B w0 ops Q (⟨some d, .fieldAddr s x f, ty, pos, after, none⟩ :: rest) env H := by
  refine Yw rfl rfl hn rfl (fun a w ha hw => ?_) h
  obtain ⟨g, o, rfl, _⟩ := hr w hw _ _ (List.getElem?_eq_getElem hj)
  have h1 := T.offs hf
  unfold V7 at h1
  split at h1
  · rename_i fs hu
    cases hfl : fs[f]? with
    | none => rw [hfl] at h1; cases h1
    | some fld =>
      rw [hfl] at h1
      simp only [Option.bind_some] at h1
      cases hi : P.info? fld.type with
      | none => rw [hi] at h1; cases h1
      | some inf =>
        rw [hi] at h1
        simp only [Option.bind_some] at h1
        by_cases hz : inf.size = 0
        · rw [if_pos hz] at h1; cases h1
        · rw [if_neg hz] at h1
          have h2 : fld.offset = k := by simpa using h1
          subst h2
          simp [execOp, ha.eval hx, sptr, Instr.fieldAt, run_underlying hu, hfl, Instr.sureAddr, fieldPlace, sizeOf, typeInfo, hi, hz, Addr.add_lit, Nat.add_assoc]
  · cases h1
theorem Qs (T : Tab P) {α : Type} {f : α → List Value} {l : List α} {t i q o : Nat} {b : α} {x : Operand} {A : Option Addr} {v : Value} (hx : evo env x = some (sptr A (i * q + o))) (hr : Rd B w0 H A (l.flatMap f)) (hb : l[i]? = some b) (hq : ∀ a, (f a).length = q)
    (ho : Nat.blt o q = true) (hv : nth (f b) o = some v) (ht : look T.sc t = some ()) (hn : Nat.ble (d + 1) n.k = true)
    (h : VL P m n B w0 ops Q rest ((d, v) :: env) H) : VL P m n B w0 ops Q (⟨some d, .load t x, ty, pos, after, none⟩ :: rest) env H := by
  refine Yw rfl rfl hn rfl (fun a w ha hw => ?_) h
  have hg := JT hq l i o b hb (by simpa using ho)
  rw [← Yfs (f b), hv] at hg
  obtain ⟨g, u, rfl, hc⟩ := hr w hw _ _ hg
  simp [execOp, ha.eval hx, sptr, Instr.loadAt, Instr.sureAddr, loadVar, XW (T.scal ht).1, Addr.add_lit, hc]
theorem Ydj (T : Tab P) {α : Type} {f : α → List Value} {l : List α} {t i q : Nat} {b : α} {x : Operand} {A : Option Addr} {v : Value} (hx : evo env x = some (sptr A (i * q))) (hr : Rd B w0 H A (l.flatMap f)) (hb : l[i]? = some b) (hq : ∀ a, (f a).length = q)
    (ho : Nat.blt 0 q = true) (hv : nth (f b) 0 = some v) (ht : look T.sc t = some ()) (hn : Nat.ble (d + 1) n.k = true)
    (h : VL P m n B w0 ops Q rest ((d, v) :: env) H) : VL P m n B w0 ops Q (⟨some d, .load t x, ty, pos, after, none⟩ :: rest) env H :=
  Qs T (i := i) (q := q) (o := 0) (by rw [Nat.add_zero]; exact hx) hr hb hq ho hv ht hn h
theorem Qr (T : Tab P) {α : Type} {f : α → List Value} {l : List α} {t i q : Nat} {b : α} {x : Operand} {A : Option Addr} (hx : evo env x = some (sptr A (i * q))) (hr : Rd B w0 H A (l.flatMap f)) (hb : l[i]? = some b) (hq : ∀ a, (f a).length = q)
    (ho : Nat.blt 0 q = true) (ht : look T.ag t = some q) (hn : Nat.ble (d + 1) n.k = true)
    (h : VL P m n B w0 ops Q rest ((d, .agg (f b).toArray) :: env) H) : VL P m n B w0 ops Q (⟨some d, .load t x, ty, pos, after, none⟩ :: rest) env H := by
  refine Yw rfl rfl hn rfl (fun a w ha hw => ?_) h
  have h0 : 0 < q := by simpa using ho
  have hget : ∀ j v, (f b)[j]? = some v → (l.flatMap f)[i * q + j]? = some v := fun j v hj => by
    have hlt : j < q := by have := (List.getElem?_eq_some_iff.1 hj).1; rwa [hq] at this
    rw [JT hq l i j b hb hlt]; exact hj
  obtain ⟨g, u, rfl, _⟩ := hr w hw _ _ (hget 0 _ (List.getElem?_eq_getElem (by rw [hq]; exact h0)))
  have hl := run_loadCells_list (P := P) w ⟨g, u + i * q, none⟩ (f b) (fun j v hj => by
    obtain ⟨g', u', e1, hc⟩ := hr w hw _ _ (hget j v hj)
    injection e1 with e1
    injection e1 with e1 e2
    subst e1 e2
    rw [Addr.add_lit, Nat.add_assoc]; exact hc)
  rw [hq] at hl
  simp [execOp, ha.eval hx, sptr, Instr.loadAt, Instr.sureAddr, loadVar, XE (T.aggs ht), Xr (ZA (T.aggs ht)), Addr.add_lit, hl]
theorem YfV {x y : Operand} {k : IntKind} {a b : Int} {tys : Array TypeId} (hx : evo env x = some (.int k a)) (hy : evo env y = some (.int k b)) (hn : Nat.ble (d + 1) n.k = true) (h1 : a < b → VL P m n B w0 ops Q rest ((d, .int k b) :: env) H) (h2 : b ≤ a → VL P m n B w0 ops Q rest ((d, .int k a) :: env) H) :
    VL P m n B w0 ops Q (⟨some d, .call ⟨.builtin .max, #[x, y], tys⟩, ty, pos, after, none⟩ :: rest) env H := by
  by_cases hc : b > a
  · exact Yw rfl rfl hn rfl (fun f w ha _ => by simp [execOp, resolve, invoke, builtin, ha.eval hx, ha.eval hy, run_max_int2, hc]) (h1 hc)
  · exact Yw rfl rfl hn rfl (fun f w ha _ => by simp [execOp, resolve, invoke, builtin, ha.eval hx, ha.eval hy, run_max_int2, hc]) (h2 (by omega))
end
open Go.RowKit
def Vw (env : Env) : List (Nat × Operand) → Option (List (Nat × Value))
  | [] => some []
  | (i, x) :: l => match evo env x with
    | none => none
    | some v => match Vw env l with
      | none => none
      | some r => some ((i, v) :: r)
theorem Ui {env : Env} : ∀ {l : List (Nat × Operand)} {ps : List (Nat × Value)}, Vw env l = some ps → Ol env l ps
  | [], ps, h => by simp [Vw] at h; subst h; exact Yb3
  | (i, x) :: l, ps, h => by
    unfold Vw at h
    cases hx : evo env x with
    | none => rw [hx] at h; cases h
    | some v =>
      rw [hx] at h
      cases hl : Vw env l with
      | none => rw [hl] at h; cases h
      | some r =>
        rw [hl] at h
        simp only [Option.some.injEq] at h
        subst h
        exact Yfw hx (Ui hl)
def YaP (P : Program) (t : Nat) : Option (List (Nat × Nat)) :=
  match P.underlying t with
  | some (.struct fs) => fs.toList.mapM (fun f => (P.info? f.type).map fun i => (f.offset, i.size))
  | some (.array k e) => (P.info? e).map fun i => (List.range k).map fun j => (j * i.size, i.size)
  | _ => none
def OZ (P : Program) (t : Nat) : Option Value := (P.info? t).bind (·.zero)
structure Tab2 (P : Program) where
  zt : List (Nat × Value)
  bt : List (Nat × List (Nat × Nat))
  zt_ok : (zt.map fun x => OZ P x.1) = zt.map fun x => some x.2
  bt_ok : (bt.map fun x => YaP P x.1) = bt.map fun x => some x.2
theorem Ue {β : Type} {f : Nat → Option β} : ∀ {l : List (Nat × β)}, (l.map fun x => f x.1) = (l.map fun x => some x.2) → ∀ {t : Nat} {v : β}, look l t = some v → f t = some v := by
  intro l h t v hl
  have hm := ZP hl
  clear hl
  induction l with
  | nil => cases hm
  | cons x l ih =>
    simp only [List.map_cons, List.cons.injEq] at h
    rcases List.mem_cons.1 hm with e | e
    · rw [← e] at h; exact h.1
    · exact ih h.2 e
theorem YeT {P : Program} {t : Nat} {z : Value} (h : OZ P t = some z) (w : World) : (zeroValue t).run P w = .ok z w := by
  unfold OZ at h
  cases hi : P.info? t with
  | none => rw [hi] at h; cases h
  | some i =>
    rw [hi] at h
    have h2 : i.zero = some z := h
    simp [zeroValue, typeInfo, hi, h2]
def YcI {β : Type} : List Value → (List Value → Option β) → Option β
  | [], k => k []
  | a :: l, k => YcI l fun l' => k (a :: l')
theorem WW {β : Type} : ∀ (l : List Value) (k : List Value → Option β), YcI l k = k l
  | [], _ => rfl
  | a :: l, k => by rw [YcI, WW l]
def UF : List Value → Nat → List Value → List Value
  | cs, _, [] => cs
  | cs, off, v :: vs => UF (cs.set off v) (off + 1) vs
def V8 (place : Nat → Option (Nat × Nat)) (cs : List Value) : List (Nat × Value) → Option (List Value)
  | [] => some cs
  | (i, v) :: rest => match place i with
    | none => none
    | some (off, size) => match Nat.beq v.cells.toList.length size && Nat.ble (off + size) cs.length with
      | true => YcI (UF cs off v.cells.toList) fun cs' => V8 place cs' rest
      | false => none
theorem Wp (off : Nat) : ∀ (l : List Value) (k : Nat) (cs : Array Value), (l.zipIdx k).foldl (fun cs (c, j) => cs.setIfInBounds (off + j) c) cs = (UF cs.toList (off + k) l).toArray
  | [], _, cs => by simp [UF]
  | v :: l, k, cs => by
    rw [List.zipIdx_cons, List.foldl_cons, Wp off l (k + 1)]
    simp [UF, Nat.add_assoc]
theorem QY {place place' : Nat → Option (Nat × Nat)} (hp : ∀ i q, place i = some q → place' i = some q) : ∀ {ps : List (Nat × Value)} {cs r : List Value}, V8 place cs ps = some r → V8 place' cs ps = some r
  | [], _, _, h => h
  | (i, v) :: rest, cs, r, h => by
    unfold V8 at h ⊢
    cases hi : place i with
    | none => rw [hi] at h; cases h
    | some q =>
      rw [hi] at h
      rw [hp i q hi]
      obtain ⟨off, size⟩ := q
      simp only at h ⊢
      split at h
      · rw [WW] at h ⊢
        exact QY hp h
      · cases h
theorem Vf {place : Nat → Option (Nat × Nat)} : ∀ {ps : List (Nat × Value)} {cs : Array Value} {r : List Value}, V8 place cs.toList ps = some r → Instr.fill place cs ps = some r.toArray
  | [], cs, r, h => by simp [V8] at h; subst h; simp [Instr.fill]
  | (i, v) :: rest, cs, r, h => by
    unfold V8 at h
    unfold Instr.fill
    cases hp : place i with
    | none => rw [hp] at h; cases h
    | some q =>
      obtain ⟨off, size⟩ := q
      rw [hp] at h
      simp only at h ⊢
      split at h
      · rename_i hb
        simp only [Bool.and_eq_true, Array.length_toList] at hb
        obtain ⟨h1, h2⟩ := hb
        have h2' := Nat.le_of_ble_eq_true h2
        have h1' : v.cells.size = size := by simpa using h1
        rw [WW] at h
        have hz : v.cells.zipIdx.foldl (fun cs (c, j) => cs.setIfInBounds (off + j) c) cs = (UF cs.toList off v.cells.toList).toArray := by
          rw [← Array.foldl_toList, Array.toList_zipIdx]
          exact Wp off v.cells.toList 0 cs
        rw [if_neg (by simp [h1']; omega), hz]
        exact Vf (by simpa using h)
      · cases h
def repZ : Nat → List Value → List Value
  | 0, _ => []
  | n + 1, z => z ++ repZ n z
theorem OL (z : List Value) : ∀ n, (repZ n z).length = n * z.length
  | 0 => by simp [repZ]
  | n + 1 => by rw [repZ, List.length_append, OL z n, Nat.add_mul]; omega
theorem Yev (z : List Value) (hz : 0 < z.length) : ∀ (n j : Nat), j < n * z.length → (repZ n z)[j]? = z[j % z.length]?
  | 0, j, h => by omega
  | n + 1, j, h => by
    rw [repZ]
    by_cases hj : j < z.length
    · rw [List.getElem?_append_left hj, Nat.mod_eq_of_lt hj]
    · rw [List.getElem?_append_right (by omega), Yev z hz n _ (by rw [Nat.add_mul] at h; omega), ← Nat.mod_eq_sub_mod (by omega)]
theorem Yi6 (zs : Array Value) (hz : 0 < zs.size) (n : Nat) : ((Array.range (n * zs.size)).map (zs[· % zs.size]!)) = (repZ n zs.toList).toArray := by
  apply Array.ext'
  apply List.ext_getElem?
  intro j
  have hl : zs.toList.length = zs.size := by simp
  by_cases hj : j < n * zs.size
  · have h1 := Yev zs.toList (by omega) n j (by rw [hl]; exact hj)
    rw [hl] at h1
    have hm : j % zs.size < zs.size := Nat.mod_lt _ hz
    rw [List.toList_toArray, h1]
    simp [hj, hm, Array.getElem!_eq_getD, Array.getD_eq_getD_getElem?]
  · rw [List.getElem?_eq_none (by simp; omega), List.getElem?_eq_none (by simp [OL]; omega)]
section
variable {P : Program} {m : Mode} {n : Shp} {B : Nat} {w0 : World} {ops : Array Oper} {Q : Exit → Act → World → Prop} {rest : List Oper} {env : Env} {H : List HP} {d : Nat} {ty : TypeId} {pos : String} {after : Array Edge}
theorem YgD (T2 : Tab2 P) {t : TypeId} {z : Value} {cs : Array Value} (hz : look T2.zt t = some z) (hc : z.cells = cs) (hn : Nat.ble (d + 1) n.k = true)
    (h : ∀ g, VL P none n B w0 ops Q rest ((d, .pointer (some ⟨g, 0, none⟩)) :: env) (blk g (.cells cs t (0, 0)) :: H)) : VL P none n B w0 ops Q (⟨some d, .alloc t, ty, pos, after, none⟩ :: rest) env H :=
  YhY (YeT (Ue T2.zt_ok hz)) hc hn h
theorem YgG (T2 : Tab2 P) {t : TypeId} {parts : List (Nat × Operand)} {ps : List (Nat × Value)} {zc : Array Value} {pl : List (Nat × Nat)} {cs : List Value} (hp : Vw env parts = some ps) (hz : look T2.zt t = some (.agg zc)) (hl : look T2.bt t = some pl)
    (hf : V8 (pl[·]?) zc.toList ps = some cs) (hn : Nat.ble (d + 1) n.k = true)
    (h : VL P m n B w0 ops Q rest ((d, .agg cs.toArray) :: env) H) : VL P m n B w0 ops Q (⟨some d, .build t parts.toArray, ty, pos, after, none⟩ :: rest) env H := by
  refine YhZ (Ui hp) (fun w => run_build w t _ cs.toArray ?_) hn h
  have h1 := Ue T2.zt_ok hz
  have h2 := Ue T2.bt_ok hl
  unfold OZ at h1
  unfold YaP at h2
  unfold Program.built
  cases hi : P.info? t with
  | none => rw [hi] at h1; cases h1
  | some i =>
    rw [hi] at h1
    have h3 : i.zero = some (.agg zc) := h1
    cases hu : P.underlying t with
    | none => rw [hu] at h2; cases h2
    | some dd =>
      rw [hu] at h2
      cases dd <;> try (cases h2; done)
      · rename_i k e
        cases hie : P.info? e with
        | none => simp only [hie] at h2; cases h2
        | some ie =>
          simp only [hie, Option.map_some, Option.some.injEq] at h2
          simp only [h3, hie]
          refine Vf (cs := zc) (QY (fun a q ha => ?_) hf)
          rw [← h2, List.getElem?_map] at ha
          by_cases hak : a < k
          · rw [List.getElem?_range hak] at ha; exact ha
          · rw [List.getElem?_eq_none (by simpa using hak)] at ha; cases ha
      · rename_i fs
        have h4 : fs.toList.mapM (fun f => (P.info? f.type).map fun i => (f.offset, i.size)) = some pl := h2
        simp only [h3, h4]
        have h5 := Vf (place := (pl[·]?)) (cs := zc) hf
        simpa [Value.cells] using h5
theorem Qq (T : Tab P) (T2 : Tab2 P) {t e len size bytes : Nat} {parts : List (Nat × Operand)} {ps : List (Nat × Value)} {z : Value} {zl cs : List Value} (ht : look T.sl t = some (e, size, bytes)) (hp : Vw env parts = some ps) (hz : look T2.zt e = some z) (hzc : z.cells = zl.toArray)
    (hf : V8 (fun i => some (i * size, size)) (repZ len zl) ps = some cs) (hn : Nat.ble (d + 1) n.k = true) (hl : (Nat.blt 0 (len * size) && Nat.beq zl.length size && Nat.ble (len * size) 1000000) = true)
    (h : ∀ g, VL P none n B w0 ops Q rest ((d, .slice (some ⟨g, 0, none⟩) len len) :: env) (blk g (.cells cs.toArray e (0, 0)) :: H)) : VL P none n B w0 ops Q (⟨some d, .buildSlice t len parts.toArray, ty, pos, after, none⟩ :: rest) env H := by
  simp only [Bool.and_eq_true] at hl
  obtain ⟨⟨hl1, hl2⟩, hl3⟩ := hl
  have hl1' : 0 < len * size := by simpa using hl1
  have hl2' : zl.length = size := Nat.eq_of_beq_eq_true hl2
  have hl3' := Nat.le_of_ble_eq_true hl3
  obtain ⟨hut, inf, z', hinf, hz', _, hsi, _⟩ := YX (T.slic ht)
  have h1 := Ue T2.zt_ok hz
  unfold OZ at h1
  rw [hinf] at h1
  have h3 : inf.zero = some z := h1
  refine UH (Ui hp) (fun w => run_buildSlice w t e len _ cs.toArray inf z hut hinf h3 (by rw [hsi]; omega) (by rw [hsi]; omega) ?_) hn h
  have hzs : z.cells.size = size := by rw [hzc]; simpa using hl2'
  have hpos : 0 < z.cells.size := by
    rcases Nat.eq_zero_or_pos size with h0 | h0
    · rw [h0, Nat.mul_zero] at hl1'; omega
    · omega
  rw [hsi]
  have h5 := Yi6 z.cells hpos len
  rw [hzs] at h5
  rw [show (fun x => z.cells[x % z.cells.size]!) = fun x => z.cells[x % size]! by rw [hzs], h5, hzc]
  simpa using Vf (place := fun i => some (i * size, size)) (cs := (repZ len zl).toArray) (by simpa using hf)
theorem Yci (T : Tab P) {α : Type} {f : α → List Value} {l : List α} {s fl k i q : Nat} {x : Operand} {A : Option Addr} (hx : evo env x = some (sptr A (i * q))) (hr : Rd B w0 H A (l.flatMap f)) (hq : ∀ a, (f a).length = q) (h0 : Nat.blt 0 q = true) (hf : Ud T.fo s fl = some k) (hn : Nat.ble (d + 1) n.k = true) (hi : i < l.length)
    (h : VL P m n B w0 ops Q rest ((d, sptr A (i * q + k)) :: env) H) : VL P m n B w0 ops Q (⟨some d, .fieldAddr s x fl, ty, pos, after, none⟩ :: rest) env H := by
  refine Yde T hx hr ?_ hf hn h
  rw [Y0 hq]
  have h0' : 0 < q := by simpa using h0
  calc i * q < i * q + q := by omega
    _ = (i + 1) * q := by rw [Nat.add_mul]; omega
    _ ≤ l.length * q := Nat.mul_le_mul_right q hi
theorem Yhu {a : Act} (ha : Fits n a env) {f : Nat} {x : Operand} {args : List Operand} {tys : Array TypeId} {vs cs : List Value} (hx : evo env x = some (.func (.func f) #[] cs.toArray))
    (hc : ∀ xs w, (callFunc f xs).run P w = .ok (.enter f xs) w) (hargs : Args env args vs) (w : World) :
    (execOp a.eval ⟨some d, .call ⟨.value x, args.toArray, tys⟩, ty, pos, after, none⟩).run P w = .ok (.enter f (vs ++ cs).toArray) w := by
  have hmap : args.toArray.map a.eval = vs.toArray := by rw [List.map_toArray, Vq ha _ _ hargs]
  simp only [execOp, resolve, ha.eval hx, hmap, Deferred.ofValue, Sem.run_bind, Sem.run_pure, Result.andThen_ok, invoke]
  simpa using hc ((vs ++ cs).toArray) w
theorem YC {f : Nat} {x : Operand} {args : List Operand} {tys : Array TypeId} {vs cs : List Value} {v : Value} (hx : evo env x = some (.func (.func f) #[] cs.toArray))
    (hc : ∀ xs w, (callFunc f xs).run P w = .ok (.enter f xs) w) (hargs : Args env args vs) (hn : Nat.ble (d + 1) n.k = true)
    (hcall : ∀ w, St B w0 H w → Calls P f (vs ++ cs).toArray w (Post B w0 fun u K => u = v ∧ K = H))
    (h : VL P none n B w0 ops Q rest ((d, v) :: env) H) :
    VL P none n B w0 ops Q (⟨some d, .call ⟨.value x, args.toArray, tys⟩, ty, pos, after, none⟩ :: rest) env H :=
  Wc _ hx hc hargs hn hcall (by rintro _ _ ⟨rfl, rfl⟩; exact h)
theorem Y1 {f : Nat} {x : Operand} {args : List Operand} {tys : Array TypeId} {vs cs : List Value} {v : Value} (hx : evo env x = some (.func (.func f) #[] cs.toArray))
    (hc : ∀ xs w, (callFunc f xs).run P w = .ok (.enter f xs) w) (hargs : Args env args vs) (hn : Nat.ble (d + 1) n.k = true)
    (hcall : ∀ w, St B w0 H w → Calls P f (vs ++ cs).toArray w (Post B w0 fun u K => u = v ∧ K = H))
    (h : VL P (some none) n B w0 ops Q rest ((d, v) :: env) H) :
    VL P (some none) n B w0 ops Q (⟨some d, .call ⟨.value x, args.toArray, tys⟩, ty, pos, after, none⟩ :: rest) env H := by
  refine ⟨fun a ha => wpQuiet_step fun K hK => ?_⟩
  rw [if_pos (by simp [Region.wanted])]
  refine ⟨v, fun w hw => ?_, hK _ ?_⟩
  · unfold Oper.quietAt
    rw [Yhu ha hx hc hargs]
    refine ⟨rfl, (hcall w hw).mono ?_⟩
    rintro e w' ⟨_, _, rfl, hst, rfl, rfl⟩
    exact ⟨rfl, hst⟩
  · exact h.run _ (ha.put (Nat.le_of_ble_eq_true hn) v)
def effW (o : Oper) : Bool := eff o && match o.op with | .call ⟨.value _, _, _⟩ => false | .makeFunc _ _ _ => false | _ => true
theorem YhU {id : Nat} {l : List Oper} (hq : (l.all fun o => !effW o) = true) (hm : P.follows .mixedOrders = true) (hB : Region.lexB .any l.toArray = true) (h : VL P (some none) n B w0 l.toArray Q l env H) : VC P n B w0 (.region id l.toArray true) Q env H :=
  YfS hm (by have := hq; exact hB) h
end
open Go.RowKit
section
variable {P : Program} {m : Mode} {n : Shp} {B : Nat} {w0 : World} {ops : Array Oper} {Q : Exit → Act → World → Prop} {rest : List Oper} {env : Env} {H : List HP} {d : Nat} {ty : TypeId} {pos : String} {after : Array Edge} {x y : Operand} {k : IntKind} {a b : Int}
theorem Ydd (T : Tab P) {src dst : TypeId} {j : IntKind} (hx : evo env x = some (.int k a)) (hs : look T.ik src = some j) (ht : look T.ik dst = some .u64) (hn : Nat.ble (d + 1) n.k = true) (hb : 0 ≤ a ∧ a ≤ 18446744073709551615)
    (h : VL P m n B w0 ops Q rest ((d, .int .u64 a) :: env) H) : VL P m n B w0 ops Q (⟨some d, .convert src dst x, ty, pos, after, none⟩ :: rest) env H :=
  YfU T hx hs ht hn (by rw [IntWalk.u64_in _ hb]; exact h)
theorem XJ {f : Nat} {args : List Operand} {tys : Array TypeId} {vs : List Value} {b : Bool}
    (hc : ∀ xs w, (callFunc f xs).run P w = .ok (.enter f xs) w) (hargs : Args env args vs) (hn : Nat.ble (d + 1) n.k = true)
    (hcall : ∀ w, St B w0 H w → Calls P f vs.toArray w (Post B w0 fun u K => u = .bool b ∧ K = H))
    (h1 : b = true → VL P none n B w0 ops Q rest ((d, .bool true) :: env) H) (h2 : b = false → VL P none n B w0 ops Q rest ((d, .bool false) :: env) H) :
    VL P none n B w0 ops Q (⟨some d, .call ⟨.value (.func f), args.toArray, tys⟩, ty, pos, after, none⟩ :: rest) env H := by
  cases b
  · exact Ya hc hargs hn hcall (h2 rfl)
  · exact Ya hc hargs hn hcall (h1 rfl)
theorem XI {f : Nat} {args : List Operand} {tys : Array TypeId} {vs : List Value} {b : Bool}
    (hc : ∀ xs w, (callFunc f xs).run P w = .ok (.enter f xs) w) (hargs : Args env args vs) (hn : Nat.ble (d + 1) n.k = true)
    (hcall : ∀ w, St B w0 H w → Calls P f vs.toArray w (Post B w0 fun u K => u = .bool b ∧ K = H))
    (h1 : b = true → VL P (some none) n B w0 ops Q rest ((d, .bool true) :: env) H) (h2 : b = false → VL P (some none) n B w0 ops Q rest ((d, .bool false) :: env) H) :
    VL P (some none) n B w0 ops Q (⟨some d, .call ⟨.value (.func f), args.toArray, tys⟩, ty, pos, after, none⟩ :: rest) env H := by
  cases b
  · exact Yb hc hargs hn hcall (h2 rfl)
  · exact Yb hc hargs hn hcall (h1 rfl)
theorem Zz {f : Nat} {x : Operand} {args : List Operand} {tys : Array TypeId} {vs cs : List Value} {b : Bool} (hx : evo env x = some (.func (.func f) #[] cs.toArray))
    (hc : ∀ xs w, (callFunc f xs).run P w = .ok (.enter f xs) w) (hargs : Args env args vs) (hn : Nat.ble (d + 1) n.k = true)
    (hcall : ∀ w, St B w0 H w → Calls P f (vs ++ cs).toArray w (Post B w0 fun u K => u = .bool b ∧ K = H))
    (h1 : b = true → VL P none n B w0 ops Q rest ((d, .bool true) :: env) H) (h2 : b = false → VL P none n B w0 ops Q rest ((d, .bool false) :: env) H) :
    VL P none n B w0 ops Q (⟨some d, .call ⟨.value x, args.toArray, tys⟩, ty, pos, after, none⟩ :: rest) env H := by
  cases b
  · exact YC hx hc hargs hn hcall (h2 rfl)
  · exact YC hx hc hargs hn hcall (h1 rfl)
theorem Zy {f : Nat} {x : Operand} {args : List Operand} {tys : Array TypeId} {vs cs : List Value} {b : Bool} (hx : evo env x = some (.func (.func f) #[] cs.toArray))
    (hc : ∀ xs w, (callFunc f xs).run P w = .ok (.enter f xs) w) (hargs : Args env args vs) (hn : Nat.ble (d + 1) n.k = true)
    (hcall : ∀ w, St B w0 H w → Calls P f (vs ++ cs).toArray w (Post B w0 fun u K => u = .bool b ∧ K = H))
    (h1 : b = true → VL P (some none) n B w0 ops Q rest ((d, .bool true) :: env) H) (h2 : b = false → VL P (some none) n B w0 ops Q rest ((d, .bool false) :: env) H) :
    VL P (some none) n B w0 ops Q (⟨some d, .call ⟨.value x, args.toArray, tys⟩, ty, pos, after, none⟩ :: rest) env H := by
  cases b
  · exact Y1 hx hc hargs hn hcall (h2 rfl)
  · exact Y1 hx hc hargs hn hcall (h1 rfl)
theorem St.blk_sl {w : World} {g e size len : Nat} {cs : List Value} (h : St B w0 (Eng.blk g (.cells cs.toArray e (0, 0)) :: H) w) (hk : cs.length = len * size) (hl : len ≤ 1000000) : St B w0 (Eng.sl e size (some ⟨g, 0, none⟩) len len cs :: H) w := by
  refine h.upd (Upd.here _) rfl rfl rfl (Nat.le_refl _) fun S1 ⟨h1, h2⟩ => ⟨⟨⟨hk, .inr ⟨g, len, cs.toArray, rfl, Nat.zero_le _, h2, Nat.le_refl _, ?_, by simpa using hk, ?_⟩⟩, fun a ha => by cases ha; exact h1⟩, fun _ _ _ => rfl⟩
  · simp only [maxLen]; omega
  · rw [List.take_of_length_le (by simp [hk])]
end
open Go.RowKit
section
variable {P : Program} {B : Nat} {w0 : World} {H : List HP}
theorem JP {f : Nat} {xs : Array Value} {x y : Value} (e : x = y) (h : ∀ w, St B w0 H w → Calls P f xs w (Post B w0 fun u K => u = x ∧ K = H)) {w : World} (hw : St B w0 H w) : Calls P f xs w (Post B w0 fun u K => u = y ∧ K = H) := e ▸ h w hw
end
open Go.RowKit
section
variable {P : Program} {n : Shp} {B : Nat} {w0 : World} {ops : Array Oper} {Q : Exit → Act → World → Prop} {rest : List Oper} {env : Env} {H : List HP} {d : Nat} {ty : TypeId} {pos : String} {after : Array Edge} {x y : Operand}
theorem Jf (T : Tab P) {t e size bytes : Nat} (ht : look T.sl t = some (e, size, bytes)) (hn : Nat.ble (d + 1) n.k = true)
    (h : ∀ g, VL P none n B w0 ops Q rest ((d, .slice (some ⟨g, 0, none⟩) 0 0) :: env) (sl e size (some ⟨g, 0, none⟩) 0 0 [] :: H)) : VL P none n B w0 ops Q (⟨some d, .buildSlice t 0 #[], ty, pos, after, none⟩ :: rest) env H := by
  obtain ⟨hut, inf, z', hinf, _⟩ := YX (T.slic ht)
  refine UH (parts := []) (ps := []) (cs := #[]) (e := e) Yb3 (fun w => ?_) hn fun g => Ybm _ (fun w hw => hw.blk_sl (cs := []) (by simp) (by omega)) (h g)
  simp [Instr.buildSlice, run_underlying hut, sizeOf, typeInfo, hinf, Instr.fill, newRow]
  rw [show Array.range 0 = #[] from Array.eq_empty_of_size_eq_zero (by simp), Array.map_empty]
theorem Yho {A : HP} {L L' M : List HP} (h : Rem A L L') (h2 : Perm L' M) : Perm L (A :: M) := Perm.trans h (Perm.cons A h2)
theorem Perm.dropK {A : HP} {L M : List HP} (p : Perm L M) : Perm (A :: L) M := .trans (.drop A L) p
end
open Go.RowKit
section
variable {P : Program} {m : Mode} {n : Shp} {B : Nat} {w0 : World} {ops : Array Oper} {Q : Exit → Act → World → Prop} {rest : List Oper} {env : Env} {H : List HP} {d : Nat} {ty : TypeId} {pos : String} {after : Array Edge} {x y : Operand}
theorem JU {α : Type} {f : α → List Value} {q : Nat} (hq : ∀ a, (f a).length = q) : ∀ (l : List α) (k : Nat), (l.take k).flatMap f = (l.flatMap f).take (k * q)
  | [], k => by simp
  | a :: l, 0 => by simp
  | a :: l, k + 1 => by
    have e1 : (k + 1) * q = q + k * q := by rw [Nat.add_mul]; omega
    have h1 : (f a).take (q + k * q) = f a := List.take_of_length_le (by rw [hq]; omega)
    rw [List.take_succ_cons, List.flatMap_cons, List.flatMap_cons, JU hq l k, e1, List.take_append, hq, h1, Nat.add_sub_cancel_left]
theorem WV {α : Type} {f : α → List Value} {q : Nat} (hq : ∀ a, (f a).length = q) : ∀ (l : List α) (k : Nat), (l.drop k).flatMap f = (l.flatMap f).drop (k * q)
  | [], k => by simp
  | a :: l, 0 => by simp
  | a :: l, k + 1 => by
    have e1 : (k + 1) * q = q + k * q := by rw [Nat.add_mul]; omega
    have h1 : (f a).drop (q + k * q) = [] := List.drop_eq_nil_of_le (by rw [hq]; omega)
    rw [List.drop_succ_cons, List.flatMap_cons, WV hq l k, e1, List.drop_append, hq, h1, Nat.add_sub_cancel_left, List.nil_append]
theorem flat_set {α : Type} {f : α → List Value} {q : Nat} (hq : ∀ a, (f a).length = q) {v : Value} {o : Nat} (ho : o < q) : ∀ (l : List α) (i : Nat) (b b' : α), l[i]? = some b → f b' = (f b).set o v → (l.flatMap f).set (i * q + o) v = (l.set i b').flatMap f
  | [], i, b, b', h, _ => by simp at h
  | a :: l, 0, b, b', h, hv => by
    obtain rfl : a = b := by simpa using h
    rw [List.flatMap_cons, List.set_cons_zero, List.flatMap_cons, hv, Nat.zero_mul, Nat.zero_add, List.set_append_left _ _ (by rw [hq]; exact ho)]
  | a :: l, i + 1, b, b', h, hv => by
    have h1 := hq a
    rw [List.flatMap_cons, List.set_cons_succ, List.flatMap_cons, List.set_append_right _ _ (by rw [h1, Nat.add_mul]; omega), h1, ← flat_set hq ho l i b b' (by simpa using h) hv]
    congr 2
    rw [Nat.add_mul]; omega
theorem Q3 {α : Type} {f : α → List Value} (h1 : ∀ a, Jg (f a) = true) (l : List α) : ∀ v ∈ l.flatMap f, v.oneCell' = true := by
  intro v hv
  obtain ⟨a, _, ha⟩ := List.mem_flatMap.1 hv
  exact X6 (h1 a) v ha
def subA (A : Option Addr) (o cap size : Nat) : Option Addr := if cap = o then A else A.map fun a => a.add (o * size)
theorem Rd.sub {α : Type} {f : α → List Value} {q : Nat} {l : List α} {A : Option Addr} {cap o k : Nat} (hq : ∀ a, (f a).length = q) (hr : Rd B w0 H A (l.flatMap f)) (hc : l.length ≤ cap) : Rd B w0 H (subA A o cap q) (((l.drop o).take k).flatMap f) := by
  intro w hw j v hv
  rw [JU hq, WV hq] at hv
  have hv2 : ((l.flatMap f).drop (o * q))[j]? = some v := by
    rw [List.getElem?_take] at hv
    by_cases hj : j < k * q
    · rw [if_pos hj] at hv; exact hv
    · rw [if_neg hj] at hv; cases hv
  rw [List.getElem?_drop] at hv2
  obtain ⟨g, oo, rfl, h2⟩ := hr w hw _ _ hv2
  unfold subA
  by_cases hco : cap = o
  · exfalso
    have h3 := (List.getElem?_eq_some_iff.1 hv2).1
    rw [Y0 hq] at h3
    have h4 : l.length * q ≤ o * q := Nat.mul_le_mul_right q (by omega)
    omega
  · rw [if_neg hco]
    exact ⟨g, oo + o * q, by rw [Option.map_some, Addr.add_lit], by rw [Nat.add_assoc]; exact h2⟩
theorem Rd.take {α : Type} {f : α → List Value} {q : Nat} {l : List α} {A : Option Addr} (k : Nat) (hq : ∀ a, (f a).length = q) (hr : Rd B w0 H A (l.flatMap f)) : Rd B w0 H A ((l.take k).flatMap f) := by
  intro w hw j v hv
  rw [JU hq, List.getElem?_take] at hv
  by_cases hj : j < k * q
  · rw [if_pos hj] at hv; exact hr w hw j v hv
  · rw [if_neg hj] at hv; cases hv
theorem YfE (T : Tab P) {w : World} {t e size bytes : Nat} {A : Option Addr} {k cap : Nat} {lo hi mx : Option Value} {l h mm : Nat} (ht : look T.sl t = some (e, size, bytes)) (hb : (Instr.sliceBounds true k cap lo hi mx).run P w = .ok (l, h, mm) w) :
    (Instr.slice t (.slice A k cap) lo hi mx).run P w = .ok (.slice (if mm = l then A else A.map (·.add (l * size))) (h - l) (mm - l)) w := by
  obtain ⟨hut, inf, z', hinf, _, _, hsi, _⟩ := YX (T.slic ht)
  simp [Instr.slice, run_underlying hut, hb, sizeOf, typeInfo, hinf, hsi]
theorem WD (T : Tab P) {w : World} {t e size bytes : Nat} {A : Option Addr} {k cap : Nat} {lo hi mx : Option Value} {l h mm : Nat} (ht : look T.sl t = some (e, size, bytes)) (hb : (Instr.sliceBounds true k cap lo hi mx).run P w = .ok (l, h, mm) w) :
    (Instr.sliceAt t (.slice A k cap) lo hi mx).run P w = .ok (.slice (if mm = l then A else A.map (·.add (l * size))) (h - l) (mm - l)) w := by
  obtain ⟨hut, _⟩ := YX (T.slic ht)
  simp [Instr.sliceAt, run_underlying hut, YfE T (A := A) ht hb]
theorem Jz (T : Tab P) {t e size bytes k cap n' : Nat} {A : Option Addr} {lo : Operand} {ki : IntKind} {z : Int} (hx : evo env x = some (.slice A k cap)) (hl : evo env lo = some (.int ki z)) (ht : look T.sl t = some (e, size, bytes)) (hn : Nat.ble (d + 1) n.k = true) (hb : 0 ≤ z ∧ z ≤ k) (hn' : k - z.toNat = n')
    (h : VL P m n B w0 ops Q rest ((d, .slice (subA A z.toNat cap size) n' (cap - z.toNat)) :: env) H) : VL P m n B w0 ops Q (⟨some d, .slice t x (some lo) none none, ty, pos, after, none⟩ :: rest) env H := by
  subst hn'
  refine Yw rfl rfl hn rfl (fun f w ha _ => ?_) h
  have hb2 : (Instr.sliceBounds true k cap (some (.int ki z)) none none).run P w = .ok (z.toNat, k, cap) w := by simp [Instr.sliceBounds, Instr.sliceBound, asIntOf, hb]
  have hr := WD T (A := A) ht hb2
  simp only [execOp, ha.eval hx, Option.map_some, ha.eval hl, Option.map_none]
  simp [hr, subA]
theorem Zd (T : Tab P) {α : Type} {l : List α} {t e size bytes cap n' : Nat} {A : Option Addr} {hi : Operand} {ki : IntKind} {z : Int} (hx : evo env x = some (.slice A l.length cap)) (hl : evo env hi = some (.int ki z)) (ht : look T.sl t = some (e, size, bytes)) (hn : Nat.ble (d + 1) n.k = true) (hb : 0 ≤ z ∧ z ≤ l.length) (hc : l.length ≤ cap) (hn' : z.toNat = n')
    (h : VL P m n B w0 ops Q rest ((d, .slice (subA A 0 cap size) n' cap) :: env) H) : VL P m n B w0 ops Q (⟨some d, .slice t x none (some hi) none, ty, pos, after, none⟩ :: rest) env H := by
  subst hn'
  refine Yw rfl rfl hn rfl (fun f w ha hw => ?_) h
  have hb2 : (Instr.sliceBounds true l.length cap none (some (.int ki z)) none).run P w = .ok (0, z.toNat, cap) w := by
    have : z ≤ cap := by omega
    simp [Instr.sliceBounds, Instr.sliceBound, asIntOf, hb.1, this]
  have hr := WD T (A := A) ht hb2
  simp only [execOp, ha.eval hx, Option.map_some, ha.eval hl, Option.map_none]
  simp [hr, subA]
theorem YcZ {w : World} {g b : Nat} {cs : Array Value} (h : b ≠ g) : (w.setRow g cs).heap[b]? = w.heap[b]? := by
  simp [World.setRow, Array.getElem?_modify, Ne.symm h]
theorem St.storeRow {w : World} {K : List HP} {e size k k' cap g o : Nat} {A : Option Addr} {xs xs' vs : List Value} {cur : Array Value} (hw : St B w0 H w) (hu : Upd (Eng.sl e size A k cap xs) (Eng.sl e size A k' cap xs') H K) (hA : A = some ⟨g, 0, none⟩)
    (hb : w.heap[g]? = some (.cells cur e (0, 0))) (hcur : cur.size = cap * size) (hk' : k' ≤ cap) (hcm : cap ≤ maxLen) (hov : o + vs.length ≤ cur.size) (hx' : (cur.toList.take o ++ vs ++ cur.toList.drop (o + vs.length)).take (k' * size) = xs') (hxl : xs'.length = k' * size) :
    St B w0 K (w.setRow g (cur.toList.take o ++ vs ++ cur.toList.drop (o + vs.length)).toArray) := by
  refine hw.upd hu rfl rfl rfl (by simp [World.setRow]) fun S1 ⟨hown, hS⟩ => ⟨⟨⟨hxl, .inr ⟨g, cap, _, by rw [hA], Nat.zero_le _, setRow_heap w g cur _ e _ hb, hk', hcm, ?_, by simpa using hx'⟩⟩, hS⟩, fun b hb' _ => YcZ fun e => hb' (by rw [e]; exact hS _ hA)⟩
  simp only [List.size_toArray, List.length_append, List.length_take, List.length_drop, Array.length_toList]
  omega
theorem UG {w : World} {e size k cap : Nat} {A : Option Addr} {xs : List Value} (h : w.ownsRow 0 e size (.slice A k cap) k xs) : (A = none ∧ k = 0 ∧ cap = 0 ∧ xs = []) ∨ ∃ g cur, A = some ⟨g, 0, none⟩ ∧ w.heap[g]? = some (.cells cur e (0, 0)) ∧ k ≤ cap ∧ cap ≤ maxLen ∧ cur.size = cap * size ∧ cur.toList.take (k * size) = xs ∧ xs.length = k * size := by
  obtain ⟨h1, h2⟩ := h
  rcases h2 with ⟨e1, e2⟩ | ⟨g, c, cur, e1, _, e3, e4, e5, e6, e7⟩
  · injection e1 with a1 a2 a3
    exact .inl ⟨a1, e2, a3, List.eq_nil_of_length_eq_zero (by rw [h1, e2]; simp)⟩
  · injection e1 with a1 a2 a3
    subst a3
    exact .inr ⟨g, cur, a1, e3, e4, e5, e6, e7, h1⟩
theorem St.shrink {w : World} {K : List HP} {e size k k' cap : Nat} {A : Option Addr} {xs : List Value} (hw : St B w0 H w) (hk : k' ≤ k) (hu : Upd (Eng.sl e size A k cap xs) (Eng.sl e size A k' cap (xs.take (k' * size))) H K) : St B w0 K w := by
  refine hw.upd hu rfl rfl rfl (Nat.le_refl _) fun S1 ⟨hown, hS⟩ => ⟨⟨?_, hS⟩, fun _ _ _ => rfl⟩
  rcases UG hown with ⟨rfl, rfl, rfl, rfl⟩ | ⟨g, cur, rfl, h1, h2, h3, h4, h5, h6⟩
  · obtain rfl : k' = 0 := by omega
    exact ⟨by simp, .inl ⟨rfl, rfl⟩⟩
  · have hm : k' * size ≤ k * size := Nat.mul_le_mul_right _ hk
    refine ⟨by rw [List.length_take, h6]; omega, .inr ⟨g, cap, cur, rfl, Nat.zero_le _, h1, by omega, h3, h4, ?_⟩⟩
    rw [← h5, List.take_take, Nat.min_eq_left hm]
theorem Wb (T : Tab P) {α : Type} {f : α → List Value} {l2 : List α} {t : Nat} {A A2 : Option Addr} {k cap c : Nat} {xs : List Value} {e size bytes : Nat} {K : Option Addr → Nat → List HP}
    (hx : evo env x = some (.slice A k cap)) (ht : look T.sl t = some (e, size, bytes)) (hy : evo env y = some (.slice A2 l2.length c)) (hr : Rd B w0 H A2 (l2.flatMap f)) (hq : ∀ a, (f a).length = size) (h1 : ∀ a, Jg (f a) = true) (hn : Nat.ble (d + 1) n.k = true)
    (hu : ∀ A' cap', Upd (sl e size A k cap xs) (sl e size A' (k + l2.length) cap' (xs ++ l2.flatMap f)) H (K A' cap')) (hby : (k + l2.length) * bytes ≤ 140737488355328)
    (h : ∀ A' cap', VL P none n B w0 ops Q rest ((d, .slice A' (k + l2.length) cap') :: env) (K A' cap')) :
    VL P none n B w0 ops Q (⟨some d, .call ⟨.builtin .append, #[x, y], #[t, t]⟩, ty, pos, after, none⟩ :: rest) env H := by
  obtain ⟨hut, i, z, hi, hz, hzs, hsi, hbi, hs0, hb0⟩ := YX (T.slic ht)
  refine Xw (fun v K' => ∃ A' cap', v = .slice A' (k + l2.length) cap' ∧ K' = K A' cap') rfl rfl hn (fun a w ha hw => ?_) (by rintro _ _ ⟨A', cap', rfl, rfl⟩; exact h A' cap')
  have hmem : sl e size A k cap xs ∈ H := by
    obtain ⟨L1, L2, rfl, _⟩ := hu none 0
    simp
  have hown := hw.sl hmem
  have h63 : k + l2.length ≤ maxLen := by
    have : k + l2.length ≤ (k + l2.length) * bytes := Nat.le_mul_of_pos_right _ hb0
    simp only [maxLen]; omega
  cases A2 with
  | none =>
    have hl0 : l2 = [] := by
      cases l2 with
      | nil => rfl
      | cons b l =>
        have hb := hq b
        obtain ⟨v, hv⟩ : ∃ v, (f b)[0]? = some v := ⟨_, List.getElem?_eq_getElem (by omega)⟩
        obtain ⟨g, o, e1, _⟩ := hr w hw 0 v (by rw [List.flatMap_cons, List.getElem?_append_left (by omega)]; exact hv)
        cases e1
    subst hl0
    have hkc : k ≤ cap := by
      rcases UG hown with ⟨_, e1, e2, _⟩ | ⟨_, _, _, _, e1, _⟩ <;> omega
    refine ⟨.slice A k cap, K A cap, w, ?_, ?_, A, cap, by simp, rfl⟩
    · cases A with
      | none => simp [execOp, resolve, invoke, builtin, ha.eval hx, ha.eval hy, Builtin.append_, run_underlying hut, sizeOf, typeInfo, hi, Builtin.lenOf, hkc, Builtin.firstCells]
      | some a0 => simp [execOp, resolve, invoke, builtin, ha.eval hx, ha.eval hy, Builtin.append_, run_underlying hut, sizeOf, typeInfo, hi, Builtin.lenOf, hkc, Builtin.firstCells, storeCells]
    · have := hu A cap
      simp only [List.length_nil, Nat.add_zero, List.flatMap_nil, List.append_nil] at this
      exact hw.upd this rfl rfl rfl (Nat.le_refl _) fun S1 hS => ⟨hS, fun _ _ _ => rfl⟩
  | some a2 =>
    obtain ⟨v', w', hrun, hown', hgrow, _, hat⟩ := run_append_own_at (P := P) w 0 t ty e i z size bytes hut hi hz hsi hbi hzs hs0 (.slice A k cap) k xs hown a2 l2.length c (l2.flatMap f) (Y0 hq l2)
      (fun j u hj => by
        obtain ⟨g, o, e1, e2⟩ := hr w hw j u hj
        injection e1 with e1
        rw [e1, Addr.add_lit]; exact e2) (Q3 h1 l2) h63 hby (Nat.zero_le _)
    have hshape : ∃ A' cap', v' = .slice A' (k + l2.length) cap' := by
      rcases hown'.2 with ⟨e1, e2⟩ | ⟨g', c', _, e1, _⟩
      · exact ⟨none, 0, by rw [e1, e2]⟩
      · exact ⟨_, _, e1⟩
    obtain ⟨A', cap', rfl⟩ := hshape
    refine ⟨_, K A' cap', w', by simp [execOp, resolve, invoke, builtin, ha.eval hx, ha.eval hy, hrun], ?_, A', cap', rfl, rfl⟩
    refine hw.updN (hu A' cap') hgrow.os hgrow.tape hgrow.output hgrow.size fun S1 ⟨_, hS⟩ => ⟨⟨fun b => Value.ownBlock (.slice A' (k + l2.length) cap') = some b, ⟨hown', ?_⟩, fun b hb => ?_⟩, fun b hb hlt => hgrow.block b hlt (fun e => hb ?_)⟩
    · rintro a rfl; rfl
    · rcases hat with e | e
      · rw [e] at hb
        cases A with
        | none => cases hb
        | some a => left; have := hS a rfl; simp only [Value.ownBlock, Option.some.injEq] at hb; rwa [← hb]
      · rw [e] at hb
        right
        simp only [Option.some.injEq] at hb
        subst hb
        refine ⟨Nat.le_refl _, ?_⟩
        rcases UG hown' with ⟨rfl, _⟩ | ⟨g', cur', rfl, h5, _⟩
        · simp [Value.ownBlock] at e
        · simp only [Value.ownBlock, Option.some.injEq] at e
          rw [← e]
          exact (Array.getElem?_eq_some_iff.1 h5).1
    · cases A with
      | none => simp [Value.ownBlock] at e
      | some a => have := hS a rfl; simp only [Value.ownBlock, Option.some.injEq] at e; rwa [e]
theorem Yh0 (T : Tab P) (T2 : Tab2 P) {t e size bytes k cap o mm c : Nat} {A : Option Addr} {xs : List Value} {z : Value} (hx : evo env x = some (.slice (subA A o cap size) mm c)) (hm : sl e size A k cap xs ∈ H) (ht : look T.sl t = some (e, size, bytes)) (hz : look T2.zt e = some z) (hz1 : Jg z.cells.toList = true) (hb : k ≤ o ∧ o + mm ≤ cap)
    (h : VL P none n B w0 ops Q rest env H) : VL P none n B w0 ops Q (⟨none, .call ⟨.builtin .clear, #[x], #[t]⟩, ty, pos, after, none⟩ :: rest) env H := by
  obtain ⟨hut, i, z', hi, hz', hzs, hsi, hbi, hs0, hb0⟩ := YX (T.slic ht)
  have hzz : z' = z := by
    have h2 := Ue T2.zt_ok hz
    unfold OZ at h2
    rw [hi] at h2
    exact Option.some.inj (hz'.symm.trans h2)
  subst hzz
  refine Yk3 (v := .tuple #[]) rfl rfl (fun a w ha hw => ?_) h
  rcases UG (hw.sl hm) with ⟨rfl, rfl, rfl, rfl⟩ | ⟨g, cur, rfl, h1, h2, h3, h4, h5, h6⟩
  · obtain rfl : mm = 0 := by omega
    refine ⟨w, ?_, hw⟩
    have : subA none o 0 size = none := by unfold subA; split <;> rfl
    rw [this] at hx
    simp [execOp, resolve, invoke, builtin, ha.eval hx, Builtin.clear_, run_underlying hut]
  · by_cases hm0 : mm = 0
    · subst hm0
      refine ⟨w, ?_, hw⟩
      cases hsa : subA (some ⟨g, 0, none⟩) o cap size with
      | none => rw [hsa] at hx; simp [execOp, resolve, invoke, builtin, ha.eval hx, Builtin.clear_, run_underlying hut]
      | some b => rw [hsa] at hx; simp [execOp, resolve, invoke, builtin, ha.eval hx, Builtin.clear_, run_underlying hut]
    · have hsa : subA (some ⟨g, 0, none⟩) o cap size = some ⟨g, o * size, none⟩ := by
        unfold subA
        rw [if_neg (by omega), Option.map_some, Addr.add_lit, Nat.zero_add]
      rw [hsa] at hx
      have hlen : (Builtin.zeroCells z'.cells mm).toList.length = mm * size := by simp [Builtin.zeroCells, hzs]
      have hone : ∀ v ∈ (Builtin.zeroCells z'.cells mm).toList, v.oneCell' = true := by
        intro v hv
        simp only [Builtin.zeroCells, Array.toList_map, List.mem_map] at hv
        obtain ⟨j, _, rfl⟩ := hv
        have hlt : j % z'.cells.size < z'.cells.size := Nat.mod_lt _ (by omega)
        rw [getElem!_pos z'.cells (j % z'.cells.size) hlt]
        exact X6 hz1 _ (by simp)
      have hov : o * size + (Builtin.zeroCells z'.cells mm).toList.length ≤ cur.size := by
        rw [hlen, h4, ← Nat.add_mul]; exact Nat.mul_le_mul_right _ hb.2
      have hrun := run_storeCells_at (P := P) g (o * size) e (Builtin.zeroCells z'.cells mm).toList 0 cur w h1 (by rw [Nat.add_zero]; exact hov) hone
      rw [Nat.add_zero] at hrun
      obtain ⟨L1, L2, hL⟩ : ∃ L1 L2, H = L1 ++ sl e size (some ⟨g, 0, none⟩) k cap xs :: L2 := List.append_of_mem hm
      refine ⟨_, ?_, hw.storeRow (k' := k) (xs' := xs) ⟨L1, L2, hL, hL⟩ rfl h1 h4 h2 h3 hov ?_ h6⟩
      · have hzv : (zeroValue e).run P w = .ok z' w := YeT (by unfold OZ; rw [hi]; exact hz') w
        obtain ⟨m', rfl⟩ : ∃ m', mm = m' + 1 := ⟨mm - 1, by omega⟩
        simp [execOp, resolve, invoke, builtin, ha.eval hx, Builtin.clear_, run_underlying hut, hzv, hrun]
      · have hko : k * size ≤ o * size := Nat.mul_le_mul_right _ hb.1
        have hoc : o * size ≤ cur.toList.length := by simp; omega
        rw [List.append_assoc, List.take_append_of_le_length (by rw [List.length_take]; omega), List.take_take, Nat.min_eq_left hko]
        exact h5
theorem Xx (T : Tab P) {α : Type} {f : α → List Value} {l : List α} {t i q o e k cap : Nat} {b b' : α} {v : Value} {A : Option Addr} {K : List HP} (hx : evo env x = some (sptr A (i * q + o))) (hy : evo env y = some v) (h1 : v.oneCell' = true)
    (hu : Upd (sl e q A k cap (l.flatMap f)) (sl e q A k cap ((l.set i b').flatMap f)) H K) (hb : l[i]? = some b) (hv : f b' = (f b).set o v) (hq : ∀ a, (f a).length = q) (ho : Nat.blt o q = true) (ht : look T.sc t = some ())
    (h : VL P none n B w0 ops Q rest env K) : VL P none n B w0 ops Q (⟨none, .store t x y, ty, pos, after, none⟩ :: rest) env H := by
  have ho' : o < q := by simpa using ho
  have hi := (List.getElem?_eq_some_iff.1 hb).1
  refine Ydo (xs := l.flatMap f) (e := e) (size := q) (k := k) (cap := cap) T hx hy h1 ?_ ht ?_ h
  · rw [flat_set hq ho' l i b b' hb hv]; exact hu
  · rw [Y0 hq]
    have : (i + 1) * q ≤ l.length * q := Nat.mul_le_mul_right _ hi
    rw [Nat.add_mul] at this
    omega
end
open Go.RowKit
open Go.ChangeMaps (setBlock)
section
variable {P : Program} {m : Mode} {n : Shp} {B : Nat} {w0 : World} {ops : Array Oper} {Q : Exit → Act → World → Prop} {rest : List Oper} {env : Env} {H : List HP} {d : Nat} {ty : TypeId} {pos : String} {after : Array Edge} {x y : Operand}
theorem YgH {t kt et g clock : Nat} {es : Ents} {u : Operand} {k : Int} {v : Value} {K : List HP} (hx : evo env x = some (.map (some g))) (hy : evo env y = some (.int .i64 k)) (hv : evo env u = some v) (ht : mapT P t kt et = true)
    (hu : Upd (blk g (mobj es clock)) (blk g (mobj (es ++ [(k, v, clock)]) (clock + 1))) H K) (hk : mget es k = none)
    (h : VL P none n B w0 ops Q rest env K) : VL P none n B w0 ops Q (⟨none, .insert t x y u, ty, pos, after, none⟩ :: rest) env H := by
  obtain ⟨h1, h2⟩ := UD ht
  refine Z5 rfl rfl (fun a w ha hw => ⟨setBlock w g (mobj (es ++ [(k, v, clock)]) (clock + 1)), ?_, hw.setBlock hu⟩) h
  have hb : w.heap[g]? = some (mobj es clock) := by
    obtain ⟨L1, L2, rfl, _⟩ := hu
    exact (hw.blk (by simp)).1
  have hb' := hb
  unfold mobj at hb
  simp [execOp, ha.eval hx, ha.eval hy, ha.eval hv, Instr.mapUpdate, run_underlying h1, getObj, Sem.run, hb, Z8 _ h2, MapKept.run_findKey h2 (Vg 0 hk), MapKept.run_setObj_map _ hb, setBlock, mobj, toE]
def isSl (P : Program) (t : TypeId) : Bool := match P.underlying t with | some (.slice _) => true | _ => false
theorem YbS {t : TypeId} (h : isSl P t = true) : ∃ e, P.underlying t = some (.slice e) := by
  unfold isSl at h
  split at h
  · rename_i e hu; exact ⟨e, hu⟩
  · cases h
theorem Ut {xt yt : TypeId} {A : Option Addr} {k cap : Nat} (hx : evo env x = some (.slice A k cap)) (hn : Nat.ble (d + 1) n.k = true) (hu : isSl P xt = true)
    (h : VL P m n B w0 ops Q rest ((d, .bool A.isNone) :: env) H) : VL P m n B w0 ops Q (⟨some d, .binOp .eql xt x (.const (.slice none 0 0)) yt, ty, pos, after, none⟩ :: rest) env H := by
  obtain ⟨e, hu⟩ := YbS hu
  refine YR hx (y := .const (.slice none 0 0)) rfl hn (fun w => by simp [eqGuard]) (fun w => ?_) h
  simp only [binOp, Op.equal]
  rw [Sem.run_bind, show Op.maxDepth = 9999 + 1 from rfl]
  unfold Op.equalIn
  cases A <;> simp [run_underlying hu]
end
open Go.RowKit
section
variable {P : Program} {m : Mode} {n : Shp} {B : Nat} {w0 : World} {ops : Array Oper} {Q : Exit → Act → World → Prop} {rest : List Oper} {env : Env} {H : List HP} {d : Nat} {ty : TypeId} {pos : String} {after : Array Edge} {x y : Operand}
theorem Yd1 {α : Type} {f : α → List Value} {q : Nat} (hq : ∀ a, (f a).length = q) : ∀ (l : List α) (i : Nat) (a : α), i < l.length → (l.flatMap f).take (i * q) ++ f a ++ (l.flatMap f).drop (i * q + q) = (l.set i a).flatMap f
  | [], i, a, h => by simp at h
  | b :: l, 0, a, _ => by
    rw [Nat.zero_mul, List.take_zero, List.nil_append, Nat.zero_add, List.flatMap_cons, List.drop_left' (hq b), List.set_cons_zero, List.flatMap_cons]
  | b :: l, i + 1, a, h => by
    have e1 : (i + 1) * q = q + i * q := by rw [Nat.add_mul]; omega
    have e2 : q + i * q + q = q + (i * q + q) := by omega
    have ih := Yd1 hq l i a (by simpa using h)
    have hb := hq b
    rw [List.set_cons_succ, List.flatMap_cons, List.flatMap_cons, ← ih, e1, e2, List.take_append, List.drop_append, hb, List.take_of_length_le (by omega), List.drop_eq_nil_of_le (by omega), Nat.add_sub_cancel_left, Nat.add_sub_cancel_left, List.nil_append]
    simp [List.append_assoc]
theorem UI (T : Tab P) {α : Type} {f : α → List Value} {l : List α} {t i q e k cap : Nat} {a : α} {vs : List Value} {A : Option Addr} {K : List HP} (hx : evo env x = some (sptr A (i * q))) (hy : evo env y = some (.agg vs.toArray)) (hv : f a = vs)
    (hu : Upd (sl e q A k cap (l.flatMap f)) (sl e q A k cap ((l.set i a).flatMap f)) H K) (hq : ∀ a, (f a).length = q) (h1 : Jg vs = true) (ht : look T.ag t = some q) (hq0 : Nat.blt 0 q = true) (hi : i < l.length)
    (h : VL P none n B w0 ops Q rest env K) : VL P none n B w0 ops Q (⟨none, .store t x y, ty, pos, after, none⟩ :: rest) env H := by
  subst hv
  have hmem : sl e q A k cap (l.flatMap f) ∈ H := by
    obtain ⟨L1, L2, rfl, _⟩ := hu
    simp
  have hq0' : 0 < q := by simpa using hq0
  refine Z5 rfl rfl (fun ac w ha hw => ?_) h
  have hown := hw.sl hmem
  rcases UG hown with ⟨_, rfl, _, e4⟩ | ⟨g, cur, rfl, g1, g2, g3, g4, g5, g6⟩
  · have := congrArg List.length e4
    rw [Y0 hq] at this
    have h5 : 0 < l.length * q := Nat.mul_pos (by omega) hq0'
    simp at this
    omega
  · have hil : i * q + q ≤ l.length * q := by
      have : (i + 1) * q ≤ l.length * q := Nat.mul_le_mul_right _ hi
      rw [Nat.add_mul] at this; omega
    rw [Y0 hq] at g6
    have hkc : k * q ≤ cap * q := Nat.mul_le_mul_right _ g2
    have hov : i * q + (f a).length ≤ cur.size := by rw [hq, g4]; omega
    have hrun := run_storeCells_at (P := P) g (i * q) e (f a) 0 cur w g1 (by rw [Nat.add_zero]; exact hov) (X6 h1)
    rw [Nat.add_zero] at hrun
    refine ⟨_, ?_, hw.storeRow (k' := k) (o := i * q) (vs := f a) hu rfl g1 g4 g2 g3 hov ?_ ?_⟩
    · rw [show sptr (some (⟨g, 0, none⟩ : Addr)) (i * q) = .pointer (some ⟨g, i * q, none⟩) by simp [sptr, Addr.add_lit]] at hx
      simp [execOp, ha.eval hx, ha.eval hy, Instr.storeAt, Instr.sureAddr, storeVar, Value.cells, Xr (ZA (T.aggs ht)), hq, hrun]
    · have hX : (cur.toList.take (i * q) ++ f a).length = i * q + q := by rw [List.length_append, List.length_take, Array.length_toList, hq]; omega
      rw [← Yd1 hq l i a hi, ← g5, hq, List.take_append, hX, List.take_of_length_le (by omega), List.take_take, Nat.min_eq_left (by omega), List.drop_take]
    · rw [Y0 hq, List.length_set]; exact g6
theorem YaZ (T : Tab P) {t k cap e size bytes : Nat} {a : Addr} {ki : IntKind} {i : Int} (hx : evo env x = some (.slice (some a) k cap)) (hy : evo env y = some (.int ki i)) (ht : look T.sl t = some (e, size, bytes)) (hn : Nat.ble (d + 1) n.k = true) (hi : 0 ≤ i ∧ i < k)
    (h : VL P m n B w0 ops Q rest ((d, sptr (some a) (i.toNat * size)) :: env) H) : VL P m n B w0 ops Q (⟨some d, .indexAddr t x y, ty, pos, after, none⟩ :: rest) env H := by
  obtain ⟨hut, inf, z', hinf, _, _, hsi, _⟩ := YX (T.slic ht)
  refine Yw rfl rfl hn rfl (fun f w ha _ => ?_) h
  simp [execOp, ha.eval hx, ha.eval hy, Instr.indexAt, asIntOf, run_underlying hut, hi, sizeOf, typeInfo, hinf, hsi, sptr]
theorem Ur {c : Code} {e size k cap : Nat} {A : Option Addr} {xs : List Value} (hm : sl e size A k cap xs ∈ H) (hk : 0 < k) (h : ∀ g, A = some ⟨g, 0, none⟩ → VC P n B w0 c Q env H) : VC P n B w0 c Q env H := by
  refine ⟨fun a w ha hw => ?_⟩
  rcases UG (hw.sl hm) with ⟨_, e1, _⟩ | ⟨g, _, rfl, _⟩
  · omega
  · exact (h g rfl).run a w ha hw
end
open Go.RowKit
section
variable {P : Program} {n : Shp} {B : Nat} {w0 : World} {ops : Array Oper} {Q : Exit → Act → World → Prop} {rest : List Oper} {env : Env} {H : List HP}
def ZH (ops : Array Oper) : List Nat → Array Bool → Bool
  | [], listed => (Region.ready .any ops listed).isEmpty
  | i :: rest, listed => decide (Region.ready .any ops listed = [i]) && ZH ops rest (listed.setIfInBounds i true)
def YcP (ops : Array Oper) (last : List Nat) : List Nat → Array Bool → Bool
  | [], listed => ZH ops last listed
  | i :: rest, listed =>
    (match ops[i]? with
      | some o => if eff o then decide (Region.ready .any ops listed = [i]) else (Region.ready .any ops listed).contains i && Region.free .any ops listed i
      | none => false) && YcP ops last rest (listed.setIfInBounds i true)
def Yai (ops : Array Oper) (last : List Nat) : Bool :=
  last.all fun j => decide (j < ops.size) && (List.range ops.size).all fun i => last.contains i || (match ops[i]? with | some o => eff o | none => false) || ancB ops ops.size j i
theorem ZD {last : List Nat} (h : Yai ops last = true) : (∀ j, last.contains j = true → ∃ o, ops[j]? = some o) ∧ ∀ i oi, ops[i]? = some oi → eff oi = false → last.contains i = false → ∀ j, last.contains j = true → ∃ f, ancB ops f j i = true := by
  refine ⟨fun j hj => ?_, fun i oi hi he hil j hj => ?_⟩
  · have h1 := List.all_eq_true.1 h j (by simpa using hj)
    simp only [Bool.and_eq_true, decide_eq_true_eq] at h1
    exact ⟨_, Array.getElem?_eq_getElem h1.1⟩
  · have h1 := List.all_eq_true.1 h j (by simpa using hj)
    simp only [Bool.and_eq_true] at h1
    have hlt : i < ops.size := (Array.getElem?_eq_some_iff.1 hi).1
    have h2 := List.all_eq_true.1 h1.2 i (List.mem_range.2 hlt)
    rw [hi, hil] at h2
    simp only [he, Bool.false_or] at h2
    exact ⟨_, h2⟩
theorem ZT {S : World → Prop} {last : List Nat} (l : List Oper) (hl : ops = l.toArray) (hef : ∀ j, last.contains j = true → ∃ o, ops[j]? = some o) (hlo : ¬ LetsOut Q) :
    ∀ (o2 : List Nat) (listed : Array Bool) (a : Act) (w : World), (∀ j ∈ o2, last.contains j = true) → ZH ops o2 listed = true → wpList P ops Q (Yj l o2) a w → X3 P ops Q S last o2.length listed a w
  | [], listed, a, w, _, hB, h => ⟨by simpa [ZH] using hB, h⟩
  | i :: rest, listed, a, w, hin, hB, h => by
    simp only [ZH, Bool.and_eq_true, decide_eq_true_eq] at hB
    obtain ⟨h1, h2⟩ := hB
    obtain ⟨o, ho⟩ := hef i (hin i (by simp))
    have hget : nthO l i = o := YN hl ho
    simp only [Yj, hget] at h
    unfold wpList at h
    refine ⟨fun h0 => (by rw [h1] at h0; cases h0), fun k hk => ?_⟩
    rw [h1] at hk
    obtain rfl : k = i := by simpa using hk
    unfold wpOp
    simp only [ho]
    have hc : last.contains k = true := hin k (by simp)
    by_cases hw : Region.wanted o (yielded ops a.tmps) = true
    · rw [if_pos hw] at h ⊢
      rcases h with h | ⟨_, h⟩
      · exact .inl (Oper.wp_mono (fun a' w' h' => ⟨fun hf => (by rw [hc] at hf; cases hf), ZT l hl hef hlo rest _ a' w' (fun j hj => hin j (by simp [hj])) h2 h'⟩) h)
      · exact (hlo h).elim
    · rw [if_neg hw] at h ⊢
      exact ⟨fun hf => (by rw [hc] at hf; cases hf), ZT l hl hef hlo rest _ _ w (fun j hj => hin j (by simp [hj])) h2 h⟩
theorem JG {S : World → Prop} {last : List Nat} (hs : Region.noSelect ops = true) (hQ : ∀ c (a : Act) (w : World), ¬ Q (.panic c) a w) (hlo : ¬ LetsOut Q) (l : List Oper) (hl : ops = l.toArray) (hlast : Yai ops last = true) :
    ∀ (o1 : List Nat) (listed : Array Bool) (a : Act) (w : World), Closed ops listed → (∀ j ∈ o1, last.contains j = false) → YcP ops last o1 listed = true → S w → Yt P ops (X5 P ops Q (Yj l last)) S (Yj l o1) a w →
      X3 P ops Q S last (o1 ++ last).length listed a w
  | [], listed, a, w, _, _, hB, _, h => ZT l hl (ZD hlast).1 hlo last listed a w (fun j hj => by simpa using hj) hB h
  | i :: rest, listed, a, w, hcl, hno, hB, hS, h => by
    simp only [YcP, Bool.and_eq_true] at hB
    obtain ⟨h1, h2⟩ := hB
    have hno' : ∀ j ∈ rest, last.contains j = false := fun j hj => hno j (by simp [hj])
    cases ho : ops[i]? with
    | none => rw [ho] at h1; cases h1
    | some o =>
      rw [ho] at h1
      have hget : nthO l i = o := YN hl ho
      simp only [Yj, hget] at h
      by_cases he : eff o = true
      · simp only [he, if_true, decide_eq_true_eq] at h1
        unfold Yt at h
        rw [if_pos he] at h
        refine ⟨fun h0 => (by rw [h1] at h0; cases h0), fun k hk => ?_⟩
        have hk' := hk
        rw [h1] at hk
        obtain rfl : k = i := by simpa using hk
        unfold wpOp
        simp only [ho]
        by_cases hw : Region.wanted o (yielded ops a.tmps) = true
        · rw [if_pos hw] at h ⊢
          refine .inl (Oper.wp_mono_noQ' (fun c a w h => by cases h) (Oper.wp_mono (fun a' w' h' => ⟨fun _ => h'.1, JG hs hQ hlo l hl hlast rest _ a' w' (hcl.set hk') hno' h2 h'.1 h'.2⟩) h))
        · rw [if_neg hw] at h ⊢
          exact ⟨fun _ => hS, JG hs hQ hlo l hl hlast rest _ _ w (hcl.set hk') hno' h2 hS h⟩
      · simp only [he] at h1
        simp only [Bool.false_eq_true, if_false, Bool.and_eq_true] at h1
        unfold Yt at h
        rw [if_neg he] at h
        obtain ⟨v, hy, h3⟩ := h
        have hr : i ∈ Region.ready .any ops listed := by simpa using h1.1
        exact Zr ho (Region.noSelect_spec hs) hQ ((ZD hlast).2 i o ho (by simpa using he) (hno i (by simp))) (hno i (by simp)) _ listed a w hcl (Region.free_spec ho h1.2) hr hy hS (JG hs hQ hlo l hl hlast rest _ _ w (hcl.set hr) hno' h2 hS h3)
theorem JO {id : Nat} {l : List Oper} (o1 last : List Nat) (mask : List Bool) {Hc F : List HP} (hm : P.follows .mixedOrders = true)
    (hB : (Region.noSelect l.toArray && decide ((o1 ++ last).length = l.toArray.size) && Yai l.toArray last && (o1.all fun j => !last.contains j) && YcP l.toArray last o1 (Array.replicate l.toArray.size false)) = true)
    (hsp : Split mask H Hc F) {l1 l2 : List Oper} (hl1 : Yj l o1 = l1) (hl2 : Yj l last = l2) (h : VL P (some (some F)) n B w0 l.toArray (X5 P l.toArray (Only Q) l2) l1 env Hc) : VC P n B w0 (.region id l.toArray true) Q env H := by
  simp only [Bool.and_eq_true, decide_eq_true_eq] at hB
  obtain ⟨⟨⟨⟨h1, h2⟩, h3⟩, h4⟩, h5⟩ := hB
  refine ⟨fun a w ha hw => Zs (Q := Only Q) ?_ fun e a w h => by cases e <;> first | exact h | cases h⟩
  have hst : St B w0 (Hc ++ F) w.drew := (hw.perm (Xj hsp)).drew
  have hr : Yt P l.toArray (X5 P l.toArray (Only Q) l2) (St B w0 Hc) l1 a w.drew := h.run a ha w.drew hst
  rw [← hl1, ← hl2] at hr
  have := JG (S := St B w0 Hc) h1 (fun c a w h => h) (by rintro ⟨_, _, h⟩; exact h) l rfl h3 o1 _ a w.drew (Xz _ _) (fun j hj => by simpa using List.all_eq_true.1 h4 j hj) h5 hst.prefix_ hr
  rw [h2] at this
  exact JK hm (X4 _ _ _ _ this)
end
open Go.RowKit
open Go.ChangeMaps (setBlock)
inductive OU where
  | done
  | n1 (i : Nat) (t : OU)
  | n2 (i : Nat) (t : OU) (j : Nat) (u : OU)
  | n3 (i : Nat) (t : OU) (j : Nat) (u : OU) (k : Nat) (v : OU)
section
variable {P : Program} {n : Shp} {B : Nat} {w0 : World} {Q : Exit → Act → World → Prop} {env : Env} {H : List HP} {ops : Array Oper}
def Xl (P : Program) (ops : Array Oper) (l : List Oper) (Q : Exit → Act → World → Prop) (S : World → Prop) : OU → Act → World → Prop
  | .done, a, w => Q .normal a w
  | .n1 i t, a, w => Yt P ops (fun e a w => match e with | .normal => Xl P ops l Q S t a w | _ => False) S [nthO l i] a w
  | .n2 i t j u, a, w => Yt P ops (fun e a w => match e with | .normal => Xl P ops l Q S t a w | _ => False) S [nthO l i] a w ∧ Yt P ops (fun e a w => match e with | .normal => Xl P ops l Q S u a w | _ => False) S [nthO l j] a w
  | .n3 i t j u k v, a, w => Yt P ops (fun e a w => match e with | .normal => Xl P ops l Q S t a w | _ => False) S [nthO l i] a w ∧ Yt P ops (fun e a w => match e with | .normal => Xl P ops l Q S u a w | _ => False) S [nthO l j] a w ∧ Yt P ops (fun e a w => match e with | .normal => Xl P ops l Q S v a w | _ => False) S [nthO l k] a w
def Jr (ops : Array Oper) (last : List Nat) : OU → Array Bool → Nat → Bool
  | .done, listed, 0 => ZH ops last listed
  | .done, _, _ + 1 => false
  | .n1 i t, listed, k + 1 => !last.contains i && (match ops[i]? with
      | some o => if eff o then decide (Region.ready .any ops listed = [i]) else (Region.ready .any ops listed).contains i && Region.free .any ops listed i
      | none => false) && Jr ops last t (listed.setIfInBounds i true) k
  | .n2 i t j u, listed, k + 1 => !last.contains i && !last.contains j && Zi ops i && Zi ops j && ((Region.ready .any ops listed).all fun x => x == i || x == j) && !(Region.ready .any ops listed).isEmpty && Jr ops last t (listed.setIfInBounds i true) k && Jr ops last u (listed.setIfInBounds j true) k
  | .n3 i t j u q v, listed, k + 1 => !last.contains i && !last.contains j && !last.contains q && Zi ops i && Zi ops j && Zi ops q && ((Region.ready .any ops listed).all fun x => x == i || x == j || x == q) && !(Region.ready .any ops listed).isEmpty && Jr ops last t (listed.setIfInBounds i true) k && Jr ops last u (listed.setIfInBounds j true) k && Jr ops last v (listed.setIfInBounds q true) k
  | .n1 _ _, _, 0 => false
  | .n2 _ _ _ _, _, 0 => false
  | .n3 _ _ _ _ _ _, _, 0 => false
theorem Xp {S : World → Prop} {last : List Nat} (hs : Region.noSelect ops = true) (hQ : ∀ c (a : Act) (w : World), ¬ Q (.panic c) a w) (hlo : ¬ LetsOut Q) (l : List Oper) (hl : ops = l.toArray) (hlast : Yai ops last = true) :
    ∀ (t : OU) (k : Nat) (listed : Array Bool) (a : Act) (w : World), Closed ops listed → Jr ops last t listed k = true → S w → Xl P ops l (X5 P ops Q (Yj l last)) S t a w →
      X3 P ops Q S last (k + last.length) listed a w
  | .done, 0, listed, a, w, _, hB, _, h => by
    have := ZT (S := S) l hl (ZD hlast).1 hlo last listed a w (fun j hj => by simpa using hj) hB h
    rw [Nat.zero_add]
    exact this
  | .done, _ + 1, _, _, _, _, hB, _, _ => by cases hB
  | .n1 _ _, 0, _, _, _, _, hB, _, _ => by cases hB
  | .n2 _ _ _ _, 0, _, _, _, _, hB, _, _ => by cases hB
  | .n3 _ _ _ _ _ _, 0, _, _, _, _, hB, _, _ => by cases hB
  | .n1 i t, k + 1, listed, a, w, hcl, hB, hS, h => by
    simp only [Jr, Bool.and_eq_true] at hB
    obtain ⟨⟨h0, h1⟩, h2⟩ := hB
    have hno : last.contains i = false := by simpa using h0
    cases ho : ops[i]? with
    | none => rw [ho] at h1; cases h1
    | some o =>
      rw [ho] at h1
      have hget := YN hl ho
      unfold Xl at h
      rw [hget] at h
      rw [Nat.add_right_comm]
      by_cases he : eff o = true
      · simp only [he, if_true, decide_eq_true_eq] at h1
        refine ⟨fun h0 => (by rw [h1] at h0; cases h0), fun j hj => ?_⟩
        have hj' := hj
        rw [h1] at hj
        obtain rfl : j = i := by simpa using hj
        exact Zg ho he hno (fun e a w hne => by cases e <;> simp_all) hS h fun a w hS' h' => Xp hs hQ hlo l hl hlast t k _ a w (hcl.set hj') h2 hS' h'
      · simp only [he] at h1
        simp only [Bool.false_eq_true, if_false, Bool.and_eq_true] at h1
        unfold Yt at h
        rw [if_neg he] at h
        obtain ⟨v, hy, h3⟩ := h
        have hr : i ∈ Region.ready .any ops listed := by simpa using h1.1
        exact Zr ho (Region.noSelect_spec hs) hQ ((ZD hlast).2 i o ho (by simpa using he) hno) hno _ listed a w hcl (Region.free_spec ho h1.2) hr hy hS (Xp hs hQ hlo l hl hlast t k _ _ w (hcl.set hr) h2 hS h3)
  | .n2 i t j u, k + 1, listed, a, w, hcl, hB, hS, h => by
    simp only [Jr, Bool.and_eq_true] at hB
    obtain ⟨⟨⟨⟨⟨⟨⟨b1, b2⟩, b3⟩, b4⟩, b5⟩, b6⟩, b7⟩, b8⟩ := hB
    have hi : last.contains i = false := by simpa using b1
    have hj : last.contains j = false := by simpa using b2
    unfold Xl at h
    rw [Nat.add_right_comm]
    refine ⟨fun h0 => (by rw [h0] at b6; cases b6), fun x hx => ?_⟩
    have h5 := List.all_eq_true.1 b5 x hx
    simp only [Bool.or_eq_true, beq_iff_eq] at h5
    rcases h5 with rfl | rfl
    · unfold Zi at b3
      cases ho : ops[x]? with
      | none => rw [ho] at b3; cases b3
      | some o =>
        rw [ho] at b3
        have hg := h.1
        rw [YN hl ho] at hg
        exact Zg ho b3 hi (fun e a w hne => by cases e <;> simp_all) hS hg fun a w hS' h' => Xp hs hQ hlo l hl hlast t k _ a w (hcl.set hx) b7 hS' h'
    · unfold Zi at b4
      cases ho : ops[x]? with
      | none => rw [ho] at b4; cases b4
      | some o =>
        rw [ho] at b4
        have hg := h.2
        rw [YN hl ho] at hg
        exact Zg ho b4 hj (fun e a w hne => by cases e <;> simp_all) hS hg fun a w hS' h' => Xp hs hQ hlo l hl hlast u k _ a w (hcl.set hx) b8 hS' h'
  | .n3 i t j u q v, k + 1, listed, a, w, hcl, hB, hS, h => by
    simp only [Jr, Bool.and_eq_true] at hB
    obtain ⟨⟨⟨⟨⟨⟨⟨⟨⟨⟨b1, b2⟩, b2q⟩, b3⟩, b4⟩, b4q⟩, b5⟩, b6⟩, b7⟩, b8⟩, b9⟩ := hB
    have hi : last.contains i = false := by simpa using b1
    have hj : last.contains j = false := by simpa using b2
    have hq : last.contains q = false := by simpa using b2q
    unfold Xl at h
    rw [Nat.add_right_comm]
    refine ⟨fun h0 => (by rw [h0] at b6; cases b6), fun x hx => ?_⟩
    have h5 := List.all_eq_true.1 b5 x hx
    simp only [Bool.or_eq_true, beq_iff_eq] at h5
    rcases h5 with (rfl | rfl) | rfl
    · unfold Zi at b3
      cases ho : ops[x]? with
      | none => rw [ho] at b3; cases b3
      | some o =>
        rw [ho] at b3
        have hg := h.1
        rw [YN hl ho] at hg
        exact Zg ho b3 hi (fun e a w hne => by cases e <;> simp_all) hS hg fun a w hS' h' => Xp hs hQ hlo l hl hlast t k _ a w (hcl.set hx) b7 hS' h'
    · unfold Zi at b4
      cases ho : ops[x]? with
      | none => rw [ho] at b4; cases b4
      | some o =>
        rw [ho] at b4
        have hg := h.2.1
        rw [YN hl ho] at hg
        exact Zg ho b4 hj (fun e a w hne => by cases e <;> simp_all) hS hg fun a w hS' h' => Xp hs hQ hlo l hl hlast u k _ a w (hcl.set hx) b8 hS' h'
    · unfold Zi at b4q
      cases ho : ops[x]? with
      | none => rw [ho] at b4q; cases b4q
      | some o =>
        rw [ho] at b4q
        have hg := h.2.2
        rw [YN hl ho] at hg
        exact Zg ho b4q hq (fun e a w hne => by cases e <;> simp_all) hS hg fun a w hS' h' => Xp hs hQ hlo l hl hlast v k _ a w (hcl.set hx) b9 hS' h'
structure VU (P : Program) (n : Shp) (B : Nat) (w0 : World) (ops : Array Oper) (l : List Oper) (Q : Exit → Act → World → Prop) (t : OU) (env : Env) (H F : List HP) : Prop where
  run : ∀ a, Fits n a env → ∀ w, St B w0 (H ++ F) w → Xl P ops l Q (St B w0 H) t a w
def Za (P : Program) (B : Nat) (w0 : World) (ops : Array Oper) (l : List Oper) (Q : Exit → Act → World → Prop) (Hc : List HP) (t : OU) : Exit → Act → World → Prop
  | .normal, a, w => Xl P ops l Q (St B w0 Hc) t a w
  | _, _, _ => False
theorem Je {l : List Oper} {t : OU} : Za P B w0 ops l Q H t = fun e a w => match e with | .normal => Xl P ops l Q (St B w0 H) t a w | _ => False := by
  funext e a w
  cases e <;> rfl
theorem YjM {l : List Oper} {F HF : List HP} (happ : App H F HF) (h : VQ n B w0 Q .normal env HF) : VU P n B w0 ops l Q .done env H F :=
  ⟨fun a ha w hw => by rw [← JL happ] at hw; exact h.run a w ha hw⟩
theorem YfZ {l : List Oper} {F : List HP} {i : Nat} {t : OU} {o : Oper} (ho : nthO l i = o) (h : VL P (some (some F)) n B w0 ops (Za P B w0 ops l Q H t) [o] env H) : VU P n B w0 ops l Q (.n1 i t) env H F := by
  refine ⟨fun a ha w hw => ?_⟩
  have h1 : Yt P ops (Za P B w0 ops l Q H t) (St B w0 H) [o] a w := h.run a ha w hw
  unfold Xl
  rw [ho, ← Je]
  exact h1
theorem Yf0 {l : List Oper} {F : List HP} {i j : Nat} {t u : OU} {o o' : Oper} (ho : nthO l i = o) (ho' : nthO l j = o') (h : VL P (some (some F)) n B w0 ops (Za P B w0 ops l Q H t) [o] env H)
    (h' : VL P (some (some F)) n B w0 ops (Za P B w0 ops l Q H u) [o'] env H) : VU P n B w0 ops l Q (.n2 i t j u) env H F := by
  refine ⟨fun a ha w hw => ?_⟩
  have h1 : Yt P ops (Za P B w0 ops l Q H t) (St B w0 H) [o] a w := h.run a ha w hw
  have h2 : Yt P ops (Za P B w0 ops l Q H u) (St B w0 H) [o'] a w := h'.run a ha w hw
  unfold Xl
  rw [ho, ho', ← Je, ← Je]
  exact ⟨h1, h2⟩
theorem Ykt {l : List Oper} {F : List HP} {i j q : Nat} {t u v : OU} {o o' o2 : Oper} (ho : nthO l i = o) (ho' : nthO l j = o') (ho2 : nthO l q = o2) (h : VL P (some (some F)) n B w0 ops (Za P B w0 ops l Q H t) [o] env H)
    (h' : VL P (some (some F)) n B w0 ops (Za P B w0 ops l Q H u) [o'] env H) (h2 : VL P (some (some F)) n B w0 ops (Za P B w0 ops l Q H v) [o2] env H) : VU P n B w0 ops l Q (.n3 i t j u q v) env H F := by
  refine ⟨fun a ha w hw => ?_⟩
  have h1 : Yt P ops (Za P B w0 ops l Q H t) (St B w0 H) [o] a w := h.run a ha w hw
  have h2' : Yt P ops (Za P B w0 ops l Q H u) (St B w0 H) [o'] a w := h'.run a ha w hw
  have h3 : Yt P ops (Za P B w0 ops l Q H v) (St B w0 H) [o2] a w := h2.run a ha w hw
  unfold Xl
  rw [ho, ho', ho2, ← Je, ← Je, ← Je]
  exact ⟨h1, h2', h3⟩
theorem Wg {l : List Oper} {F H' Hc : List HP} {t : OU} (hp : Pull Hc H' F) (h : VU P n B w0 ops l Q t env Hc F) : VQ n B w0 (Za P B w0 ops l Q Hc t) .normal env H' :=
  ⟨fun a w ha hw => h.run a ha w (hw.perm hp)⟩
theorem Wa {id : Nat} {l : List Oper} (t : OU) (last : List Nat) (mask : List Bool) {Hc F : List HP} (hm : P.follows .mixedOrders = true)
    (hB : (Region.noSelect l.toArray && decide (last.length ≤ l.toArray.size) && Yai l.toArray last && Jr l.toArray last t (Array.replicate l.toArray.size false) (l.toArray.size - last.length)) = true)
    (hsp : Split mask H Hc F) {l2 : List Oper} (hl2 : Yj l last = l2) (h : VU P n B w0 l.toArray l (X5 P l.toArray (Only Q) l2) t env Hc F) : VC P n B w0 (.region id l.toArray true) Q env H := by
  simp only [Bool.and_eq_true, decide_eq_true_eq] at hB
  obtain ⟨⟨⟨h1, h2⟩, h3⟩, h5⟩ := hB
  refine ⟨fun a w ha hw => Zs (Q := Only Q) ?_ fun e a w h => by cases e <;> first | exact h | cases h⟩
  have hst : St B w0 (Hc ++ F) w.drew := (hw.perm (Xj hsp)).drew
  have hr := h.run a ha w.drew hst
  rw [← hl2] at hr
  have := Xp (S := St B w0 Hc) h1 (fun c a w h => h) (by rintro ⟨_, _, h⟩; exact h) l rfl h3 t _ _ a w.drew (Xz _ _) h5 hst.prefix_ hr
  rw [Nat.sub_add_cancel h2] at this
  exact JK hm (X4 _ _ _ _ this)
end
def MB (es : Ents) (f : Int → Bool) : Prop := ∀ k, mget es k = if f k = true then some (.bool true) else none
structure MOk (es : Ents) (clock : Nat) : Prop where
  nd : (es.map fun e => e.2.2).Nodup
  kn : (es.map fun e => e.1).Nodup
  lt : ∀ e ∈ es, e.2.2 < clock
theorem MB.nil : MB [] (fun _ => false) := fun _ => rfl
theorem MOk.nil {c : Nat} : MOk [] c := ⟨List.nodup_nil, List.nodup_nil, fun _ h => by cases h⟩
theorem Yeg (es l : Ents) (k : Int) : mget (es ++ l) k = (mget es k).or (mget l k) := by
  unfold mget
  rw [List.find?_append]
  cases es.find? (fun e => e.1 == k) <;> rfl
theorem MB.ext {es : Ents} {f g : Int → Bool} (h : MB es f) (e : ∀ v, f v = g v) : MB es g := fun k => by rw [← e k]; exact h k
theorem MB.put {es : Ents} {f : Int → Bool} {k : Int} {c : Nat} (h : MB es f) (hk : f k = false) : MB (es ++ [(k, .bool true, c)]) (fun v => decide (v = k) || f v) := fun v => by
  rw [Yeg, h v]
  by_cases hv : v = k
  · subst hv
    rw [hk]
    simp [mget]
  · have : (k == v) = false := by simpa using Ne.symm hv
    cases hf : f v <;> simp [mget, hv, this, hf]
theorem MB.mem {es : Ents} {f : Int → Bool} (h : MB es f) {e : Int × Value × Nat} (he : e ∈ es) : f e.1 = true := by
  have hk := h e.1
  cases hf : f e.1 with
  | true => rfl
  | false =>
    rw [hf, if_neg (by decide)] at hk
    unfold mget at hk
    cases hx : es.find? (fun x => x.1 == e.1) with
    | none => have := List.find?_eq_none.1 hx e he; simp at this
    | some x => rw [hx] at hk; cases hk
theorem MOk.put {es : Ents} {f : Int → Bool} {k : Int} {v : Value} {c : Nat} (h : MOk es c) (hf : MB es f) (hk : f k = false) : MOk (es ++ [(k, v, c)]) (c + 1) := by
  refine ⟨?_, ?_, fun e he => ?_⟩
  · rw [List.map_append]
    refine List.nodup_append.2 ⟨h.nd, by simp, fun a ha b hb => ?_⟩
    obtain ⟨e, he, rfl⟩ := List.mem_map.1 ha
    obtain rfl : b = c := by simpa using hb
    have := h.lt e he
    omega
  · rw [List.map_append]
    refine List.nodup_append.2 ⟨h.kn, by simp, fun a ha b hb => ?_⟩
    obtain ⟨e, he, rfl⟩ := List.mem_map.1 ha
    obtain rfl : b = k := by simpa using hb
    intro e2
    have := hf.mem he
    rw [e2, hk] at this
    cases this
  · rcases List.mem_append.1 he with he | he
    · have := h.lt e he; omega
    · obtain rfl := List.mem_singleton.1 he
      exact Nat.lt_succ_self _
theorem MB.at_ {es : Ents} {f : Int → Bool} (h : MB es f) {k : Int} (hk : f k = true) : ∃ e ∈ es, e.1 = k := by
  have h1 := h k
  rw [hk, if_pos rfl] at h1
  unfold mget at h1
  cases hx : es.find? (fun x => x.1 == k) with
  | none => rw [hx] at h1; cases h1
  | some x => exact ⟨x, List.mem_of_find?_eq_some hx, by simpa using List.find?_some hx⟩
theorem Upd.same {A : HP} : ∀ {L : List HP}, A ∈ L → Upd A A L L
  | _ :: _, .head _ => Upd.here _
  | X :: _, .tail _ h => (Upd.same h).there X
section
variable {P : Program} {m : Mode} {n : Shp} {B : Nat} {w0 : World} {ops : Array Oper} {Q : Exit → Act → World → Prop} {rest : List Oper} {env : Env} {H : List HP} {d : Nat} {ty : TypeId} {pos : String} {after : Array Edge} {x y u : Operand}
end
open Go.RowKit
theorem St.putObj {B : Nat} {w0 w : World} {H K : List HP} {g : Nat} {o o' : Obj} (h : St B w0 H w) (u : Upd (Eng.blk g o) (Eng.blk g o') H K) : St B w0 K (w.putObj g o') := by
  have hlt : g < w.heap.size := by
    obtain ⟨L1, L2, rfl, _⟩ := u
    exact (h.blk (g := g) (o := o) (by simp)).2.2
  refine h.upd u rfl rfl rfl (by simp [World.putObj]) fun S1 ⟨h1, _⟩ => ⟨⟨h1, World.putObj_heap_same hlt⟩, fun b hb _ => World.putObj_heap_other fun e => hb (e ▸ h1)⟩
theorem YiX (X : HP) (Y M : List HP) : Perm (Y ++ X :: M) (X :: (Y ++ M)) := by
  induction Y with
  | nil => exact .refl _
  | cons A Y ih => exact (ih.cons A).trans (.swap A X _)
theorem Yhn (X : HP) (Y M : List HP) : Perm (X :: (Y ++ M)) (Y ++ X :: M) := by
  induction Y with
  | nil => exact .refl _
  | cons A Y ih => exact (Perm.swap X A _).trans (ih.cons A)
theorem Yeo (Y : List HP) {L M : List HP} (p : Perm L M) : Perm (Y ++ L) (Y ++ M) := by
  induction Y with
  | nil => exact p
  | cons A Y ih => exact ih.cons A
def Qz (P : Program) (l : Nat) (args : List Value) (B : Nat) (w0 : World) (H : List HP) (Φt Φf : List HP → Prop) : Prop :=
  ∀ w, St B w0 H w → YieldAt Fence.wide 0 P l args.toArray w fun e w' =>
    (e = .returned (.bool true) ∧ ∃ K, Φt K ∧ St B w0 K w') ∨ (e = .returned (.bool false) ∧ ∃ K, Φf K ∧ St B w0 K w')
def Ybk (P : Program) (gf : Nat) (lb : List Value) (xs : List (List Value)) (B : Nat) (w0 : World) (HI : List HP) : Prop :=
  ∀ (l : Nat) (S : Nat → List HP → Prop) (X : List HP → Prop),
    (∀ (i : Nat) (args : List Value), xs[i]? = some args → ∀ (Y L : List HP), S i L →
      Qz P l args B w0 (Y ++ many L :: HI) (fun K => ∃ L', S (i + 1) L' ∧ K = Y ++ many L' :: HI) (fun K => ∃ L', X L' ∧ K = Y ++ many L' :: HI)) →
    ∀ L0, S 0 L0 → ∀ w, St B w0 (many L0 :: HI) w →
      CallsIn Fence.wide 0 P gf (.func (.yield l) #[] #[] :: lb).toArray w (Post B w0 fun _ K => (∃ L, S xs.length L ∧ K = many L :: HI) ∨ ∃ L, X L ∧ K = many L :: HI)
def jump : Exit → Option Code
  | .ret => some .ret
  | .exit id => some (.exit id)
  | _ => none
def YfR {α : Type} (B : Nat) (w0 : World) (R : HP) (HI : List HP) (I : α → Prop) (HH : α → List HP) (X : Exit → List HP → Prop) : Exit → Act → World → Prop
  | .normal, _, w => ∃ y, I y ∧ St B w0 (R :: (HH y ++ HI)) w
  | .ret, _, w => ∃ K, X .ret K ∧ St B w0 (R :: (K ++ HI)) w
  | .exit id, _, w => ∃ K, X (.exit id) K ∧ St B w0 (R :: (K ++ HI)) w
  | _, _, _ => False
def YfQ {α : Type} (P : Program) (l B : Nat) (w0 : World) (body : Code) (R : HP) (HI : List HP) (I : α → Prop) (HH : α → List HP) (X : Exit → List HP → Prop) : Exit → Act → World → Prop
  | .normal, a, w => ∃ K, St B w0 (R :: K) w ∧ ∀ R' w', St B w0 (R' :: K) w' → wpR P (some l) body (YfR B w0 R' HI I HH X) a w'
  | _, _, _ => False
def Vy : List Nat → List Value → Env → Env
  | p :: ps, v :: vs, e => Vy ps vs ((p, v) :: e)
  | _, _, e => e
section
variable {P : Program} {B : Nat} {w0 : World} {Q : Exit → Act → World → Prop} {env : Env} {H : List HP} {k : Nat}
theorem Ja {α : Type} {l : Nat} {body : Code} {R : HP} {HI K : List HP} {I : α → Prop} {HH : α → List HP} {X : Exit → List HP → Prop} (hr : Rem R H K)
    (h : ∀ R', VC P ⟨k, [], some l⟩ B w0 body (YfR B w0 R' HI I HH X) env (R' :: K)) : VQ ⟨k, [], some l⟩ B w0 (YfQ P l B w0 body R HI I HH X) .normal env H :=
  ⟨fun a _ ha hw => ⟨K, hw.perm hr, fun R' w' hw' => (h R').run a w' ha hw'⟩⟩
theorem JA {α : Type} {n : Shp} {R : HP} {HI : List HP} {I : α → Prop} {HH : α → List HP} {X : Exit → List HP → Prop} (y : α) (hI : I y) (hH : ∀ w, St B w0 H w → St B w0 (R :: (HH y ++ HI)) w) :
    VQ n B w0 (YfR B w0 R HI I HH X) .normal env H := ⟨fun _ w _ hw => ⟨y, hI, hH w hw⟩⟩
theorem Qy {α : Type} {n : Shp} {R : HP} {HI : List HP} {I : α → Prop} {HH : α → List HP} {X : Exit → List HP → Prop} (K : List HP) (hX : X .ret K) (hH : ∀ w, St B w0 H w → St B w0 (R :: (K ++ HI)) w) :
    VQ n B w0 (YfR B w0 R HI I HH X) .ret env H := ⟨fun _ w _ hw => ⟨K, hX, hH w hw⟩⟩
theorem Yd0 : ∀ (ps : List Nat) (vs : List Value) (t : Array Value) (e : Env), t.size = k → (∀ s v, get e s = some v → t[s]? = some v) → ps.all (fun p => Nat.ble (p + 1) k) = true → ps.length = vs.length →
    ((ps.zip vs).foldl (fun t (x : Nat × Value) => t.setIfInBounds x.1 x.2) t).size = k ∧ ∀ s v, get (Vy ps vs e) s = some v → ((ps.zip vs).foldl (fun t (x : Nat × Value) => t.setIfInBounds x.1 x.2) t)[s]? = some v
  | [], [], t, e, hs, hg, _, _ => ⟨hs, hg⟩
  | p :: ps, v :: vs, t, e, hs, hg, hp, hl => by
    simp only [List.all_cons, Bool.and_eq_true] at hp
    have hlt := Nat.le_of_ble_eq_true hp.1
    refine Yd0 ps vs (t.setIfInBounds p v) ((p, v) :: e) (by simpa using hs) (fun s u hu => ?_) hp.2 (by simpa using hl)
    by_cases e2 : p = s
    · subst e2
      rw [get, if_pos rfl] at hu
      rw [← hu, Array.getElem?_setIfInBounds, if_pos rfl, if_pos (by omega)]
    · rw [get, if_neg e2] at hu
      rw [Array.getElem?_setIfInBounds_ne e2]
      exact hg s u hu
theorem XG {α : Type} {ds : List Deferred} {g : Operand} {ps : List Nat} {assign body : Code} {gf : Nat} {lb : List Value} {xs : List (List Value)} (HI : List HP) (HH : α → List HP) (I : Nat → α → Prop) (X : Exit → List HP → Prop) (x0 : α)
    (hg : evo env g = some (.func (.func gf) #[] lb.toArray)) (hc : ∀ xs w, (callFunc gf xs).run P w = .ok (.enter gf xs) w) (hiter : Ybk P gf lb xs B w0 HI)
    (hps : ps.all (fun p => Nat.ble (p + 1) k) = true) (hlen : ∀ args ∈ xs, args.length = ps.length) (hca : calm assign = true) (hcb : calm body = true)
    (hH : ∀ w, St B w0 H w → St B w0 (HH x0 ++ HI) w) (h0 : I 0 x0)
    (hround : ∀ (l i : Nat) (args : List Value) (R : HP) (x : α), xs[i]? = some args → I i x → VC P ⟨k, [], some l⟩ B w0 assign (YfQ P l B w0 body R HI (I (i + 1)) HH X) (Vy ps args env) (R :: (HH x ++ HI)))
    (hdone : ∀ D x, I xs.length x → VQ ⟨k, ⟨.collected D, #[]⟩ :: ds, none⟩ B w0 Q .normal env (blk D (.deferred (some [])) :: (HH x ++ HI)))
    (hstop : ∀ D e K, X e K → (jump e).isSome = true → VQ ⟨k, ⟨.collected D, #[]⟩ :: ds, none⟩ B w0 Q e env (blk D (.deferred (some [])) :: (K ++ HI))) :
    VC P ⟨k, ds, none⟩ B w0 (.rangeFunc g ps.toArray assign body) Q env H := by
  refine ⟨fun a w ha hw => ?_⟩
  show (Code.rangeFunc g ps.toArray assign body).wp P Q a w
  refine (wpIn_wide (n := 0)).1 (wpIn_rangeFunc ?_)
  intro fn _
  obtain ⟨rec, hrec⟩ : ∃ rec : LoopState → Option Code → Loop, rec = fun st pe => { state := st, pending := pe, fn, tmps := a.tmps, params := ps.toArray, assign, body, defers := w.heap.size } := ⟨_, rfl⟩
  have hst := ((hH w hw).alloc (.deferred (some []))).alloc (.loop (rec .ready none))
  rw [World.size_alloc] at hst
  obtain ⟨l, hl⟩ : ∃ l, w.heap.size + 1 = l := ⟨_, rfl⟩
  obtain ⟨D, hD⟩ : ∃ D, w.heap.size = D := ⟨_, rfl⟩
  rw [hl, hD] at hst
  obtain ⟨W1, hW1⟩ : ∃ W1, (w.alloc (.deferred (some []))).alloc (.loop (rec .ready none)) = W1 := ⟨_, rfl⟩
  rw [hW1] at hst
  refine ⟨l, [⟨.collected D, #[]⟩], W1, { target := .fn (.func gf) lb.toArray, args := #[.func (.yield l) #[] #[]] }, W1, gf, (.func (.yield l) #[] #[] :: lb).toArray, W1, ?_, ?_, ?_, ?_, fun h => by simp [Fence.wide] at h, ?_⟩
  · rw [← hl, ← hD, ← hW1, hrec]
    exact run_enterLoop_outer _ _ _ _ _
  · simp only [resolve, ha.eval hg]
    simp [go_sem]
  · intro f' _; trivial
  · simp [invoke, go_sem, hc]
  · refine CallsIn.mono (hiter l (fun i L => ∃ x, I i x ∧ L = blk l (.loop (rec .ready none)) :: blk D (.deferred (some [])) :: HH x)
      (fun L => ∃ e K c, X e K ∧ jump e = some c ∧ L = blk l (.loop (rec .done (some c))) :: blk D (.deferred (some [])) :: K) ?_ _ ⟨x0, h0, rfl⟩ _ (hst.perm (.close (blk l (.loop (rec .ready none)) :: blk D (.deferred (some [])) :: HH x0) HI))) ?_
    · -- one round
      rintro i args hx Y L ⟨x, hI, rfl⟩ W hW
      have hp1 : ∀ (lp : Loop) (M : List HP), Perm (Y ++ many (blk l (.loop lp) :: blk D (.deferred (some [])) :: M) :: HI) (many (Y ++ [blk l (.loop lp), blk D (.deferred (some []))]) :: (M ++ HI)) := fun lp M => by
        refine (Yeo Y (.open_ _ _)).trans ?_
        have : Y ++ ((blk l (.loop lp) :: blk D (.deferred (some [])) :: M) ++ HI) = (Y ++ [blk l (.loop lp), blk D (.deferred (some []))]) ++ (M ++ HI) := by simp
        rw [this]
        exact .close _ _
      have hp2 : ∀ (lp : Loop) (M : List HP), Perm (many (Y ++ [blk l (.loop lp), blk D (.deferred (some []))]) :: (M ++ HI)) (Y ++ many (blk l (.loop lp) :: blk D (.deferred (some [])) :: M) :: HI) := fun lp M => by
        refine Perm.trans (.open_ _ _) ?_
        have : (Y ++ [blk l (.loop lp), blk D (.deferred (some []))]) ++ (M ++ HI) = Y ++ ((blk l (.loop lp) :: blk D (.deferred (some [])) :: M) ++ HI) := by simp
        rw [this]
        exact Yeo Y (.close _ _)
      have hpf : ∀ (lp : Loop) (M : List HP), Perm (many (Y ++ [blk l (.loop lp), blk D (.deferred (some []))]) :: M) (blk l (.loop lp) :: (Y ++ blk D (.deferred (some [])) :: M)) := fun lp M => by
        refine Perm.trans (.open_ _ _) ?_
        have : (Y ++ [blk l (.loop lp), blk D (.deferred (some []))]) ++ M = Y ++ blk l (.loop lp) :: (blk D (.deferred (some [])) :: M) := by simp
        rw [this]
        exact YiX _ _ _
      have hpb : ∀ (lp : Loop) (M : List HP), Perm (blk l (.loop lp) :: (Y ++ blk D (.deferred (some [])) :: M)) (many (Y ++ [blk l (.loop lp), blk D (.deferred (some []))]) :: M) := fun lp M => by
        refine Perm.trans (Yhn _ _ _) ?_
        have : Y ++ blk l (.loop lp) :: (blk D (.deferred (some [])) :: M) = (Y ++ [blk l (.loop lp), blk D (.deferred (some []))]) ++ M := by simp
        rw [this]
        exact .close _ _
      have hW1 := hW.perm (hp1 _ _)
      have hW2 := hW1.perm (hpf _ _)
      have hlp := (hW2.blk List.mem_cons_self).1
      have hal := hlen args (List.mem_of_getElem? hx)
      have hy := run_yield (P := P) (args := args.toArray) hlp (by rw [hrec]; simp [hal])
      rw [hrec] at hy
      refine ⟨fn, _, assign, body, hy, roundIn_of_wpIn trivial ?_⟩
      have hfit := Yd0 ps args a.tmps env ha.size (fun s v h => ha.slot s v h) hps hal.symm
      have hz : (ps.toArray.zip args.toArray).foldl (fun t (x : Nat × Value) => t.setIfInBounds x.1 x.2) a.tmps = (ps.zip args).foldl (fun t (x : Nat × Value) => t.setIfInBounds x.1 x.2) a.tmps := by
        rw [← Array.foldl_toList]; simp
      have hva := (hround l i args (many (Y ++ [blk l (.loop (rec .ready none)), blk D (.deferred (some []))])) x hx hI).run
        { tmps := (ps.toArray.zip args.toArray).foldl (fun t (x : Nat × Value) => t.setIfInBounds x.1 x.2) a.tmps, defers := [] } W ⟨rfl, by rw [hz]; exact hfit.1, fun s v h => by rw [hz]; exact hfit.2 s v h⟩ hW1
      refine wpIn_mono (hva (by rintro ⟨_, _, h⟩; exact h) hca) ?_
      intro e a1 w1 hq
      cases e with
      | normal =>
        obtain ⟨K, hK, hbody⟩ := hq
        have hK2 := hK.perm (hpf _ _)
        have hlp2 := (hK2.blk List.mem_cons_self).1
        refine ⟨_, run_beginRound hlp2 (by rw [hrec]), ?_⟩
        have hK3 := (hK2.putObj (o' := .loop { rec .ready none with state := .busy }) (.here _)).perm (hpb _ _)
        have hvb := hbody _ _ hK3
        refine wpIn_mono (hvb (by rintro ⟨_, _, h⟩; exact h) hcb) ?_
        intro e a3 w3 hq3
        have fin : ∀ (jp : Option Code) (M : List HP), St B w0 (many (Y ++ [blk l (.loop { rec .ready none with state := .busy }), blk D (.deferred (some []))]) :: (M ++ HI)) w3 →
            ∃ w4, (Instr.endRound l jp).run P w3 = .ok (.bool jp.isNone) w4 ∧ St B w0 (Y ++ many (blk l (.loop (rec (if jp.isNone then .ready else .done) jp)) :: blk D (.deferred (some [])) :: M) :: HI) w4 := fun jp M h3 => by
          have h4 := h3.perm (hpf _ _)
          have h5 := (h4.blk List.mem_cons_self).1
          have h6 := run_endRound (P := P) jp h5
          refine ⟨_, h6, ?_⟩
          have h7 := ((h4.putObj (o' := .loop (rec (if jp.isNone then .ready else .done) jp)) (.here _)).perm (hpb _ _)).perm (hp2 _ _)
          rw [hrec] at h7 ⊢
          exact h7
        cases e with
        | normal =>
          obtain ⟨y, hIy, h3⟩ := hq3
          obtain ⟨w4, h5, h6⟩ := fin none _ h3
          exact ⟨_, w4, h5, .inl ⟨rfl, _, ⟨_, ⟨y, hIy, rfl⟩, rfl⟩, h6⟩⟩
        | ret =>
          obtain ⟨K3, hX3, h3⟩ := hq3
          obtain ⟨w4, h5, h6⟩ := fin (some .ret) _ h3
          exact ⟨_, w4, h5, .inr ⟨rfl, _, ⟨_, ⟨.ret, K3, .ret, hX3, rfl, rfl⟩, rfl⟩, h6⟩⟩
        | exit id =>
          obtain ⟨K3, hX3, h3⟩ := hq3
          obtain ⟨w4, h5, h6⟩ := fin (some (.exit id)) _ h3
          exact ⟨_, w4, h5, .inr ⟨rfl, _, ⟨_, ⟨.exit id, K3, .exit id, hX3, rfl, rfl⟩, rfl⟩, h6⟩⟩
        | goto t => exact hq3.elim
        | panic ch => exact hq3.elim
        | outgrown => exact hq3.elim
      | ret => exact hq
      | exit id => exact hq
      | goto t => exact hq
      | panic ch => exact hq
      | outgrown => exact hq
    · -- behind the iterator
      rintro e W2 ⟨v, K, rfl, hst2, hK⟩
      have hpn : ∀ st pe, (rec st pe).pending = pe := fun st pe => by rw [hrec]
      have hds : ∀ {M : List HP} {w' : World}, St B w0 M w' → Fits ⟨k, ⟨.collected D, #[]⟩ :: ds, none⟩ { a with defers := [⟨.collected D, #[]⟩] ++ a.defers } env := fun _ =>
        ⟨by rw [ha.defers]; rfl, ha.size, ha.slot⟩
      rcases hK with ⟨L, ⟨x, hI, rfl⟩, rfl⟩ | ⟨L, ⟨e, K, c, hX, hj, rfl⟩, rfl⟩
      · have h1 := hst2.perm (.open_ _ _)
        have h2 := (h1.blk List.mem_cons_self).1
        have h3 := run_endLoop (P := P) h2 (by rw [hrec]; simp)
        have h4 := (h1.putObj (o' := .loop { rec .ready none with state := .exhausted }) (.here _)).tail
        refine ⟨none, _, h3.trans (congrArg (fun j => Result.ok j _) (hpn _ _)), ?_⟩
        exact (hdone D x hI).run _ _ (hds h4) h4
      · have h1 := hst2.perm (.open_ _ _)
        have h2 := (h1.blk List.mem_cons_self).1
        have h3 := run_endLoop (P := P) h2 (by rw [hrec]; simp)
        have h4 := (h1.putObj (o' := .loop { rec .done (some c) with state := .exhausted }) (.here _)).tail
        refine ⟨some c, _, h3.trans (congrArg (fun j => Result.ok j _) (hpn _ _)), ?_⟩
        have h5 := (hstop D e K hX (by rw [hj]; rfl)).run _ _ (hds h4) h4
        cases e with
        | ret => obtain rfl := Option.some.inj hj; exact wpIn_ret h5
        | exit id => obtain rfl := Option.some.inj hj; exact wpIn_exit h5
        | normal => cases hj
        | goto t => cases hj
        | panic ch => cases hj
        | outgrown => cases hj
theorem XF {n : Nat} {f : FuncId} {fn : Func} {c : Code} {args : List Value} {w : World} {Φ : Value → List HP → Prop} (hf : P.funcs[f]? = some fn) (hn : fn.ntmps = n) (hb : fn.body = some c)
    (hle : Nat.ble args.length n = true) (hw : St B w0 H w) (h : VC P ⟨n, [], none⟩ B w0 c (bodyPostM Fence.wide 0 P fn (Post B w0 Φ)) (VZ 0 args) H) : Calls P f args.toArray w (Post B w0 Φ) := by
  refine (callsIn_wide (n := 0)).1 (callsIn_of_wp_marks hf hb trivial ((wpIn_wide (n := 0)).2 (h.run _ w ⟨rfl, ?_, fun t v ht => ?_⟩ hw)))
  · have := Nat.le_of_ble_eq_true hle; simp; omega
  · obtain ⟨_, h2⟩ := UY args 0 t v ht
    rw [Nat.sub_zero] at h2
    have hlt : t < args.length := by
      rcases Nat.lt_or_ge t args.length with h | h
      · exact h
      · rw [List.getElem?_eq_none h] at h2; cases h2
    rw [Array.getElem?_append_left (by simpa using hlt)]
    simpa using h2
theorem Yd8 {fn : Func} {R : Ending → World → Prop} {a : Act} {w : World} (h : bodyPost P fn R .ret a w) : bodyPostM Fence.wide 0 P fn R .ret a w := by
  obtain ⟨h1, h2⟩ := h
  show LeavesInM Fence.wide 0 P fn a.tmps R a.defers .returning w
  rw [h1]
  exact h2
theorem VQ_m {n : Nat} {fn : Func} {R : Ending → World → Prop} (h : VQ ⟨n, [], none⟩ B w0 (bodyPost P fn R) .ret env H) : VQ ⟨n, [], none⟩ B w0 (bodyPostM Fence.wide 0 P fn R) .ret env H :=
  ⟨fun a w ha hw => Yd8 (h.run a w ha hw)⟩
theorem Zf {n D : Nat} {ds : List Deferred} {fn : Func} {R : Ending → World → Prop} {H' : List HP} (hr : Rem (blk D (.deferred (some []))) H H') (h : VQ ⟨n, ds, none⟩ B w0 (bodyPostM Fence.wide 0 P fn R) .ret env H') :
    VQ ⟨n, ⟨.collected D, #[]⟩ :: ds, none⟩ B w0 (bodyPostM Fence.wide 0 P fn R) .ret env H := by
  refine ⟨fun a w ha hw => ?_⟩
  show LeavesInM Fence.wide 0 P fn a.tmps R a.defers .returning w
  rw [ha.defers]
  have hw2 := hw.perm hr
  have hb := (hw2.blk List.mem_cons_self).1
  refine ⟨by simp, .inl ⟨D, _, rfl, run_takeDeferred hb, ?_⟩⟩
  have h3 := (hw2.putObj (o' := .deferred none) (.here _)).tail
  exact h.run { a with defers := ds } _ ⟨rfl, ha.size, ha.slot⟩ h3
theorem Uc {ops : Array Oper} (hlo : ¬ LetsOut Q) : ∀ (os : List Oper) (a : Act) (w : World), wpList P ops Q os a w → wpListIn Fence.wide 0 P ops Q os a w
  | [], _, _, h => h
  | o :: os, a, w, h => by
    unfold wpList at h
    unfold wpListIn
    split
    · rename_i hw
      rw [if_pos hw] at h
      rcases h with h | ⟨_, h⟩
      · refine ⟨fun f _ => trivial, ?_⟩
        have h2 := Oper.wp_mono (fun a w h => Uc hlo os a w h) h
        unfold Oper.wp at h2
        have hs : Oper.semAt Fence.wide.round a.eval o = execOp a.eval o := Oper.semAt_none _ _
        rw [hs]
        generalize (execOp a.eval o).run P w = res at h2 ⊢
        cases res with
        | ok x w' =>
          cases x <;> simp only [Oper.upon, Oper.uponIn] at h2 ⊢ <;> first
            | exact h2
            | (refine ⟨fun hd => by simp [Fence.wide] at hd, ?_⟩
               refine CallsIn.mono (callsIn_wide.2 h2) fun e w'' he => ?_
               cases e <;> exact he)
            | (refine ⟨fun hd => by simp [Fence.wide] at hd, fun c cs _ => ?_⟩
               obtain ⟨v, w2, k1, k2⟩ := h2 c cs
               exact ⟨v, w2, k1, stepsIn_wide.2 k2⟩)
            | exact h2.elim
        | halt x w' => cases x <;> simp only [Oper.upon, Oper.uponIn] at h2 ⊢ <;> first | exact h2 | exact h2.elim
      · exact (hlo h).elim
    · rename_i hw
      rw [if_neg hw] at h
      exact ⟨fun f _ => trivial, Uc hlo os _ w h⟩
def YQ (P : Program) (ops : Array Oper) (Q : Exit → Act → World → Prop) (l : List Oper) : Exit → Act → World → Prop
  | .normal, a, w => wpListIn Fence.wide 0 P ops Q l a w
  | e, a, w => Q e a w
theorem Yan {ops : Array Oper} {l : List Oper} (hlo : ¬ LetsOut Q) : ∀ (os : List Oper) (a : Act) (w : World), wpList P ops (YQ P ops Q l) os a w → wpListIn Fence.wide 0 P ops Q (os ++ l) a w
  | [], _, _, h => h
  | o :: os, a, w, h => by
    unfold wpList at h
    rw [List.cons_append]
    unfold wpListIn
    split
    · rename_i hw
      rw [if_pos hw] at h
      rcases h with h | ⟨_, h⟩
      · refine ⟨fun f _ => trivial, ?_⟩
        have h2 := Oper.wp_mono (fun a w h => Yan hlo os a w h) h
        unfold Oper.wp at h2
        have hs : Oper.semAt Fence.wide.round a.eval o = execOp a.eval o := Oper.semAt_none _ _
        rw [hs]
        generalize (execOp a.eval o).run P w = res at h2 ⊢
        cases res with
        | ok x w' =>
          cases x <;> simp only [Oper.upon, Oper.uponIn] at h2 ⊢ <;> first
            | exact h2
            | (refine ⟨fun hd => by simp [Fence.wide] at hd, ?_⟩
               refine CallsIn.mono (callsIn_wide.2 h2) fun e w'' he => ?_
               cases e <;> exact he)
            | (refine ⟨fun hd => by simp [Fence.wide] at hd, fun c cs _ => ?_⟩
               obtain ⟨v, w2, k1, k2⟩ := h2 c cs
               exact ⟨v, w2, k1, stepsIn_wide.2 k2⟩)
            | exact h2.elim
        | halt x w' => cases x <;> simp only [Oper.upon, Oper.uponIn] at h2 ⊢ <;> first | exact h2 | exact h2.elim
      · exact (hlo h).elim
    · rename_i hw
      rw [if_neg hw] at h
      exact ⟨fun f _ => trivial, Yan hlo os _ w h⟩
theorem Qp {n : Nat} {ds : List Deferred} {id : Nat} {l : List Oper} (k : Nat) {l1 l2 : List Oper} (h1 : l.take k = l1) (h2 : l.drop k = l2) (hlo : ¬ LetsOut Q) (h : VL P none ⟨n, ds, none⟩ B w0 l.toArray (YQ P l.toArray Q l2) l1 env H) :
    VC P ⟨n, ds, none⟩ B w0 (.region id l.toArray false) Q env H := by
  refine ⟨fun a w ha hw => ?_⟩
  refine (wpIn_wide (n := 0)).1 (wpIn_region_lit ?_)
  have := Yan hlo _ _ _ (h.run a ha w hw)
  rw [← h1, ← h2, List.take_append_drop] at this
  exact this
theorem Ydv {n : Nat} {ds : List Deferred} {ops : Array Oper} {d l : Nat} {x : Operand} {args : List Operand} {tys : Array TypeId} {ty : TypeId} {pos : String} {after : Array Edge} {gd : Option (Nat × Bool)} {vs : List Value} {rest : List Oper} (Φt Φf : List HP → Prop)
    (hgd : ∀ a : Act, Fits ⟨n, ds, none⟩ a env → Region.wanted ⟨some d, .call ⟨.value x, args.toArray, tys⟩, ty, pos, after, gd⟩ (yielded ops a.tmps) = true)
    (hx : evo env x = some (.func (.yield l) #[] #[])) (hargs : Args env args vs) (hn : Nat.ble (d + 1) n = true) (hlo : ¬ LetsOut Q) (hy : Qz P l vs B w0 H Φt Φf)
    (ht : ∀ K, Φt K → VL P none ⟨n, ds, none⟩ B w0 ops Q rest ((d, .bool true) :: env) K)
    (hf : ∀ K, Φf K → VL P none ⟨n, ds, none⟩ B w0 ops Q rest ((d, .bool false) :: env) K) :
    VQ ⟨n, ds, none⟩ B w0 (YQ P ops Q (⟨some d, .call ⟨.value x, args.toArray, tys⟩, ty, pos, after, gd⟩ :: rest)) .normal env H := by
  refine ⟨fun a w ha hw => ?_⟩
  show wpListIn Fence.wide 0 P ops Q _ a w
  unfold wpListIn
  rw [if_pos (hgd a ha)]
  refine ⟨fun f _ => trivial, ?_⟩
  obtain ⟨fn, tmps, assign, body, hrun, hround⟩ := hy w hw
  have hmap : args.toArray.map a.eval = vs.toArray := by rw [List.map_toArray, Vq ha _ _ hargs]
  have hs : Oper.semAt Fence.wide.round a.eval ⟨some d, .call ⟨.value x, args.toArray, tys⟩, ty, pos, after, gd⟩ = execOp a.eval ⟨some d, .call ⟨.value x, args.toArray, tys⟩, ty, pos, after, gd⟩ := Oper.semAt_none _ _
  rw [hs]
  have hex : (execOp a.eval ⟨some d, .call ⟨.value x, args.toArray, tys⟩, ty, pos, after, gd⟩).run P w = .ok (.round l fn tmps assign body) w := by
    simp only [execOp, resolve, ha.eval hx, hmap, Deferred.ofValue, Sem.run_bind, Sem.run_pure, Result.andThen_ok, invoke]
    simpa using hrun
  rw [hex, Oper.uponIn_round]
  refine ⟨fun hd => by simp [Fence.wide] at hd, RoundIn.mono hround ?_⟩
  rintro e w' (⟨rfl, K', hΦ, hst⟩ | ⟨rfl, K', hΦ, hst⟩)
  · exact Uc hlo _ _ _ ((ht K' hΦ).run _ (ha.put (Nat.le_of_ble_eq_true hn) _) _ hst)
  · exact Uc hlo _ _ _ ((hf K' hΦ).run _ (ha.put (Nat.le_of_ble_eq_true hn) _) _ hst)
theorem Yij {n : Nat} {ds : List Deferred} {ops : Array Oper} {o : Oper} {rest : List Oper} (hlo : ¬ LetsOut Q) (h : VL P none ⟨n, ds, none⟩ B w0 ops Q (o :: rest) env H) : VQ ⟨n, ds, none⟩ B w0 (YQ P ops Q (o :: rest)) .normal env H :=
  ⟨fun a w ha hw => Uc hlo _ _ _ (h.run a ha w hw)⟩
theorem OX {n : Nat} {ds : List Deferred} {ops : Array Oper} {dst : Option Tmp} {op : Op} {ty : TypeId} {pos : String} {after : Array Edge} : ∀ a : Act, Fits ⟨n, ds, none⟩ a env → Region.wanted ⟨dst, op, ty, pos, after, none⟩ (yielded ops a.tmps) = true := fun _ _ => by simp [Region.wanted]
theorem YeN {n : Nat} {ds : List Deferred} {ops : Array Oper} {dst : Option Tmp} {op : Op} {ty : TypeId} {pos : String} {after : Array Edge} {j s : Nat} {b : Bool} {oj : Oper} (hj : ops[j]? = some oj) (hs : oj.dst = some s) (hv : get env s = some (.bool b)) :
    ∀ a : Act, Fits ⟨n, ds, none⟩ a env → Region.wanted ⟨dst, op, ty, pos, after, some (j, b)⟩ (yielded ops a.tmps) = true := fun a ha => by simp [Region.wanted, yielded, hj, hs, ha.slot s _ hv]
theorem Yc7 {n gf : Nat} {fn : Func} {c : Code} {lb : List Value} {xs : List (List Value)} {HI : List HP} (hf : P.funcs[gf]? = some fn) (hn : fn.ntmps = n) (hb : fn.body = some c) (hle : Nat.ble (lb.length + 1) n = true)
    (h : ∀ (l : Nat) (S : Nat → List HP → Prop) (X : List HP → Prop),
      (∀ (i : Nat) (args : List Value), xs[i]? = some args → ∀ (Y L : List HP), S i L →
        Qz P l args B w0 (Y ++ many L :: HI) (fun K => ∃ L', S (i + 1) L' ∧ K = Y ++ many L' :: HI) (fun K => ∃ L', X L' ∧ K = Y ++ many L' :: HI)) →
      ∀ L0, S 0 L0 → VC P ⟨n, [], none⟩ B w0 c (bodyPost P fn (Post B w0 fun _ K => (∃ L, S xs.length L ∧ K = many L :: HI) ∨ ∃ L, X L ∧ K = many L :: HI)) (VZ 0 (.func (.yield l) #[] #[] :: lb)) (many L0 :: HI)) : Ybk P gf lb xs B w0 HI := by
  intro l S X hy L0 h0 w hw
  exact callsIn_wide.2 (Yc (args := .func (.yield l) #[] #[] :: lb) hf hn hb hle hw (h l S X hy L0 h0))
end
open Go.RowKit
section
variable {P : Program} {m : Mode} {n : Shp} {B : Nat} {w0 : World} {ops : Array Oper} {Q : Exit → Act → World → Prop} {rest : List Oper} {env : Env} {H : List HP} {d : Nat} {ty : TypeId} {pos : String} {after : Array Edge}
theorem Wd (T : Tab P) {t g o k e size : Nat} {x : Operand} (hx : evo env x = some (.pointer (some ⟨g, o, none⟩))) (ht : look T.ar t = some (k, e, size)) (hn : Nat.ble (d + 1) n.k = true)
    (h : VL P m n B w0 ops Q rest ((d, .slice (some ⟨g, o, none⟩) k k) :: env) H) :
    VL P m n B w0 ops Q (⟨some d, .slice t x none none none, ty, pos, after, none⟩ :: rest) env H := by
  obtain ⟨inf, hu, hinf, hs⟩ := Oq (T.arra ht)
  refine Yw rfl rfl hn rfl (fun a w ha hw => ?_) h
  simp [execOp, ha.eval hx, Instr.sliceAt, Instr.sliceBounds, Instr.sureAddr, run_underlying hu, sizeOf, typeInfo, hinf, Addr.add_lit]
theorem Ydz : ∀ (L : List HP), App L [] L
  | [] => rfl
  | _ :: L => ⟨rfl, Ydz L⟩
theorem YL {id : Nat} {l : List Oper} (o1 last : List Nat) (hm : P.follows .mixedOrders = true)
    (hB : (Region.noSelect l.toArray && decide ((o1 ++ last).length = l.toArray.size) && YbW l.toArray last && (o1.all fun j => !last.contains j) && Vu l.toArray (o1 ++ last) (Array.replicate l.toArray.size false)) = true)
    {l1 l2 : List Oper} (hl1 : Yj l o1 = l1) (hl2 : Yj l last = l2) (h : VL P (some (some [])) n B w0 l.toArray (X5 P l.toArray (Only Q) l2) l1 env H) : VC P n B w0 (.region id l.toArray true) Q env H := by
  simp only [Bool.and_eq_true, decide_eq_true_eq] at hB
  obtain ⟨⟨⟨⟨h1, h2⟩, h3⟩, h4⟩, h5⟩ := hB
  refine ⟨fun a w ha hw => Zs (Q := Only Q) ?_ fun e a w h => by cases e <;> first | exact h | cases h⟩
  have hst : St B w0 (H ++ []) w.drew := by rw [List.append_nil]; exact hw.drew
  have hr : Yt P l.toArray (X5 P l.toArray (Only Q) l2) (St B w0 H) l1 a w.drew := h.run a ha w.drew hst
  rw [← hl1, ← hl2] at hr
  have := Jn (S := St B w0 H) h1 (fun c a w h => h) (by rintro ⟨_, _, h⟩; exact h) l rfl h3 o1 _ a w.drew (Xz _ _) (fun j hj => by simpa using List.all_eq_true.1 h4 j hj) h5 hst.prefix_ hr
  rw [h2] at this
  exact JK hm (X4 _ _ _ _ this)
end
open Go.RowKit
section
variable {P : Program} {B : Nat} {w0 w : World} {H : List HP}
theorem Ot {f : Nat} {xs : Array Value} {Φ : Value → Prop} (hw : St B w0 H w) (h : Calls P f xs w (Post w.heap.size w fun u _ => Φ u)) : Calls P f xs w (Post B w0 fun u K => Φ u ∧ K = H) :=
  h.mono fun _ _ ⟨u, _, e1, hst, hΦ⟩ => ⟨u, H, e1, hw.grow hst.below, hΦ, rfl⟩
theorem QG {f : Nat} {xs : Array Value} {u : Value} (hw : St B w0 H w) (h : Calls P f xs w fun e w' => e = .returned u ∧ Below w.heap.size w w') : Calls P f xs w (Post B w0 fun v K => v = u ∧ K = H) :=
  h.mono fun _ _ ⟨e1, hb⟩ => ⟨u, H, e1, hw.grow hb, rfl, rfl⟩
theorem Rd.here {A : Option Addr} {xs : List Value} (hr : Rd B w0 H A xs) (hw : St B w0 H w) : Rd w.heap.size w [] A xs := Rd.old fun j v hv => by
  obtain ⟨g, o, e1, hc⟩ := hr w hw j v hv
  refine ⟨g, o, e1, ?_, hc⟩
  rcases Nat.lt_or_ge g w.heap.size with h | h
  · exact h
  · simp [World.cell?, Array.getElem?_eq_none h] at hc
theorem Perm.openT (H : List HP) : Perm [many H] H := by
  have := Perm.open_ H []
  rwa [List.append_nil] at this
theorem Perm.closeT (H : List HP) : Perm H [many H] := by
  have := Perm.close H []
  rwa [List.append_nil] at this
theorem Rd.tail {A : Option Addr} {xs : List Value} (h : Rd B w0 H A xs) : Rd B w0 [many H] A xs := h.mono fun _ hw => hw.perm (.openT _)
end
end Go.Eng
namespace Go.Nw
abbrev Lk := Int × Int × Int
structure Net where
  nodes : Int
  power : List (List Int)
  noise : Int
  thr : Int
  links : List Lk
  margin : List Int
def cmpI (x y : Int) : Int := if x < y then -1 else if y < x then 1 else 0
def cmpL (a b : Lk) : Int := if cmpI a.1 b.1 = 0 then cmpI a.2.1 b.2.1 else cmpI a.1 b.1
def Zl (p : Int) : Bool := decide (p < 0 ∨ 68719476736 < p)
def wide (k : Int) (r : List Int) : Bool := decide ((r.length : Int) ≠ k)
def VA (n : Net) : Int :=
  if (n.power.length : Int) ≠ n.nodes then 1 else if n.power.any (wide n.nodes) = true then 1 else if n.power.any (fun r => r.any Zl) = true then 2 else 0
def lnk (n : Net) (i : Nat) : Lk := n.links.getD i (0, 0, 0)
def mar (n : Net) (i : Nat) : Int := n.margin.getD i 0
def powr (n : Net) (a b : Int) : Int := (n.power.getD a.toNat []).getD b.toNat 0
def UP (n : Net) (i : Nat) : Int :=
  if ¬ (0 ≤ (lnk n i).1 ∧ (lnk n i).1 < n.nodes) ∨ ¬ (0 ≤ (lnk n i).2.1 ∧ (lnk n i).2.1 < n.nodes) ∨ (lnk n i).1 = (lnk n i).2.1 ∨ (lnk n i).2.2 < 0 ∨ 7 < (lnk n i).2.2 then 2
  else if 0 < i ∧ 0 ≤ cmpL (lnk n (i - 1)) (lnk n i) then 5
  else if mar n i < 0 ∨ powr n (lnk n i).1 (lnk n i).2.1 < mar n i then 2 else 0
def Jq (n : Net) : Nat → Nat → Int
  | 0, _ => 0
  | r + 1, i => if UP n i = 0 then Jq n r (i + 1) else UP n i
def YE (n : Net) : Int :=
  if n.nodes < 2 ∨ 32 < n.nodes then 2 else if VA n ≠ 0 then VA n
  else if n.noise < 0 ∨ 68719476736 < n.noise ∨ n.thr < 1000 ∨ 100000 < n.thr then 2
  else if 128 < n.links.length then 8 else if n.margin.length ≠ n.links.length then 11 else Jq n n.links.length 0
def Yn {α : Type} (p : α → Bool) : List α → Int → Int
  | [], _ => -1
  | a :: l, k => if p a then k else Yn p l (k + 1)
theorem Vk {α : Type} (p : α → Bool) : ∀ (l : List α) (k : Int), 0 ≤ k → (0 ≤ Yn p l k ↔ l.any p = true)
  | [], k, _ => by simp [Yn]
  | a :: l, k, h => by
    unfold Yn
    by_cases hp : p a = true
    · simp [hp, h]
    · rw [if_neg hp, Vk p l (k + 1) (by omega)]
      simp [hp]
theorem Jo {α : Type} (p : α → Bool) (l : List α) {k : Nat} {a : α} (h : l[k]? = some a) : Yn p (l.drop k) k = if p a then (k : Int) else Yn p (l.drop (k + 1)) (k + 1) := by
  obtain ⟨hk, rfl⟩ := List.getElem?_eq_some_iff.1 h
  rw [List.drop_eq_getElem_cons hk, Yn]
theorem Yeb (n : Net) {i : Nat} (h : i < n.links.length) (h0 : UP n i = 0) : Jq n (n.links.length - i) i = Jq n (n.links.length - (i + 1)) (i + 1) := by
  rw [show n.links.length - i = n.links.length - (i + 1) + 1 by omega, Jq, if_pos h0]
theorem Yec (n : Net) {i : Nat} (h : i < n.links.length) (h0 : UP n i ≠ 0) : Jq n (n.links.length - i) i = UP n i := by
  rw [show n.links.length - i = n.links.length - (i + 1) + 1 by omega, Jq, if_neg h0]
theorem YeG {n : Net} (h : VA n = 0) : (n.power.length : Int) = n.nodes ∧ (∀ r ∈ n.power, (r.length : Int) = n.nodes) ∧ ∀ r ∈ n.power, ∀ p ∈ r, 0 ≤ p ∧ p ≤ 68719476736 := by
  unfold VA at h
  by_cases h1 : (n.power.length : Int) ≠ n.nodes
  · rw [if_pos h1] at h; omega
  rw [if_neg h1] at h
  by_cases h2 : n.power.any (wide n.nodes) = true
  · rw [if_pos h2] at h; omega
  rw [if_neg h2] at h
  by_cases h3 : n.power.any (fun r => r.any Zl) = true
  · rw [if_pos h3] at h; omega
  refine ⟨by omega, fun r hr => ?_, fun r hr p hp => ?_⟩
  · by_cases hw : (r.length : Int) = n.nodes
    · exact hw
    · exact absurd (List.any_eq_true.2 ⟨r, hr, by simp [wide, hw]⟩) h2
  · by_cases ho : Zl p = true
    · exact absurd (List.any_eq_true.2 ⟨r, hr, List.any_eq_true.2 ⟨p, hp, ho⟩⟩) h3
    · simp [Zl] at ho; omega
end Go.Nw
namespace Go.Proofs.YtmalhidldgfeoaaGreatDoor
def Jp : List Int → List Int → Bool
  | [], b => !b.isEmpty
  | _ :: _, [] => false
  | a :: l, b :: m => if a ≠ b then decide (a < b) else Jp l m
theorem Yd9 {a b : List Int} {i : Nat} {x y : Int} (hx : a[i]? = some x) (hy : b[i]? = some y) : Jp (a.drop i) (b.drop i) = if x ≠ y then decide (x < y) else Jp (a.drop (i + 1)) (b.drop (i + 1)) := by
  obtain ⟨h1, rfl⟩ := List.getElem?_eq_some_iff.1 hx
  obtain ⟨h2, rfl⟩ := List.getElem?_eq_some_iff.1 hy
  rw [List.drop_eq_getElem_cons h1, List.drop_eq_getElem_cons h2]
  rfl
end Go.Proofs.YtmalhidldgfeoaaGreatDoor
