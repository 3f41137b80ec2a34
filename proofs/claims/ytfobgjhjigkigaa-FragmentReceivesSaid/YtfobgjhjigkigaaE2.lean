/- The engine, part 2: one lemma an operation. -/
import Derived.Test.YtfobgjhjigkigaaE1
namespace Go.Eng
open Go.RowKit

/-! ### A table of the types that a program uses, checked once by the kernel -/

def scalarT (P : Program) (t : TypeId) : Bool :=
  match P.underlying t with
  | some (.struct _) | some (.array _ _) | none => false
  | some _ => true
def aggT (P : Program) (t : TypeId) : Option Nat :=
  match P.underlying t with
  | some (.struct _) | some (.array _ _) => (P.info? t).map (·.size)
  | _ => none
def fieldOff (P : Program) (s f : Nat) : Option Nat :=
  match P.underlying s with
  | some (.struct fs) => (fs[f]?).bind fun fld => (P.info? fld.type).bind fun i => if i.size = 0 then none else some fld.offset
  | _ => none
def sliceT (P : Program) (t : TypeId) : Option (Nat × Nat × Nat) :=
  match P.underlying t with
  | some (.slice e) => (P.info? e).bind fun i => i.zero.bind fun z => if z.cells.size = i.size ∧ 0 < i.size ∧ 0 < i.bytes then some (e, i.size, i.bytes) else none
  | _ => none
def arrayT (P : Program) (t : TypeId) : Option (Nat × Nat × Nat) :=
  match P.underlying t with
  | some (.array n e) => (P.info? e).map fun i => (n, e, i.size)
  | _ => none
def intT (P : Program) (t : TypeId) : Option IntKind :=
  match P.underlying t with
  | some (.int k) => some k
  | _ => none
def stringT (P : Program) (t : TypeId) : Bool :=
  match P.underlying t with
  | some .string => true
  | _ => false
def oneT (P : Program) (t : TypeId) : Bool := scalarT P t && ((P.info? t).map (·.size)) == some 1

def look {β : Type} : List (Nat × β) → Nat → Option β
  | [], _ => none
  | (s, v) :: l, t => if s = t then some v else look l t
theorem look_mem {β : Type} : ∀ {l : List (Nat × β)} {t : Nat} {v : β}, look l t = some v → (t, v) ∈ l
  | (s, u) :: l, t, v, h => by
    by_cases e : s = t
    · subst e; rw [look, if_pos rfl] at h; cases h; exact List.mem_cons_self
    · rw [look, if_neg e] at h; exact List.mem_cons_of_mem _ (look_mem h)
def look2 : List (Nat × Nat × Nat) → Nat → Nat → Option Nat
  | [], _, _ => none
  | (s, f, v) :: l, t, g => if s = t then (if f = g then some v else look2 l t g) else look2 l t g
theorem look2_mem : ∀ {l : List (Nat × Nat × Nat)} {t g v : Nat}, look2 l t g = some v → (t, g, v) ∈ l
  | (s, f, u) :: l, t, g, v, h => by
    by_cases e : s = t
    · subst e
      rw [look2, if_pos rfl] at h
      by_cases e' : f = g
      · subst e'; rw [if_pos rfl] at h; cases h; exact List.mem_cons_self
      · rw [if_neg e'] at h; exact List.mem_cons_of_mem _ (look2_mem h)
    · rw [look2, if_neg e] at h; exact List.mem_cons_of_mem _ (look2_mem h)

structure Tab (P : Program) where
  sc : List (Nat × Unit)
  ag : List (Nat × Nat)
  fo : List (Nat × Nat × Nat)
  sl : List (Nat × (Nat × Nat × Nat))
  ar : List (Nat × (Nat × Nat × Nat))
  ik : List (Nat × IntKind)
  st : List (Nat × Unit)
  sc_ok : (sc.all fun x => oneT P x.1) = true
  ag_ok : (ag.all fun x => aggT P x.1 == some x.2) = true
  fo_ok : (fo.all fun x => fieldOff P x.1 x.2.1 == some x.2.2) = true
  sl_ok : (sl.all fun x => sliceT P x.1 == some x.2) = true
  ar_ok : (ar.all fun x => arrayT P x.1 == some x.2) = true
  ik_ok : (ik.all fun x => decide (intT P x.1 = some x.2)) = true
  st_ok : (st.all fun x => stringT P x.1) = true

section
variable {P : Program} (T : Tab P)
theorem Tab.scal {t : Nat} (h : look T.sc t = some ()) : scalarT P t = true ∧ (P.info? t).map (·.size) = some 1 := by
  have := List.all_eq_true.1 T.sc_ok _ (look_mem h)
  simpa [oneT] using this
theorem Tab.aggs {t k : Nat} (h : look T.ag t = some k) : aggT P t = some k := by simpa using List.all_eq_true.1 T.ag_ok _ (look_mem h)
theorem Tab.offs {s f k : Nat} (h : look2 T.fo s f = some k) : fieldOff P s f = some k := by simpa using List.all_eq_true.1 T.fo_ok _ (look2_mem h)
theorem Tab.slic {t e k b : Nat} (h : look T.sl t = some (e, k, b)) : sliceT P t = some (e, k, b) := by simpa using List.all_eq_true.1 T.sl_ok _ (look_mem h)
theorem Tab.arra {t m e k : Nat} (h : look T.ar t = some (m, e, k)) : arrayT P t = some (m, e, k) := by simpa using List.all_eq_true.1 T.ar_ok _ (look_mem h)
theorem Tab.strs {t : Nat} (h : look T.st t = some ()) : P.underlying t = some .string := by
  have := List.all_eq_true.1 T.st_ok _ (look_mem h)
  simp only [stringT] at this
  split at this <;> simp_all
theorem Tab.ints {t : Nat} {k : IntKind} (h : look T.ik t = some k) : intT P t = some k := by simpa using List.all_eq_true.1 T.ik_ok _ (look_mem h)
end

theorem intT_spec {P : Program} {t : TypeId} {k : IntKind} (h : intT P t = some k) : P.underlying t = some (.int k) := by
  unfold intT at h
  split at h
  · cases h; assumption
  · cases h
theorem run_isAgg_false {P : Program} {t : TypeId} (h : scalarT P t = true) (w : World) : (isAgg t).run P w = .ok false w := by
  unfold scalarT at h
  cases hu : P.underlying t with
  | none => rw [hu] at h; cases h
  | some d => rw [hu] at h; cases d <;> first | (simp [isAgg, run_underlying hu]; done) | cases h
theorem run_isAgg_true {P : Program} {t : TypeId} {k : Nat} (h : aggT P t = some k) (w : World) : (isAgg t).run P w = .ok true w := by
  unfold aggT at h
  cases hu : P.underlying t with
  | none => rw [hu] at h; cases h
  | some d => rw [hu] at h; cases d <;> first | (simp [isAgg, run_underlying hu]; done) | cases h
theorem run_sizeOf {P : Program} {t : TypeId} {k : Nat} (h : (P.info? t).map (·.size) = some k) (w : World) : (sizeOf t).run P w = .ok k w := by
  cases hi : P.info? t with
  | none => rw [hi] at h; cases h
  | some i => rw [hi] at h; simp at h; subst h; simp [sizeOf, typeInfo, hi]
theorem aggT_size {P : Program} {t : TypeId} {k : Nat} (h : aggT P t = some k) : (P.info? t).map (·.size) = some k := by
  unfold aggT at h
  split at h <;> first | exact h | cases h

/-- The i-th of a list, written so that it comes out as it stands there. -/
def nth : List Value → Nat → Option Value
  | [], _ => none
  | v :: _, 0 => some v
  | _ :: l, i + 1 => nth l i
theorem nth_eq : ∀ (l : List Value) (i : Nat), nth l i = l[i]?
  | [], i => by simp [nth]
  | v :: l, 0 => by simp [nth]
  | v :: l, i + 1 => by simp [nth, nth_eq l i]
theorem nth_arr (cs : Array Value) (i : Nat) : nth cs.toList i = cs[i]? := by rw [nth_eq]; simp

section
variable {P : Program} {m : Mode} {n B : Nat} {w0 : World} {Q : Exit → Act → World → Prop} {env : Env} {H : List HP} {ops : Array Oper} {rest : List Oper}
variable {d : Nat} {ty : TypeId} {pos : String} {after : Array Edge}

theorem VL_move {x : Operand} {v : Value} (hx : evo env x = some v) (hn : Nat.ble (d + 1) n = true) (h : VL P m n B w0 ops Q rest ((d, v) :: env) H) :
    VL P m n B w0 ops Q (⟨some d, .move x, ty, pos, after, none⟩ :: rest) env H :=
  VL_pure rfl rfl hn rfl (fun a w ha _ => by simp [execOp, ha.eval hx]) h
theorem VL_assign {x : Operand} {v : Value} (hx : evo env x = some v) (hn : Nat.ble (d + 1) n = true) (h : VL P m n B w0 ops Q rest ((d, v) :: env) H) :
    VL P m n B w0 ops Q (⟨some d, .assign x, ty, pos, after, none⟩ :: rest) env H :=
  VL_pure rfl rfl hn rfl (fun a w ha _ => by simp [execOp, ha.eval hx]) h
theorem VL_pick_true {c x y : Operand} {v : Value} (hc : evo env c = some (.bool true)) (hx : evo env x = some v) (hn : Nat.ble (d + 1) n = true) (h : VL P m n B w0 ops Q rest ((d, v) :: env) H) :
    VL P m n B w0 ops Q (⟨some d, .pick c x y, ty, pos, after, none⟩ :: rest) env H :=
  VL_pure rfl rfl hn rfl (fun a w ha _ => by simp [execOp, ha.eval hx, ha.eval hc, asBool]) h
theorem VL_pick_false {c x y : Operand} {v : Value} (hc : evo env c = some (.bool false)) (hx : evo env y = some v) (hn : Nat.ble (d + 1) n = true) (h : VL P m n B w0 ops Q rest ((d, v) :: env) H) :
    VL P m n B w0 ops Q (⟨some d, .pick c x y, ty, pos, after, none⟩ :: rest) env H :=
  VL_pure rfl rfl hn rfl (fun a w ha _ => by simp [execOp, ha.eval hx, ha.eval hc, asBool]) h
theorem VL_nilCheck {x : Operand} {p : Addr} (hx : evo env x = some (.pointer (some p))) (hn : Nat.ble (d + 1) n = true) (h : VL P m n B w0 ops Q rest ((d, .pointer (some p)) :: env) H) :
    VL P m n B w0 ops Q (⟨some d, .nilCheck x, ty, pos, after, none⟩ :: rest) env H :=
  VL_pure rfl rfl hn rfl (fun a w ha _ => by simp [execOp, ha.eval hx]) h
theorem VL_extract {x : Operand} {i : Nat} {vs : Array Value} {v : Value} (hx : evo env x = some (.tuple vs)) (hv : nth vs.toList i = some v) (hn : Nat.ble (d + 1) n = true) (h : VL P m n B w0 ops Q rest ((d, v) :: env) H) :
    VL P m n B w0 ops Q (⟨some d, .extract x i, ty, pos, after, none⟩ :: rest) env H :=
  VL_pure rfl rfl hn rfl (fun a w ha _ => by rw [nth_arr] at hv; simp [execOp, ha.eval hx, Instr.extract, hv]) h
theorem VL_not {x : Operand} {b : Bool} {xt : TypeId} (hx : evo env x = some (.bool b)) (hn : Nat.ble (d + 1) n = true) (h : VL P m n B w0 ops Q rest ((d, .bool (!b)) :: env) H) :
    VL P m n B w0 ops Q (⟨some d, .unOp .not xt x, ty, pos, after, none⟩ :: rest) env H :=
  VL_pure rfl rfl hn rfl (fun a w ha _ => by simp [execOp, ha.eval hx, Op.unary]) h
theorem VL_not_true {x : Operand} {xt : TypeId} (hx : evo env x = some (.bool true)) (hn : Nat.ble (d + 1) n = true) (h : VL P m n B w0 ops Q rest ((d, .bool false) :: env) H) :
    VL P m n B w0 ops Q (⟨some d, .unOp .not xt x, ty, pos, after, none⟩ :: rest) env H := VL_not hx hn h
theorem VL_not_false {x : Operand} {xt : TypeId} (hx : evo env x = some (.bool false)) (hn : Nat.ble (d + 1) n = true) (h : VL P m n B w0 ops Q rest ((d, .bool true) :: env) H) :
    VL P m n B w0 ops Q (⟨some d, .unOp .not xt x, ty, pos, after, none⟩ :: rest) env H := VL_not hx hn h

/-! ### Integers -/

theorem VL_bin {op : BinOp} {xt yt : TypeId} {x y : Operand} {u v z : Value} (hx : evo env x = some u) (hy : evo env y = some v) (hn : Nat.ble (d + 1) n = true)
    (hg : ∀ w, (eqGuard op xt x y u v).run P w = .ok () w) (hb : ∀ w, (binOp op xt u v).run P w = .ok z w)
    (h : VL P m n B w0 ops Q rest ((d, z) :: env) H) : VL P m n B w0 ops Q (⟨some d, .binOp op xt x y yt, ty, pos, after, none⟩ :: rest) env H :=
  VL_pure rfl rfl hn rfl (fun a w ha _ => by simp [execOp, ha.eval hx, ha.eval hy, hg w, hb w]) h

section
variable {xt yt : TypeId} {x y : Operand} {k : IntKind} {a b : Int}
theorem VL_add_w (hx : evo env x = some (.int k a)) (hy : evo env y = some (.int k b)) (hn : Nat.ble (d + 1) n = true) (h : VL P m n B w0 ops Q rest ((d, .int k (k.wrap (a + b))) :: env) H) :
    VL P m n B w0 ops Q (⟨some d, .binOp .add xt x y yt, ty, pos, after, none⟩ :: rest) env H := VL_bin hx hy hn (fun _ => rfl) (fun _ => by rw [binOp_add]; rfl) h
theorem VL_sub_w (hx : evo env x = some (.int k a)) (hy : evo env y = some (.int k b)) (hn : Nat.ble (d + 1) n = true) (h : VL P m n B w0 ops Q rest ((d, .int k (k.wrap (a - b))) :: env) H) :
    VL P m n B w0 ops Q (⟨some d, .binOp .sub xt x y yt, ty, pos, after, none⟩ :: rest) env H := VL_bin hx hy hn (fun _ => rfl) (fun _ => by rw [binOp_sub]; rfl) h
theorem VL_mul_w (hx : evo env x = some (.int k a)) (hy : evo env y = some (.int k b)) (hn : Nat.ble (d + 1) n = true) (h : VL P m n B w0 ops Q rest ((d, .int k (k.wrap (a * b))) :: env) H) :
    VL P m n B w0 ops Q (⟨some d, .binOp .mul xt x y yt, ty, pos, after, none⟩ :: rest) env H := VL_bin hx hy hn (fun _ => rfl) (fun _ => by rw [binOp_mul]; rfl) h
theorem VL_add (hx : evo env x = some (.int .i64 a)) (hy : evo env y = some (.int .i64 b)) (hn : Nat.ble (d + 1) n = true) (hb : -9223372036854775808 ≤ a + b ∧ a + b ≤ 9223372036854775807) (h : VL P m n B w0 ops Q rest ((d, .int .i64 (a + b)) :: env) H) :
    VL P m n B w0 ops Q (⟨some d, .binOp .add xt x y yt, ty, pos, after, none⟩ :: rest) env H := VL_add_w hx hy hn (by rw [IntWalk.i64_in _ hb]; exact h)
theorem VL_sub (hx : evo env x = some (.int .i64 a)) (hy : evo env y = some (.int .i64 b)) (hn : Nat.ble (d + 1) n = true) (hb : -9223372036854775808 ≤ a - b ∧ a - b ≤ 9223372036854775807) (h : VL P m n B w0 ops Q rest ((d, .int .i64 (a - b)) :: env) H) :
    VL P m n B w0 ops Q (⟨some d, .binOp .sub xt x y yt, ty, pos, after, none⟩ :: rest) env H := VL_sub_w hx hy hn (by rw [IntWalk.i64_in _ hb]; exact h)
theorem VL_mul (hx : evo env x = some (.int .i64 a)) (hy : evo env y = some (.int .i64 b)) (hn : Nat.ble (d + 1) n = true) (hb : -9223372036854775808 ≤ a * b ∧ a * b ≤ 9223372036854775807) (h : VL P m n B w0 ops Q rest ((d, .int .i64 (a * b)) :: env) H) :
    VL P m n B w0 ops Q (⟨some d, .binOp .mul xt x y yt, ty, pos, after, none⟩ :: rest) env H := VL_mul_w hx hy hn (by rw [IntWalk.i64_in _ hb]; exact h)
theorem VL_add_any (hx : evo env x = some (.int .i64 a)) (hy : evo env y = some (.int .i64 b)) (hn : Nat.ble (d + 1) n = true) (h : ∀ r : Int, (r = a + b ∨ a + b < -9223372036854775808 ∨ 9223372036854775807 < a + b) → VL P m n B w0 ops Q rest ((d, .int .i64 r) :: env) H) :
    VL P m n B w0 ops Q (⟨some d, .binOp .add xt x y yt, ty, pos, after, none⟩ :: rest) env H := by
  refine VL_add_w hx hy hn (h _ ?_)
  by_cases hb : -9223372036854775808 ≤ a + b ∧ a + b ≤ 9223372036854775807
  · exact .inl (IntWalk.i64_in _ hb)
  · right; omega
theorem VL_sub_any (hx : evo env x = some (.int .i64 a)) (hy : evo env y = some (.int .i64 b)) (hn : Nat.ble (d + 1) n = true) (h : ∀ r : Int, (r = a - b ∨ a - b < -9223372036854775808 ∨ 9223372036854775807 < a - b) → VL P m n B w0 ops Q rest ((d, .int .i64 r) :: env) H) :
    VL P m n B w0 ops Q (⟨some d, .binOp .sub xt x y yt, ty, pos, after, none⟩ :: rest) env H := by
  refine VL_sub_w hx hy hn (h _ ?_)
  by_cases hb : -9223372036854775808 ≤ a - b ∧ a - b ≤ 9223372036854775807
  · exact .inl (IntWalk.i64_in _ hb)
  · right; omega
theorem VL_mul_any (hx : evo env x = some (.int .i64 a)) (hy : evo env y = some (.int .i64 b)) (hn : Nat.ble (d + 1) n = true) (h : ∀ r : Int, (r = a * b ∨ a * b < -9223372036854775808 ∨ 9223372036854775807 < a * b) → VL P m n B w0 ops Q rest ((d, .int .i64 r) :: env) H) :
    VL P m n B w0 ops Q (⟨some d, .binOp .mul xt x y yt, ty, pos, after, none⟩ :: rest) env H := by
  refine VL_mul_w hx hy hn (h _ ?_)
  by_cases hb : -9223372036854775808 ≤ a * b ∧ a * b ≤ 9223372036854775807
  · exact .inl (IntWalk.i64_in _ hb)
  · right; omega
theorem VL_quo_w (hx : evo env x = some (.int k a)) (hy : evo env y = some (.int k b)) (hn : Nat.ble (d + 1) n = true) (hb : b ≠ 0) (h : VL P m n B w0 ops Q rest ((d, .int k (k.wrap (a.tdiv b))) :: env) H) :
    VL P m n B w0 ops Q (⟨some d, .binOp .quo xt x y yt, ty, pos, after, none⟩ :: rest) env H := VL_bin hx hy hn (fun _ => rfl) (fun _ => by rw [binOp_quo]; simp [Op.intDiv, hb]) h
theorem VL_rem_w (hx : evo env x = some (.int k a)) (hy : evo env y = some (.int k b)) (hn : Nat.ble (d + 1) n = true) (hb : b ≠ 0) (h : VL P m n B w0 ops Q rest ((d, .int k (a.tmod b)) :: env) H) :
    VL P m n B w0 ops Q (⟨some d, .binOp .rem xt x y yt, ty, pos, after, none⟩ :: rest) env H := VL_bin hx hy hn (fun _ => rfl) (fun _ => by rw [binOp_rem]; simp [Op.intDiv, hb]) h
theorem VL_quo (hx : evo env x = some (.int .i64 a)) (hy : evo env y = some (.int .i64 b)) (hn : Nat.ble (d + 1) n = true) (hb : 0 ≤ a ∧ a ≤ 9223372036854775807 ∧ 1 ≤ b) (h : VL P m n B w0 ops Q rest ((d, .int .i64 (a / b)) :: env) H) :
    VL P m n B w0 ops Q (⟨some d, .binOp .quo xt x y yt, ty, pos, after, none⟩ :: rest) env H := by
  refine VL_quo_w hx hy hn (by omega) ?_
  have h1 : a / b ≤ a := Int.ediv_le_self _ hb.1
  have h2 : 0 ≤ a / b := Int.ediv_nonneg hb.1 (by omega)
  rw [Int.tdiv_eq_ediv_of_nonneg hb.1, IntWalk.i64_in _ (by omega)]
  exact h
theorem VL_rem (hx : evo env x = some (.int k a)) (hy : evo env y = some (.int k b)) (hn : Nat.ble (d + 1) n = true) (hb : 0 ≤ a ∧ 1 ≤ b) (h : VL P m n B w0 ops Q rest ((d, .int k (a % b)) :: env) H) :
    VL P m n B w0 ops Q (⟨some d, .binOp .rem xt x y yt, ty, pos, after, none⟩ :: rest) env H := by
  refine VL_rem_w hx hy hn (by omega) ?_
  rw [Int.tmod_eq_emod_of_nonneg hb.1]
  exact h
theorem VL_lss (hx : evo env x = some (.int k a)) (hy : evo env y = some (.int k b)) (hn : Nat.ble (d + 1) n = true) (h1 : a < b → VL P m n B w0 ops Q rest ((d, .bool true) :: env) H) (h2 : b ≤ a → VL P m n B w0 ops Q rest ((d, .bool false) :: env) H) :
    VL P m n B w0 ops Q (⟨some d, .binOp .lss xt x y yt, ty, pos, after, none⟩ :: rest) env H := by
  by_cases hc : a < b
  · exact VL_bin hx hy hn (fun _ => rfl) (fun _ => by rw [binOp_lss, decide_eq_true hc]; rfl) (h1 hc)
  · exact VL_bin hx hy hn (fun _ => rfl) (fun _ => by rw [binOp_lss, decide_eq_false hc]; rfl) (h2 (by omega))
theorem VL_leq (hx : evo env x = some (.int k a)) (hy : evo env y = some (.int k b)) (hn : Nat.ble (d + 1) n = true) (h1 : a ≤ b → VL P m n B w0 ops Q rest ((d, .bool true) :: env) H) (h2 : b < a → VL P m n B w0 ops Q rest ((d, .bool false) :: env) H) :
    VL P m n B w0 ops Q (⟨some d, .binOp .leq xt x y yt, ty, pos, after, none⟩ :: rest) env H := by
  by_cases hc : a ≤ b
  · exact VL_bin hx hy hn (fun _ => rfl) (fun _ => by rw [binOp_leq, decide_eq_true hc]; rfl) (h1 hc)
  · exact VL_bin hx hy hn (fun _ => rfl) (fun _ => by rw [binOp_leq, decide_eq_false hc]; rfl) (h2 (by omega))
theorem VL_gtr (hx : evo env x = some (.int k a)) (hy : evo env y = some (.int k b)) (hn : Nat.ble (d + 1) n = true) (h1 : b < a → VL P m n B w0 ops Q rest ((d, .bool true) :: env) H) (h2 : a ≤ b → VL P m n B w0 ops Q rest ((d, .bool false) :: env) H) :
    VL P m n B w0 ops Q (⟨some d, .binOp .gtr xt x y yt, ty, pos, after, none⟩ :: rest) env H := by
  by_cases hc : a > b
  · exact VL_bin hx hy hn (fun _ => rfl) (fun _ => by rw [binOp_gtr, decide_eq_true hc]; rfl) (h1 hc)
  · exact VL_bin hx hy hn (fun _ => rfl) (fun _ => by rw [binOp_gtr, decide_eq_false hc]; rfl) (h2 (by omega))
theorem VL_geq (hx : evo env x = some (.int k a)) (hy : evo env y = some (.int k b)) (hn : Nat.ble (d + 1) n = true) (h1 : b ≤ a → VL P m n B w0 ops Q rest ((d, .bool true) :: env) H) (h2 : a < b → VL P m n B w0 ops Q rest ((d, .bool false) :: env) H) :
    VL P m n B w0 ops Q (⟨some d, .binOp .geq xt x y yt, ty, pos, after, none⟩ :: rest) env H := by
  by_cases hc : a ≥ b
  · exact VL_bin hx hy hn (fun _ => rfl) (fun _ => by rw [binOp_geq, decide_eq_true hc]; rfl) (h1 hc)
  · exact VL_bin hx hy hn (fun _ => rfl) (fun _ => by rw [binOp_geq, decide_eq_false hc]; rfl) (h2 (by omega))
theorem VL_eql (hx : evo env x = some (.int k a)) (hy : evo env y = some (.int k b)) (hn : Nat.ble (d + 1) n = true) (h1 : a = b → VL P m n B w0 ops Q rest ((d, .bool true) :: env) H) (h2 : a ≠ b → VL P m n B w0 ops Q rest ((d, .bool false) :: env) H) :
    VL P m n B w0 ops Q (⟨some d, .binOp .eql xt x y yt, ty, pos, after, none⟩ :: rest) env H := by
  by_cases hc : a = b
  · exact VL_bin hx hy hn (fun _ => rfl) (fun _ => by rw [binOp_eql, beq_iff_eq.2 hc]; rfl) (h1 hc)
  · exact VL_bin hx hy hn (fun _ => rfl) (fun _ => by rw [binOp_eql, beq_eq_false_iff_ne.2 hc]; rfl) (h2 hc)
theorem VL_neq (hx : evo env x = some (.int k a)) (hy : evo env y = some (.int k b)) (hn : Nat.ble (d + 1) n = true) (h1 : a ≠ b → VL P m n B w0 ops Q rest ((d, .bool true) :: env) H) (h2 : a = b → VL P m n B w0 ops Q rest ((d, .bool false) :: env) H) :
    VL P m n B w0 ops Q (⟨some d, .binOp .neq xt x y yt, ty, pos, after, none⟩ :: rest) env H := by
  by_cases hc : a = b
  · exact VL_bin hx hy hn (fun _ => rfl) (fun _ => by rw [binOp_neq]; simp [hc]) (h2 hc)
  · exact VL_bin hx hy hn (fun _ => rfl) (fun _ => by rw [binOp_neq]; simp [hc]) (h1 hc)
theorem VL_shr (hx : evo env x = some (.int k a)) {yk : IntKind} (hy : evo env y = some (.int yk b)) (hn : Nat.ble (d + 1) n = true) (hb : 0 ≤ b ∧ b ≤ k.bits) (h : VL P m n B w0 ops Q rest ((d, .int k (a / 2 ^ b.toNat)) :: env) H) :
    VL P m n B w0 ops Q (⟨some d, .binOp .shr xt x y yt, ty, pos, after, none⟩ :: rest) env H :=
  VL_bin hx hy hn (fun _ => rfl) (fun _ => by rw [binOp_shr, shift_shr _ _ _ _ hb.1 hb.2]; rfl) h
theorem VL_shl (hx : evo env x = some (.int k a)) {yk : IntKind} (hy : evo env y = some (.int yk b)) (hn : Nat.ble (d + 1) n = true) (hb : 0 ≤ b ∧ b ≤ k.bits) (h : VL P m n B w0 ops Q rest ((d, .int k (k.wrap (a * 2 ^ b.toNat))) :: env) H) :
    VL P m n B w0 ops Q (⟨some d, .binOp .shl xt x y yt, ty, pos, after, none⟩ :: rest) env H :=
  VL_bin hx hy hn (fun _ => rfl) (fun _ => by rw [binOp_shl, shift_shl _ _ _ _ hb.1 hb.2]; rfl) h
theorem VL_shr_c {yk : IntKind} {D : Int} (hx : evo env x = some (.int k a)) (hn : Nat.ble (d + 1) n = true) (hb : 0 ≤ b ∧ b ≤ k.bits) (hD : (2 : Int) ^ b.toNat = D) (h : VL P m n B w0 ops Q rest ((d, .int k (a / D)) :: env) H) :
    VL P m n B w0 ops Q (⟨some d, .binOp .shr xt x (.const (.int yk b)) yt, ty, pos, after, none⟩ :: rest) env H :=
  VL_shr hx (y := .const (.int yk b)) rfl hn hb (by rw [hD]; exact h)
theorem VL_and (hx : evo env x = some (.int k a)) (hy : evo env y = some (.int k b)) (hn : Nat.ble (d + 1) n = true) (h : VL P m n B w0 ops Q rest ((d, .int k (bits .and k a b)) :: env) H) :
    VL P m n B w0 ops Q (⟨some d, .binOp .and xt x y yt, ty, pos, after, none⟩ :: rest) env H := VL_bin hx hy hn (fun _ => rfl) (fun _ => by rw [binOp_and]; rfl) h
theorem VL_or (hx : evo env x = some (.int k a)) (hy : evo env y = some (.int k b)) (hn : Nat.ble (d + 1) n = true) (h : VL P m n B w0 ops Q rest ((d, .int k (bits .or k a b)) :: env) H) :
    VL P m n B w0 ops Q (⟨some d, .binOp .or xt x y yt, ty, pos, after, none⟩ :: rest) env H := VL_bin hx hy hn (fun _ => rfl) (fun _ => by rw [binOp_or]; rfl) h
theorem VL_xor (hx : evo env x = some (.int k a)) (hy : evo env y = some (.int k b)) (hn : Nat.ble (d + 1) n = true) (h : VL P m n B w0 ops Q rest ((d, .int k (bits .xor k a b)) :: env) H) :
    VL P m n B w0 ops Q (⟨some d, .binOp .xor xt x y yt, ty, pos, after, none⟩ :: rest) env H := VL_bin hx hy hn (fun _ => rfl) (fun _ => by rw [binOp_xor]; rfl) h
theorem VL_conv (T : Tab P) {src dst : TypeId} {j : IntKind} (hx : evo env x = some (.int k a)) (hs : look T.ik src = some j) {kd : IntKind} (ht : look T.ik dst = some kd) (hn : Nat.ble (d + 1) n = true) (h : VL P m n B w0 ops Q rest ((d, .int kd (kd.wrap a)) :: env) H) :
    VL P m n B w0 ops Q (⟨some d, .convert src dst x, ty, pos, after, none⟩ :: rest) env H := by
  refine VL_pure rfl rfl hn rfl (fun f w ha _ => ?_) h
  simp [execOp, ha.eval hx, convert, run_underlying (intT_spec (T.ints hs)), run_underlying (intT_spec (T.ints ht)), Conv.intToInt]
theorem VL_conv_id (T : Tab P) {src dst : TypeId} {j : IntKind} (hx : evo env x = some (.int k a)) (hs : look T.ik src = some j) (ht : look T.ik dst = some .i64) (hn : Nat.ble (d + 1) n = true) (hb : -9223372036854775808 ≤ a ∧ a ≤ 9223372036854775807)
    (h : VL P m n B w0 ops Q rest ((d, .int .i64 a) :: env) H) : VL P m n B w0 ops Q (⟨some d, .convert src dst x, ty, pos, after, none⟩ :: rest) env H :=
  VL_conv T hx hs ht hn (by rw [IntWalk.i64_in _ hb]; exact h)
end

/-! ### Strings, pointers against nil, lengths -/

theorem bytes_eq_iff (s t : ByteArray) : (s.toList == t.toList) = true ↔ s = t := by
  rw [beq_iff_eq]
  constructor
  · intro h
    rw [ByteArray.toList_eq, ByteArray.toList_eq] at h
    cases s; cases t
    simp at h
    rw [h]
  · rintro rfl; rfl

section
variable {xt yt : TypeId} {x y : Operand} {s t : ByteArray}
theorem VL_seql (hx : evo env x = some (.string s)) (hy : evo env y = some (.string t)) (hn : Nat.ble (d + 1) n = true) (h1 : s = t → VL P m n B w0 ops Q rest ((d, .bool true) :: env) H) (h2 : s ≠ t → VL P m n B w0 ops Q rest ((d, .bool false) :: env) H) :
    VL P m n B w0 ops Q (⟨some d, .binOp .eql xt x y yt, ty, pos, after, none⟩ :: rest) env H := by
  by_cases hc : s = t
  · exact VL_bin hx hy hn (fun _ => rfl) (fun _ => by simp [binOp, Op.stringOp, hc]) (h1 hc)
  · refine VL_bin hx hy hn (fun _ => rfl) (fun _ => ?_) (h2 hc)
    have : (s.toList == t.toList) = false := by rw [Bool.eq_false_iff]; exact fun e => hc ((bytes_eq_iff s t).1 e)
    simp only [binOp, Op.stringOp, this]; rfl
theorem VL_sneq (hx : evo env x = some (.string s)) (hy : evo env y = some (.string t)) (hn : Nat.ble (d + 1) n = true) (h1 : s ≠ t → VL P m n B w0 ops Q rest ((d, .bool true) :: env) H) (h2 : s = t → VL P m n B w0 ops Q rest ((d, .bool false) :: env) H) :
    VL P m n B w0 ops Q (⟨some d, .binOp .neq xt x y yt, ty, pos, after, none⟩ :: rest) env H := by
  by_cases hc : s = t
  · exact VL_bin hx hy hn (fun _ => rfl) (fun _ => by simp [binOp, Op.stringOp, hc]) (h2 hc)
  · refine VL_bin hx hy hn (fun _ => rfl) (fun _ => ?_) (h1 hc)
    have : (s.toList == t.toList) = false := by rw [Bool.eq_false_iff]; exact fun e => hc ((bytes_eq_iff s t).1 e)
    simp only [binOp, Op.stringOp, this]; rfl
theorem VL_scat (hx : evo env x = some (.string s)) (hy : evo env y = some (.string t)) (hn : Nat.ble (d + 1) n = true) (hb : s.size + t.size ≤ 9223372036854775807) (h : VL P m n B w0 ops Q rest ((d, .string (s ++ t)) :: env) H) :
    VL P m n B w0 ops Q (⟨some d, .binOp .add xt x y yt, ty, pos, after, none⟩ :: rest) env H := by
  refine VL_bin hx hy hn (fun _ => rfl) (fun _ => ?_) h
  have : ¬ ((s.size + t.size : Nat) : Int) > IntKind.i64.max := by rw [IntKind.max_i64]; omega
  simp only [binOp, Op.stringOp, if_neg this]; rfl
theorem VL_slen (T : Tab P) (hx : evo env x = some (.string s)) {tx : TypeId} (ht : look T.st tx = some ()) (hn : Nat.ble (d + 1) n = true) (h : VL P m n B w0 ops Q rest ((d, .int .i64 s.size) :: env) H) :
    VL P m n B w0 ops Q (⟨some d, .call ⟨.builtin .len, #[x], #[tx]⟩, ty, pos, after, none⟩ :: rest) env H :=
  VL_pure rfl rfl hn rfl (fun f w ha _ => by simp [execOp, resolve, invoke, builtin, ha.eval hx, Builtin.len_, run_underlying (T.strs ht), goInt]) h
end

/-! ### Memory -/

theorem VL_fieldAddr (T : Tab P) {s f k g i : Nat} {x : Operand} (hx : evo env x = some (.pointer (some ⟨g, i, none⟩))) (hf : look2 T.fo s f = some k) (hn : Nat.ble (d + 1) n = true)
    (h : VL P m n B w0 ops Q rest ((d, .pointer (some ⟨g, i + k, none⟩)) :: env) H) : VL P m n B w0 ops Q (⟨some d, .fieldAddr s x f, ty, pos, after, none⟩ :: rest) env H := by
  refine VL_pure rfl rfl hn rfl (fun a w ha _ => ?_) h
  have h1 := T.offs hf
  unfold fieldOff at h1
  split at h1
  · rename_i fs hu
    cases hfl : fs[f]? with
    | none => rw [hfl] at h1; cases h1
    | some fld =>
      rw [hfl] at h1
      simp only [Option.bind_some] at h1
      cases hi : P.info? fld.type with
      | none => rw [hi] at h1; cases h1
      | some inf =>
        rw [hi] at h1
        simp only [Option.bind_some] at h1
        by_cases hz : inf.size = 0
        · rw [if_pos hz] at h1; cases h1
        · rw [if_neg hz] at h1
          have h2 : fld.offset = k := by simpa using h1
          subst h2
          simp [execOp, ha.eval hx, Instr.fieldAt, run_underlying hu, hfl, Instr.sureAddr, fieldPlace, sizeOf, typeInfo, hi, hz, Addr.add_lit]
  · cases h1

theorem cell_of_blk {w : World} {g i : Nat} {cs : Array Value} {t : TypeId} {fr : Nat × Nat} (h : w.heap[g]? = some (.cells cs t fr)) : w.cell? ⟨g, i, none⟩ = cs[i]? := by simp [World.cell?, h]

theorem VL_load (T : Tab P) {t g i : Nat} {cs : Array Value} {tt : TypeId} {fr : Nat × Nat} {v : Value} {x : Operand} (hx : evo env x = some (.pointer (some ⟨g, i, none⟩))) (hm : blk g (.cells cs tt fr) ∈ H) (hv : nth cs.toList i = some v)
    (ht : look T.sc t = some ()) (hn : Nat.ble (d + 1) n = true) (h : VL P m n B w0 ops Q rest ((d, v) :: env) H) : VL P m n B w0 ops Q (⟨some d, .load t x, ty, pos, after, none⟩ :: rest) env H := by
  refine VL_pure rfl rfl hn rfl (fun a w ha hw => ?_) h
  rw [nth_arr] at hv
  have hc := cell_of_blk (i := i) (hw.blk hm).1
  simp [execOp, ha.eval hx, Instr.loadAt, Instr.sureAddr, loadVar, run_isAgg_false (T.scal ht).1, hc, hv]

theorem VL_load_at (T : Tab P) {t g i : Nat} {cs : Array Value} {tt : TypeId} {fr : Nat × Nat} {v : Value} {x : Operand} (hx : evo env x = some (.pointer (some ⟨g, i, none⟩))) (hm : blk g (.cells cs tt fr) ∈ H) (hv : cs[i]? = some v)
    (ht : look T.sc t = some ()) (hn : Nat.ble (d + 1) n = true) (h : VL P m n B w0 ops Q rest ((d, v) :: env) H) : VL P m n B w0 ops Q (⟨some d, .load t x, ty, pos, after, none⟩ :: rest) env H := by
  refine VL_pure rfl rfl hn rfl (fun a w ha hw => ?_) h
  have hc := cell_of_blk (i := i) (hw.blk hm).1
  simp [execOp, ha.eval hx, Instr.loadAt, Instr.sureAddr, loadVar, run_isAgg_false (T.scal ht).1, hc, hv]

/-- A cell that was there when the function began. -/
theorem VL_load_old (T : Tab P) {t g i : Nat} {v : Value} {x : Operand} (hx : evo env x = some (.pointer (some ⟨g, i, none⟩))) (hb : g < B) (hv : w0.cell? ⟨g, i, none⟩ = some v)
    (ht : look T.sc t = some ()) (hn : Nat.ble (d + 1) n = true) (h : VL P m n B w0 ops Q rest ((d, v) :: env) H) : VL P m n B w0 ops Q (⟨some d, .load t x, ty, pos, after, none⟩ :: rest) env H := by
  refine VL_pure rfl rfl hn rfl (fun a w ha hw => ?_) h
  have hc := (hw.below.cell (p := ⟨g, i, none⟩) hb).trans hv
  simp [execOp, ha.eval hx, Instr.loadAt, Instr.sureAddr, loadVar, run_isAgg_false (T.scal ht).1, hc]

theorem VL_load_whole (T : Tab P) {t g k : Nat} {cs : Array Value} {tt : TypeId} {fr : Nat × Nat} {x : Operand} (hx : evo env x = some (.pointer (some ⟨g, 0, none⟩))) (hm : blk g (.cells cs tt fr) ∈ H)
    (ht : look T.ag t = some k) (hk : cs.size = k) (hn : Nat.ble (d + 1) n = true) (h : VL P m n B w0 ops Q rest ((d, .agg cs) :: env) H) :
    VL P m n B w0 ops Q (⟨some d, .load t x, ty, pos, after, none⟩ :: rest) env H := by
  refine VL_pure rfl rfl hn rfl (fun a w ha hw => ?_) h
  have hb := (hw.blk hm).1
  have hl := run_loadCells_list (P := P) w ⟨g, 0, none⟩ cs.toList (fun j v hj => by rw [Addr.add_lit, cell_of_blk hb, Nat.zero_add]; simpa using hj)
  rw [show cs.toList.length = k by simpa using hk] at hl
  simp [execOp, ha.eval hx, Instr.loadAt, Instr.sureAddr, loadVar, run_isAgg_true (T.aggs ht), run_sizeOf (aggT_size (T.aggs ht)), hl]

theorem VL_load_agg (T : Tab P) {t g i k : Nat} {cs : Array Value} {vs : List Value} {tt : TypeId} {fr : Nat × Nat} {x : Operand} (hx : evo env x = some (.pointer (some ⟨g, i, none⟩))) (hm : blk g (.cells cs tt fr) ∈ H)
    (ht : look T.ag t = some k) (hk : vs.length = k) (hv : ∀ j v, vs[j]? = some v → cs[i + j]? = some v) (hn : Nat.ble (d + 1) n = true) (h : VL P m n B w0 ops Q rest ((d, .agg vs.toArray) :: env) H) :
    VL P m n B w0 ops Q (⟨some d, .load t x, ty, pos, after, none⟩ :: rest) env H := by
  refine VL_pure rfl rfl hn rfl (fun a w ha hw => ?_) h
  have hb := (hw.blk hm).1
  have hl := run_loadCells_list (P := P) w ⟨g, i, none⟩ vs (fun j v hj => by rw [Addr.add_lit, cell_of_blk hb]; exact hv j v hj)
  rw [hk] at hl
  simp [execOp, ha.eval hx, Instr.loadAt, Instr.sureAddr, loadVar, run_isAgg_true (T.aggs ht), run_sizeOf (aggT_size (T.aggs ht)), hl]

theorem VL_load_agg_old (T : Tab P) {t g i k : Nat} {vs : List Value} {x : Operand} (hx : evo env x = some (.pointer (some ⟨g, i, none⟩))) (hb : g < B)
    (ht : look T.ag t = some k) (hk : vs.length = k) (hv : ∀ j v, vs[j]? = some v → w0.cell? ⟨g, i + j, none⟩ = some v) (hn : Nat.ble (d + 1) n = true) (h : VL P m n B w0 ops Q rest ((d, .agg vs.toArray) :: env) H) :
    VL P m n B w0 ops Q (⟨some d, .load t x, ty, pos, after, none⟩ :: rest) env H := by
  refine VL_pure rfl rfl hn rfl (fun a w ha hw => ?_) h
  have hl := run_loadCells_list (P := P) w ⟨g, i, none⟩ vs (fun j v hj => by rw [Addr.add_lit, hw.below.cell hb]; exact hv j v hj)
  rw [hk] at hl
  simp [execOp, ha.eval hx, Instr.loadAt, Instr.sureAddr, loadVar, run_isAgg_true (T.aggs ht), run_sizeOf (aggT_size (T.aggs ht)), hl]

/-- l' is l with v in the place i. -/
def SetAt (l : List Value) (i : Nat) (v : Value) (l' : List Value) : Prop := i < l.length ∧ l' = l.set i v
theorem setat_here {x v : Value} {l : List Value} : SetAt (x :: l) 0 v (v :: l) := ⟨by simp, rfl⟩
theorem setat_there {x v : Value} {l l' : List Value} {i : Nat} (h : SetAt l i v l') : SetAt (x :: l) (i + 1) v (x :: l') := ⟨by have := h.1; simp; omega, by rw [h.2]; rfl⟩

theorem VL_store (T : Tab P) {t g i : Nat} {cs cs' : List Value} {tt : TypeId} {v : Value} {x y : Operand} {K : List HP} (hx : evo env x = some (.pointer (some ⟨g, i, none⟩))) (hy : evo env y = some v) (h1 : v.oneCell' = true)
    (hu : Upd (blk g (.cells cs.toArray tt (0, 0))) (blk g (.cells cs'.toArray tt (0, 0))) H K) (hs : SetAt cs i v cs')
    (ht : look T.sc t = some ()) (h : VL P none n B w0 ops Q rest env K) : VL P none n B w0 ops Q (⟨none, .store t x y, ty, pos, after, none⟩ :: rest) env H := by
  obtain ⟨hi, rfl⟩ := hs
  have hu' : Upd (blk g (.cells cs.toArray tt (0, 0))) (blk g (.cells (cs.toArray.setIfInBounds i v) tt (0, 0))) H K := by rw [List.setIfInBounds_toArray]; exact hu
  refine VL_skip rfl rfl (fun a w ha hw => ⟨w.setCell ⟨g, i, none⟩ v, ?_, hw.setCell hu'⟩) h
  have hb : w.heap[g]? = some (.cells cs.toArray tt (0, 0)) := by
    obtain ⟨L1, L2, rfl, _⟩ := hu
    exact (hw.blk (by simp)).1
  have hc := cell_of_blk (i := i) hb
  have hcs : v.cells = #[v] := by cases v <;> first | rfl | simp [Value.oneCell'] at h1
  have hz : w.frozen? ⟨g, i, none⟩ = false := by simp [World.frozen?, hb]
  have hv : (cs.toArray)[i]? = some cs[i] := by simp [hi]
  rw [hv] at hc
  simp [execOp, ha.eval hx, ha.eval hy, Instr.storeAt, Instr.sureAddr, storeVar, hcs, run_sizeOf (T.scal ht).2, storeCells, run_store _ _ _ _ _ h1, Addr.add_zero', hc, hz]

theorem VL_box_agg {t : TypeId} {x : Operand} {cs : Array Value} (hx : evo env x = some (.agg cs)) (hn : Nat.ble (d + 1) n = true)
    (h : ∀ g, VL P none n B w0 ops Q rest ((d, .pointer (some ⟨g, 0, none⟩)) :: env) (blk g (.cells cs t (0, 0)) :: H)) : VL P none n B w0 ops Q (⟨some d, .box t x, ty, pos, after, none⟩ :: rest) env H :=
  VL_opE (fun v K => ∃ g, v = .pointer (some ⟨g, 0, none⟩) ∧ K = blk g (.cells cs t (0, 0)) :: H) rfl rfl hn
    (fun a w ha hw => ⟨_, _, w.alloc (.cells cs t (0, 0)), by simp [execOp, ha.eval hx, Instr.box, newVar, newRow, Value.cells], hw.alloc _, w.heap.size, rfl, rfl⟩)
    (by rintro _ _ ⟨g, rfl, rfl⟩; exact h g)
theorem VL_box_one {t : TypeId} {x : Operand} {v : Value} (hx : evo env x = some v) (h1 : v.cells = #[v]) (hn : Nat.ble (d + 1) n = true)
    (h : ∀ g, VL P none n B w0 ops Q rest ((d, .pointer (some ⟨g, 0, none⟩)) :: env) (blk g (.cells #[v] t (0, 0)) :: H)) : VL P none n B w0 ops Q (⟨some d, .box t x, ty, pos, after, none⟩ :: rest) env H :=
  VL_opE (fun v' K => ∃ g, v' = .pointer (some ⟨g, 0, none⟩) ∧ K = blk g (.cells #[v] t (0, 0)) :: H) rfl rfl hn
    (fun a w ha hw => ⟨_, _, w.alloc (.cells #[v] t (0, 0)), by simp [execOp, ha.eval hx, Instr.box, newVar, newRow, h1], hw.alloc _, w.heap.size, rfl, rfl⟩)
    (by rintro _ _ ⟨g, rfl, rfl⟩; exact h g)
theorem VL_alloc {t : TypeId} {z : Value} {cs : Array Value} (hz : ∀ w, (zeroValue t).run P w = .ok z w) (hc : z.cells = cs) (hn : Nat.ble (d + 1) n = true)
    (h : ∀ g, VL P none n B w0 ops Q rest ((d, .pointer (some ⟨g, 0, none⟩)) :: env) (blk g (.cells cs t (0, 0)) :: H)) : VL P none n B w0 ops Q (⟨some d, .alloc t, ty, pos, after, none⟩ :: rest) env H :=
  VL_opE (fun v' K => ∃ g, v' = .pointer (some ⟨g, 0, none⟩) ∧ K = blk g (.cells cs t (0, 0)) :: H) rfl rfl hn
    (fun a w _ hw => ⟨_, _, w.alloc (.cells cs t (0, 0)), by simp [execOp, Instr.alloc, hz, newVar, newRow, hc], hw.alloc _, w.heap.size, rfl, rfl⟩)
    (by rintro _ _ ⟨g, rfl, rfl⟩; exact h g)

/-- The parts of a build. -/
def Parts (env : Env) : List (Nat × Operand) → List (Nat × Value) → Prop
  | [], [] => True
  | x :: l, v :: vs => x.1 = v.1 ∧ evo env x.2 = some v.2 ∧ Parts env l vs
  | _, _ => False
theorem parts_nil {env : Env} : Parts env [] [] := trivial
theorem parts_cons {env : Env} {i : Nat} {x : Operand} {v : Value} {l : List (Nat × Operand)} {vs : List (Nat × Value)} (h : evo env x = some v) (hl : Parts env l vs) : Parts env ((i, x) :: l) ((i, v) :: vs) := ⟨rfl, h, hl⟩
theorem map_parts {n : Nat} {a : Act} {env : Env} (ha : Fits n a env) : ∀ (l : List (Nat × Operand)) (us : List (Nat × Value)), Parts env l us → l.map (fun p => (p.1, a.eval p.2)) = us
  | [], [], _ => rfl
  | [], _ :: _, h => h.elim
  | _ :: _, [], h => h.elim
  | x :: l, u :: us, h => by rw [List.map_cons, ha.eval h.2.1, map_parts ha l us h.2.2, h.1]
/-- build: the value by a closed fact. -/
theorem VL_build {t : TypeId} {parts : List (Nat × Operand)} {ps : List (Nat × Value)} {v : Value} (hp : Parts env parts ps) (hb : ∀ w, (Instr.build t ps.toArray).run P w = .ok v w) (hn : Nat.ble (d + 1) n = true)
    (h : VL P m n B w0 ops Q rest ((d, v) :: env) H) : VL P m n B w0 ops Q (⟨some d, .build t parts.toArray, ty, pos, after, none⟩ :: rest) env H := by
  refine VL_pure rfl rfl hn rfl (fun a w ha _ => ?_) h
  have hm : (parts.toArray.map fun (i, x) => (i, a.eval x)) = ps.toArray := by rw [List.map_toArray]; exact congrArg List.toArray (map_parts ha _ _ hp)
  simp only [execOp, hm]
  simp [hb]
end
end Go.Eng
