/- An engine for walks, part 7: rows that are only read, wherever they lie: in a piece, or in memory from before the call. -/
import Derived.Test.YtfobgjhjigkigaaE6
namespace Go.Eng
open Go.RowKit

/-- In every state with the pieces H the cells xs lie from A on. -/
def Rd (B : Nat) (w0 : World) (H : List HP) (A : Option Addr) (xs : List Value) : Prop :=
  ∀ w, St B w0 H w → ∀ j v, xs[j]? = some v → ∃ g o, A = some ⟨g, o, none⟩ ∧ w.cell? ⟨g, o + j, none⟩ = some v

section
variable {B : Nat} {w0 : World} {H : List HP} {A : Option Addr} {xs : List Value}
theorem Rd.cons {X : HP} (h : Rd B w0 H A xs) : Rd B w0 (X :: H) A xs := fun w hw => h w hw.tail
theorem Rd.sl {e size k cap : Nat} (hm : Eng.sl e size A k cap xs ∈ H) : Rd B w0 H A xs := fun w hw j v hv => by
  obtain ⟨g, e1, hc, _⟩ := sl_cell (hw.sl hm) hv
  exact ⟨g, 0, e1, by rw [Nat.zero_add]; exact hc⟩
theorem Rd.old (h : ∀ j v, xs[j]? = some v → ∃ g o, A = some ⟨g, o, none⟩ ∧ g < B ∧ w0.cell? ⟨g, o + j, none⟩ = some v) : Rd B w0 H A xs := fun w hw j v hv => by
  obtain ⟨g, o, e1, hg, hc⟩ := h j v hv
  exact ⟨g, o, e1, (hw.below.cell (p := ⟨g, o + j, none⟩) hg).trans hc⟩
theorem Rd.nil : Rd B w0 H A [] := fun w _ j v hv => by simp at hv
theorem Rd.mono {H' : List HP} (h : Rd B w0 H A xs) (hH : ∀ w, St B w0 H' w → St B w0 H w) : Rd B w0 H' A xs := fun w hw => h w (hH w hw)
theorem Rd.blk {g : Nat} {cs : Array Value} {t : TypeId} {fr : Nat × Nat} (hm : Eng.blk g (.cells cs t fr) ∈ H) : Rd B w0 H (some ⟨g, 0, none⟩) cs.toList := fun w hw j v hv => by
  refine ⟨g, 0, rfl, ?_⟩
  rw [Nat.zero_add, cell_of_blk (hw.blk hm).1]
  simpa using hv
end

theorem length_flat {α : Type} {f : α → List Value} {q : Nat} (hq : ∀ a, (f a).length = q) : ∀ l : List α, (l.flatMap f).length = l.length * q
  | [] => by simp
  | a :: l => by rw [List.flatMap_cons, List.length_append, hq, length_flat hq l, List.length_cons, Nat.add_mul]; omega
theorem flat_get {α : Type} {f : α → List Value} {q : Nat} (hq : ∀ a, (f a).length = q) : ∀ (l : List α) (i j : Nat) (a : α), l[i]? = some a → j < q → (l.flatMap f)[i * q + j]? = (f a)[j]?
  | [], i, j, a, h, _ => by simp at h
  | b :: l, 0, j, a, h, hj => by
    obtain rfl : b = a := by simpa using h
    rw [List.flatMap_cons, List.getElem?_append_left (by rw [hq]; omega), Nat.zero_mul, Nat.zero_add]
  | b :: l, i + 1, j, a, h, hj => by
    rw [List.flatMap_cons, List.getElem?_append_right (by rw [hq, Nat.add_mul]; omega), hq, show (i + 1) * q + j - q = i * q + j by rw [Nat.add_mul]; omega]
    exact flat_get hq l i j a (by simpa using h) hj

section
variable {P : Program} {m : Mode} {n B : Nat} {w0 : World} {ops : Array Oper} {Q : Exit → Act → World → Prop} {rest : List Oper} {env : Env} {H : List HP} {d : Nat} {ty : TypeId} {pos : String} {after : Array Edge}

/-- The address of an element of a row that is read. -/
theorem VL_index_rd (T : Tab P) {α : Type} {f : α → List Value} {l : List α} {t : Nat} {x y : Operand} {A : Option Addr} {cap : Nat} {e size bytes : Nat} {ki : IntKind} {i : Int} (hx : evo env x = some (.slice A l.length cap)) (hy : evo env y = some (.int ki i))
    (hr : Rd B w0 H A (l.flatMap f)) (ht : look T.sl t = some (e, size, bytes)) (hq : ∀ a, (f a).length = size) (h0 : Nat.blt 0 size = true) (hn : Nat.ble (d + 1) n = true) (hi : 0 ≤ i ∧ i < l.length)
    (h : VL P m n B w0 ops Q rest ((d, sptr A (i.toNat * size)) :: env) H) : VL P m n B w0 ops Q (⟨some d, .indexAddr t x y, ty, pos, after, none⟩ :: rest) env H := by
  obtain ⟨hut, inf, z, hinf, _, _, hsi, _, _, _⟩ := sliceT_spec (T.slic ht)
  refine VL_pure rfl rfl hn rfl (fun a w ha hw => ?_) h
  have h0' : 0 < size := by simpa using h0
  have hlt : i.toNat < l.length := by omega
  have hget := flat_get hq l i.toNat 0 _ (List.getElem?_eq_getElem hlt) h0'
  have hg2 : (f l[i.toNat])[0]? = some ((f l[i.toNat])[0]'(by rw [hq]; exact h0')) := List.getElem?_eq_getElem _
  rw [hg2] at hget
  obtain ⟨g, o, rfl, _⟩ := hr w hw _ _ hget
  simp [execOp, ha.eval hx, ha.eval hy, Instr.indexAt, asIntOf, run_underlying hut, hi, sizeOf, typeInfo, hinf, hsi, sptr]

/-- A field's address in a row that is read. -/
theorem VL_field_rd (T : Tab P) {s f k j : Nat} {x : Operand} {A : Option Addr} {xs : List Value} (hx : evo env x = some (sptr A j)) (hr : Rd B w0 H A xs) (hj : j < xs.length) (hf : look2 T.fo s f = some k) (hn : Nat.ble (d + 1) n = true)
    (h : VL P m n B w0 ops Q rest ((d, sptr A (j + k)) :: env) H) : VL P m n B w0 ops Q (⟨some d, .fieldAddr s x f, ty, pos, after, none⟩ :: rest) env H := by
  refine VL_pure rfl rfl hn rfl (fun a w ha hw => ?_) h
  obtain ⟨g, o, rfl, _⟩ := hr w hw _ _ (List.getElem?_eq_getElem hj)
  have h1 := T.offs hf
  unfold fieldOff at h1
  split at h1
  · rename_i fs hu
    cases hfl : fs[f]? with
    | none => rw [hfl] at h1; cases h1
    | some fld =>
      rw [hfl] at h1
      simp only [Option.bind_some] at h1
      cases hi : P.info? fld.type with
      | none => rw [hi] at h1; cases h1
      | some inf =>
        rw [hi] at h1
        simp only [Option.bind_some] at h1
        by_cases hz : inf.size = 0
        · rw [if_pos hz] at h1; cases h1
        · rw [if_neg hz] at h1
          have h2 : fld.offset = k := by simpa using h1
          subst h2
          simp [execOp, ha.eval hx, sptr, Instr.fieldAt, run_underlying hu, hfl, Instr.sureAddr, fieldPlace, sizeOf, typeInfo, hi, hz, Addr.add_lit, Nat.add_assoc]
  · cases h1

/-- The value at one place of the i-th element. -/
theorem VL_load_rd (T : Tab P) {α : Type} {f : α → List Value} {l : List α} {t i q o : Nat} {b : α} {x : Operand} {A : Option Addr} {v : Value} (hx : evo env x = some (sptr A (i * q + o))) (hr : Rd B w0 H A (l.flatMap f)) (hb : l[i]? = some b) (hq : ∀ a, (f a).length = q)
    (ho : Nat.blt o q = true) (hv : nth (f b) o = some v) (ht : look T.sc t = some ()) (hn : Nat.ble (d + 1) n = true)
    (h : VL P m n B w0 ops Q rest ((d, v) :: env) H) : VL P m n B w0 ops Q (⟨some d, .load t x, ty, pos, after, none⟩ :: rest) env H := by
  refine VL_pure rfl rfl hn rfl (fun a w ha hw => ?_) h
  have hg := flat_get hq l i o b hb (by simpa using ho)
  rw [← nth_eq (f b), hv] at hg
  obtain ⟨g, u, rfl, hc⟩ := hr w hw _ _ hg
  simp [execOp, ha.eval hx, sptr, Instr.loadAt, Instr.sureAddr, loadVar, run_isAgg_false (T.scal ht).1, Addr.add_lit, hc]
theorem VL_load_rd0 (T : Tab P) {α : Type} {f : α → List Value} {l : List α} {t i q : Nat} {b : α} {x : Operand} {A : Option Addr} {v : Value} (hx : evo env x = some (sptr A (i * q))) (hr : Rd B w0 H A (l.flatMap f)) (hb : l[i]? = some b) (hq : ∀ a, (f a).length = q)
    (ho : Nat.blt 0 q = true) (hv : nth (f b) 0 = some v) (ht : look T.sc t = some ()) (hn : Nat.ble (d + 1) n = true)
    (h : VL P m n B w0 ops Q rest ((d, v) :: env) H) : VL P m n B w0 ops Q (⟨some d, .load t x, ty, pos, after, none⟩ :: rest) env H :=
  VL_load_rd T (i := i) (q := q) (o := 0) (by rw [Nat.add_zero]; exact hx) hr hb hq ho hv ht hn h
/-- The i-th element, a struct, whole. -/
theorem VL_load_agg_rd (T : Tab P) {α : Type} {f : α → List Value} {l : List α} {t i q : Nat} {b : α} {x : Operand} {A : Option Addr} (hx : evo env x = some (sptr A (i * q))) (hr : Rd B w0 H A (l.flatMap f)) (hb : l[i]? = some b) (hq : ∀ a, (f a).length = q)
    (ho : Nat.blt 0 q = true) (ht : look T.ag t = some q) (hn : Nat.ble (d + 1) n = true)
    (h : VL P m n B w0 ops Q rest ((d, .agg (f b).toArray) :: env) H) : VL P m n B w0 ops Q (⟨some d, .load t x, ty, pos, after, none⟩ :: rest) env H := by
  refine VL_pure rfl rfl hn rfl (fun a w ha hw => ?_) h
  have h0 : 0 < q := by simpa using ho
  have hget : ∀ j v, (f b)[j]? = some v → (l.flatMap f)[i * q + j]? = some v := fun j v hj => by
    have hlt : j < q := by have := (List.getElem?_eq_some_iff.1 hj).1; rwa [hq] at this
    rw [flat_get hq l i j b hb hlt]; exact hj
  obtain ⟨g, u, rfl, _⟩ := hr w hw _ _ (hget 0 _ (List.getElem?_eq_getElem (by rw [hq]; exact h0)))
  have hl := run_loadCells_list (P := P) w ⟨g, u + i * q, none⟩ (f b) (fun j v hj => by
    obtain ⟨g', u', e1, hc⟩ := hr w hw _ _ (hget j v hj)
    injection e1 with e1
    injection e1 with e1 e2
    subst e1 e2
    rw [Addr.add_lit, Nat.add_assoc]; exact hc)
  rw [hq] at hl
  simp [execOp, ha.eval hx, sptr, Instr.loadAt, Instr.sureAddr, loadVar, run_isAgg_true (T.aggs ht), run_sizeOf (aggT_size (T.aggs ht)), Addr.add_lit, hl]

def isBool (P : Program) (t : TypeId) : Bool := match P.underlying t with | some .bool => true | _ => false
theorem run_eq_bool {w : World} {t : TypeId} (a b : Bool) (h : isBool P t = true) : (Op.equal t (.bool a) (.bool b)).run P w = .ok (a == b) w := by
  have hu : P.underlying t = some .bool := by
    unfold isBool at h
    split at h
    · assumption
    · cases h
  show (Op.equalIn (9999 + 1) t (.bool a) (.bool b)).run P w = _
  exact run_equalIn_bool' w 9999 t a b hu
theorem VL_bneq {xt yt : TypeId} {x y : Operand} {a b : Bool} (hx : evo env x = some (.bool a)) (hy : evo env y = some (.bool b)) (hn : Nat.ble (d + 1) n = true) (ht : isBool P xt = true) (h : VL P m n B w0 ops Q rest ((d, .bool (!(a == b))) :: env) H) :
    VL P m n B w0 ops Q (⟨some d, .binOp .neq xt x y yt, ty, pos, after, none⟩ :: rest) env H :=
  VL_bin hx hy hn (fun _ => rfl) (fun w => by simp only [binOp, Sem.run_bind, run_eq_bool a b ht, Result.andThen_ok, Sem.run_pure]) h
theorem VL_beql {xt yt : TypeId} {x y : Operand} {a b : Bool} (hx : evo env x = some (.bool a)) (hy : evo env y = some (.bool b)) (hn : Nat.ble (d + 1) n = true) (ht : isBool P xt = true) (h : VL P m n B w0 ops Q rest ((d, .bool (a == b)) :: env) H) :
    VL P m n B w0 ops Q (⟨some d, .binOp .eql xt x y yt, ty, pos, after, none⟩ :: rest) env H :=
  VL_bin hx hy hn (fun _ => rfl) (fun w => by simp only [binOp, Sem.run_bind, run_eq_bool a b ht, Result.andThen_ok, Sem.run_pure]) h
theorem VL_max2 {x y : Operand} {k : IntKind} {a b : Int} {tys : Array TypeId} (hx : evo env x = some (.int k a)) (hy : evo env y = some (.int k b)) (hn : Nat.ble (d + 1) n = true) (h1 : a < b → VL P m n B w0 ops Q rest ((d, .int k b) :: env) H) (h2 : b ≤ a → VL P m n B w0 ops Q rest ((d, .int k a) :: env) H) :
    VL P m n B w0 ops Q (⟨some d, .call ⟨.builtin .max, #[x, y], tys⟩, ty, pos, after, none⟩ :: rest) env H := by
  by_cases hc : b > a
  · exact VL_pure rfl rfl hn rfl (fun f w ha _ => by simp [execOp, resolve, invoke, builtin, ha.eval hx, ha.eval hy, run_max_int2, hc]) (h1 hc)
  · exact VL_pure rfl rfl hn rfl (fun f w ha _ => by simp [execOp, resolve, invoke, builtin, ha.eval hx, ha.eval hy, run_max_int2, hc]) (h2 (by omega))
end
end Go.Eng
