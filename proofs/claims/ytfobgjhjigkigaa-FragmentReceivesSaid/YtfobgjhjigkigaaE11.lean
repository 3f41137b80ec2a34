/- An engine for walks, part 11: elements of one cell written into rows of one's own. -/
import Derived.Test.YtfobgjhjigkigaaE10
namespace Go.Eng
open Go.RowKit
section
variable {P : Program} {n B : Nat} {w0 : World} {ops : Array Oper} {Q : Exit → Act → World → Prop} {rest : List Oper} {env : Env} {H : List HP} {d : Nat} {ty : TypeId} {pos : String} {after : Array Edge} {x y : Operand}

theorem flat_one {α : Type} {f : α → List Value} (hq : ∀ a, (f a).length = 1) {v : Value} : ∀ (l : List α) (i : Nat) (a : α), f a = [v] → i < l.length → (l.flatMap f).set i v = (l.set i a).flatMap f
  | [], i, a, _, h => by simp at h
  | b :: l, 0, a, hv, _ => by
    rw [List.flatMap_cons, List.set_cons_zero, List.flatMap_cons, hv]
    match hb : f b, hq b with
    | [u], _ => rfl
  | b :: l, i + 1, a, hv, h => by
    rw [List.flatMap_cons, List.set_cons_succ, List.flatMap_cons]
    have h1 := hq b
    rw [List.set_append_right _ _ (by omega), h1, Nat.add_sub_cancel, flat_one hq l i a hv (by simpa using h)]

theorem VL_store_row (T : Tab P) {α : Type} {f : α → List Value} {l : List α} {t i e k cap : Nat} {a : α} {v : Value} {A : Option Addr} {K : List HP} (hx : evo env x = some (sptr A (i * 1))) (hy : evo env y = some v) (h1 : v.oneCell' = true)
    (hu : Upd (sl e 1 A k cap (l.flatMap f)) (sl e 1 A k cap ((l.set i a).flatMap f)) H K) (hv : f a = [v]) (hq : ∀ a, (f a).length = 1) (ht : look T.sc t = some ()) (hi : i < l.length)
    (h : VL P none n B w0 ops Q rest env K) : VL P none n B w0 ops Q (⟨none, .store t x y, ty, pos, after, none⟩ :: rest) env H := by
  rw [Nat.mul_one] at hx
  refine VL_store_sl (e := e) (size := 1) (k := k) (cap := cap) T hx hy h1 ?_ ht (by rw [length_flat hq, Nat.mul_one]; exact hi) h
  rw [flat_one hq l i a hv hi]
  exact hu

/-- An empty slice that is no nil. -/
theorem VL_buildSlice0 (T : Tab P) {t e size bytes : Nat} (ht : look T.sl t = some (e, size, bytes)) (hn : Nat.ble (d + 1) n = true)
    (h : ∀ g, VL P none n B w0 ops Q rest ((d, .slice (some ⟨g, 0, none⟩) 0 0) :: env) (sl e size (some ⟨g, 0, none⟩) 0 0 [] :: H)) : VL P none n B w0 ops Q (⟨some d, .buildSlice t 0 #[], ty, pos, after, none⟩ :: rest) env H := by
  obtain ⟨hut, inf, z', hinf, _⟩ := sliceT_spec (T.slic ht)
  refine VL_buildSlice (parts := []) (ps := []) (cs := #[]) (e := e) parts_nil (fun w => ?_) hn fun g => VL_st _ (fun w hw => hw.blk_sl (cs := []) (by simp) (by omega)) (h g)
  simp [Instr.buildSlice, run_underlying hut, sizeOf, typeInfo, hinf, Instr.fill, newRow]
  rw [show Array.range 0 = #[] from Array.eq_empty_of_size_eq_zero (by simp), Array.map_empty]

theorem perm_take {A : HP} {L L' M : List HP} (h : Rem A L L') (h2 : Perm L' M) : Perm L (A :: M) := Perm.trans h (Perm.cons A h2)
theorem Perm.dropK {A : HP} {L M : List HP} (p : Perm L M) : Perm (A :: L) M := .trans (.drop A L) p
end
end Go.Eng
