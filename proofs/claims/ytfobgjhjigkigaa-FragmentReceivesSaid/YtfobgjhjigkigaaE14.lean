/- An engine for walks, part 14: elements stored whole; slices that are not nil. -/
import Derived.Test.YtfobgjhjigkigaaE13
namespace Go.Eng
open Go.RowKit
section
variable {P : Program} {m : Mode} {n B : Nat} {w0 : World} {ops : Array Oper} {Q : Exit → Act → World → Prop} {rest : List Oper} {env : Env} {H : List HP} {d : Nat} {ty : TypeId} {pos : String} {after : Array Edge} {x y : Operand}

theorem flat_put {α : Type} {f : α → List Value} {q : Nat} (hq : ∀ a, (f a).length = q) : ∀ (l : List α) (i : Nat) (a : α), i < l.length → (l.flatMap f).take (i * q) ++ f a ++ (l.flatMap f).drop (i * q + q) = (l.set i a).flatMap f
  | [], i, a, h => by simp at h
  | b :: l, 0, a, _ => by
    rw [Nat.zero_mul, List.take_zero, List.nil_append, Nat.zero_add, List.flatMap_cons, List.drop_left' (hq b), List.set_cons_zero, List.flatMap_cons]
  | b :: l, i + 1, a, h => by
    have e1 : (i + 1) * q = q + i * q := by rw [Nat.add_mul]; omega
    have e2 : q + i * q + q = q + (i * q + q) := by omega
    have ih := flat_put hq l i a (by simpa using h)
    have hb := hq b
    rw [List.set_cons_succ, List.flatMap_cons, List.flatMap_cons, ← ih, e1, e2, List.take_append, List.drop_append, hb, List.take_of_length_le (by omega), List.drop_eq_nil_of_le (by omega), Nat.add_sub_cancel_left, Nat.add_sub_cancel_left, List.nil_append]
    simp [List.append_assoc]

theorem VL_store_elem (T : Tab P) {α : Type} {f : α → List Value} {l : List α} {t i q e k cap : Nat} {a : α} {vs : List Value} {A : Option Addr} {K : List HP} (hx : evo env x = some (sptr A (i * q))) (hy : evo env y = some (.agg vs.toArray)) (hv : f a = vs)
    (hu : Upd (sl e q A k cap (l.flatMap f)) (sl e q A k cap ((l.set i a).flatMap f)) H K) (hq : ∀ a, (f a).length = q) (h1 : allOne vs = true) (ht : look T.ag t = some q) (hq0 : Nat.blt 0 q = true) (hi : i < l.length)
    (h : VL P none n B w0 ops Q rest env K) : VL P none n B w0 ops Q (⟨none, .store t x y, ty, pos, after, none⟩ :: rest) env H := by
  subst hv
  have hmem : sl e q A k cap (l.flatMap f) ∈ H := by
    obtain ⟨L1, L2, rfl, _⟩ := hu
    simp
  have hq0' : 0 < q := by simpa using hq0
  refine VL_skip rfl rfl (fun ac w ha hw => ?_) h
  have hown := hw.sl hmem
  rcases sl_open hown with ⟨_, rfl, _, e4⟩ | ⟨g, cur, rfl, g1, g2, g3, g4, g5, g6⟩
  · have := congrArg List.length e4
    rw [length_flat hq] at this
    have h5 : 0 < l.length * q := Nat.mul_pos (by omega) hq0'
    simp at this
    omega
  · have hil : i * q + q ≤ l.length * q := by
      have : (i + 1) * q ≤ l.length * q := Nat.mul_le_mul_right _ hi
      rw [Nat.add_mul] at this; omega
    rw [length_flat hq] at g6
    have hkc : k * q ≤ cap * q := Nat.mul_le_mul_right _ g2
    have hov : i * q + (f a).length ≤ cur.size := by rw [hq, g4]; omega
    have hrun := run_storeCells_at (P := P) g (i * q) e (f a) 0 cur w g1 (by rw [Nat.add_zero]; exact hov) (allOne_spec h1)
    rw [Nat.add_zero] at hrun
    refine ⟨_, ?_, hw.storeRow (k' := k) (o := i * q) (vs := f a) hu rfl g1 g4 g2 g3 hov ?_ ?_⟩
    · rw [show sptr (some (⟨g, 0, none⟩ : Addr)) (i * q) = .pointer (some ⟨g, i * q, none⟩) by simp [sptr, Addr.add_lit]] at hx
      simp [execOp, ha.eval hx, ha.eval hy, Instr.storeAt, Instr.sureAddr, storeVar, Value.cells, run_sizeOf (aggT_size (T.aggs ht)), hq, hrun]
    · have hX : (cur.toList.take (i * q) ++ f a).length = i * q + q := by rw [List.length_append, List.length_take, Array.length_toList, hq]; omega
      rw [← flat_put hq l i a hi, ← g5, hq, List.take_append, hX, List.take_of_length_le (by omega), List.take_take, Nat.min_eq_left (by omega), List.drop_take]
    · rw [length_flat hq, List.length_set]; exact g6

/-- The address of an element of a slice that is not nil. -/
theorem VL_index_some (T : Tab P) {t k cap e size bytes : Nat} {a : Addr} {ki : IntKind} {i : Int} (hx : evo env x = some (.slice (some a) k cap)) (hy : evo env y = some (.int ki i)) (ht : look T.sl t = some (e, size, bytes)) (hn : Nat.ble (d + 1) n = true) (hi : 0 ≤ i ∧ i < k)
    (h : VL P m n B w0 ops Q rest ((d, sptr (some a) (i.toNat * size)) :: env) H) : VL P m n B w0 ops Q (⟨some d, .indexAddr t x y, ty, pos, after, none⟩ :: rest) env H := by
  obtain ⟨hut, inf, z', hinf, _, _, hsi, _⟩ := sliceT_spec (T.slic ht)
  refine VL_pure rfl rfl hn rfl (fun f w ha _ => ?_) h
  simp [execOp, ha.eval hx, ha.eval hy, Instr.indexAt, asIntOf, run_underlying hut, hi, sizeOf, typeInfo, hinf, hsi, sptr]

theorem VL_some {l : List Oper} {e size k cap : Nat} {A : Option Addr} {xs : List Value} (hm : sl e size A k cap xs ∈ H) (hk : 0 < k) (h : ∀ g, A = some ⟨g, 0, none⟩ → VL P none n B w0 ops Q l env H) : VL P none n B w0 ops Q l env H := by
  refine ⟨fun a ha w hw => ?_⟩
  rcases sl_open (hw.sl hm) with ⟨_, e1, _⟩ | ⟨g, _, rfl, _⟩
  · omega
  · exact (h g rfl).run a ha w hw
theorem VC_some {c : Code} {e size k cap : Nat} {A : Option Addr} {xs : List Value} (hm : sl e size A k cap xs ∈ H) (hk : 0 < k) (h : ∀ g, A = some ⟨g, 0, none⟩ → VC P n B w0 c Q env H) : VC P n B w0 c Q env H := by
  refine ⟨fun a w ha hw => ?_⟩
  rcases sl_open (hw.sl hm) with ⟨_, e1, _⟩ | ⟨g, _, rfl, _⟩
  · omega
  · exact (h g rfl).run a w ha hw
end
end Go.Eng
