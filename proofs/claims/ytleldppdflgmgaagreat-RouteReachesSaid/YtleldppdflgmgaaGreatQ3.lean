/- Lemmas for the claim, part 3. -/
import Derived.Laws.CopyRow
import Derived.Scope
import Derived.Test.YtleldppdflgmgaaGreatQ2

/- An engine for walks, part 11: elements of one cell written into rows of one's own. -/
namespace Go.Eng
open Go.RowKit
section
variable {P : Program} {n B : Nat} {w0 : World} {ops : Array Oper} {Q : Exit → Act → World → Prop} {rest : List Oper} {env : Env} {H : List HP} {d : Nat} {ty : TypeId} {pos : String} {after : Array Edge} {x y : Operand}

theorem flat_one {α : Type} {f : α → List Value} (hq : ∀ a, (f a).length = 1) {v : Value} : ∀ (l : List α) (i : Nat) (a : α), f a = [v] → i < l.length → (l.flatMap f).set i v = (l.set i a).flatMap f
  | [], i, a, _, h => by simp at h
  | b :: l, 0, a, hv, _ => by
    rw [List.flatMap_cons, List.set_cons_zero, List.flatMap_cons, hv]
    match hb : f b, hq b with
    | [u], _ => rfl
  | b :: l, i + 1, a, hv, h => by
    rw [List.flatMap_cons, List.set_cons_succ, List.flatMap_cons]
    have h1 := hq b
    rw [List.set_append_right _ _ (by omega), h1, Nat.add_sub_cancel, flat_one hq l i a hv (by simpa using h)]

theorem VL_store_row (T : Tab P) {α : Type} {f : α → List Value} {l : List α} {t i e k cap : Nat} {a : α} {v : Value} {A : Option Addr} {K : List HP} (hx : evo env x = some (sptr A (i * 1))) (hy : evo env y = some v) (h1 : v.oneCell' = true)
    (hu : Upd (sl e 1 A k cap (l.flatMap f)) (sl e 1 A k cap ((l.set i a).flatMap f)) H K) (hv : f a = [v]) (hq : ∀ a, (f a).length = 1) (ht : look T.sc t = some ()) (hi : i < l.length)
    (h : VL P none n B w0 ops Q rest env K) : VL P none n B w0 ops Q (⟨none, .store t x y, ty, pos, after, none⟩ :: rest) env H := by
  rw [Nat.mul_one] at hx
  refine VL_store_sl (e := e) (size := 1) (k := k) (cap := cap) T hx hy h1 ?_ ht (by rw [length_flat hq, Nat.mul_one]; exact hi) h
  rw [flat_one hq l i a hv hi]
  exact hu

/-- An empty slice that is no nil. -/
theorem VL_buildSlice0 (T : Tab P) {t e size bytes : Nat} (ht : look T.sl t = some (e, size, bytes)) (hn : Nat.ble (d + 1) n = true)
    (h : ∀ g, VL P none n B w0 ops Q rest ((d, .slice (some ⟨g, 0, none⟩) 0 0) :: env) (sl e size (some ⟨g, 0, none⟩) 0 0 [] :: H)) : VL P none n B w0 ops Q (⟨some d, .buildSlice t 0 #[], ty, pos, after, none⟩ :: rest) env H := by
  obtain ⟨hut, inf, z', hinf, _⟩ := sliceT_spec (T.slic ht)
  refine VL_buildSlice (parts := []) (ps := []) (cs := #[]) (e := e) parts_nil (fun w => ?_) hn fun g => VL_st _ (fun w hw => hw.blk_sl (cs := []) (by simp) (by omega)) (h g)
  simp [Instr.buildSlice, run_underlying hut, sizeOf, typeInfo, hinf, Instr.fill, newRow]
  rw [show Array.range 0 = #[] from Array.eq_empty_of_size_eq_zero (by simp), Array.map_empty]

theorem perm_take {A : HP} {L L' M : List HP} (h : Rem A L L') (h2 : Perm L' M) : Perm L (A :: M) := Perm.trans h (Perm.cons A h2)
theorem Perm.dropK {A : HP} {L M : List HP} (p : Perm L M) : Perm (A :: L) M := .trans (.drop A L) p
end
end Go.Eng

/- An engine for walks, part 12: rows that are cut, copied, moved and cleared. -/
namespace Go.Eng
open Go.RowKit
section
variable {P : Program} {m : Mode} {n B : Nat} {w0 : World} {ops : Array Oper} {Q : Exit → Act → World → Prop} {rest : List Oper} {env : Env} {H : List HP} {d : Nat} {ty : TypeId} {pos : String} {after : Array Edge} {x y : Operand}

theorem flat_take {α : Type} {f : α → List Value} {q : Nat} (hq : ∀ a, (f a).length = q) : ∀ (l : List α) (k : Nat), (l.take k).flatMap f = (l.flatMap f).take (k * q)
  | [], k => by simp
  | a :: l, 0 => by simp
  | a :: l, k + 1 => by
    have e1 : (k + 1) * q = q + k * q := by rw [Nat.add_mul]; omega
    have h1 : (f a).take (q + k * q) = f a := List.take_of_length_le (by rw [hq]; omega)
    rw [List.take_succ_cons, List.flatMap_cons, List.flatMap_cons, flat_take hq l k, e1, List.take_append, hq, h1, Nat.add_sub_cancel_left]
theorem flat_drop {α : Type} {f : α → List Value} {q : Nat} (hq : ∀ a, (f a).length = q) : ∀ (l : List α) (k : Nat), (l.drop k).flatMap f = (l.flatMap f).drop (k * q)
  | [], k => by simp
  | a :: l, 0 => by simp
  | a :: l, k + 1 => by
    have e1 : (k + 1) * q = q + k * q := by rw [Nat.add_mul]; omega
    have h1 : (f a).drop (q + k * q) = [] := List.drop_eq_nil_of_le (by rw [hq]; omega)
    rw [List.drop_succ_cons, List.flatMap_cons, flat_drop hq l k, e1, List.drop_append, hq, h1, Nat.add_sub_cancel_left, List.nil_append]
theorem flat_set {α : Type} {f : α → List Value} {q : Nat} (hq : ∀ a, (f a).length = q) {v : Value} {o : Nat} (ho : o < q) : ∀ (l : List α) (i : Nat) (b b' : α), l[i]? = some b → f b' = (f b).set o v → (l.flatMap f).set (i * q + o) v = (l.set i b').flatMap f
  | [], i, b, b', h, _ => by simp at h
  | a :: l, 0, b, b', h, hv => by
    obtain rfl : a = b := by simpa using h
    rw [List.flatMap_cons, List.set_cons_zero, List.flatMap_cons, hv, Nat.zero_mul, Nat.zero_add, List.set_append_left _ _ (by rw [hq]; exact ho)]
  | a :: l, i + 1, b, b', h, hv => by
    have h1 := hq a
    rw [List.flatMap_cons, List.set_cons_succ, List.flatMap_cons, List.set_append_right _ _ (by rw [h1, Nat.add_mul]; omega), h1, ← flat_set hq ho l i b b' (by simpa using h) hv]
    congr 2
    rw [Nat.add_mul]; omega
theorem flat_one_cells {α : Type} {f : α → List Value} (h1 : ∀ a, allOne (f a) = true) (l : List α) : ∀ v ∈ l.flatMap f, v.oneCell' = true := by
  intro v hv
  obtain ⟨a, _, ha⟩ := List.mem_flatMap.1 hv
  exact allOne_spec (h1 a) v ha

/-- Where the part of a slice from element o on lies. -/
def subA (A : Option Addr) (o cap size : Nat) : Option Addr := if cap = o then A else A.map fun a => a.add (o * size)

theorem Rd.sub {α : Type} {f : α → List Value} {q : Nat} {l : List α} {A : Option Addr} {cap o k : Nat} (hq : ∀ a, (f a).length = q) (hr : Rd B w0 H A (l.flatMap f)) (hc : l.length ≤ cap) : Rd B w0 H (subA A o cap q) (((l.drop o).take k).flatMap f) := by
  intro w hw j v hv
  rw [flat_take hq, flat_drop hq] at hv
  have hv2 : ((l.flatMap f).drop (o * q))[j]? = some v := by
    rw [List.getElem?_take] at hv
    by_cases hj : j < k * q
    · rw [if_pos hj] at hv; exact hv
    · rw [if_neg hj] at hv; cases hv
  rw [List.getElem?_drop] at hv2
  obtain ⟨g, oo, rfl, h2⟩ := hr w hw _ _ hv2
  unfold subA
  by_cases hco : cap = o
  · exfalso
    have h3 := (List.getElem?_eq_some_iff.1 hv2).1
    rw [length_flat hq] at h3
    have h4 : l.length * q ≤ o * q := Nat.mul_le_mul_right q (by omega)
    omega
  · rw [if_neg hco]
    exact ⟨g, oo + o * q, by rw [Option.map_some, Addr.add_lit], by rw [Nat.add_assoc]; exact h2⟩
theorem Rd.take {α : Type} {f : α → List Value} {q : Nat} {l : List α} {A : Option Addr} (k : Nat) (hq : ∀ a, (f a).length = q) (hr : Rd B w0 H A (l.flatMap f)) : Rd B w0 H A ((l.take k).flatMap f) := by
  intro w hw j v hv
  rw [flat_take hq, List.getElem?_take] at hv
  by_cases hj : j < k * q
  · rw [if_pos hj] at hv; exact hr w hw j v hv
  · rw [if_neg hj] at hv; cases hv

/-! ### Slices of slices -/

theorem run_sliceT (T : Tab P) {w : World} {t e size bytes : Nat} {A : Option Addr} {k cap : Nat} {lo hi mx : Option Value} {l h mm : Nat} (ht : look T.sl t = some (e, size, bytes)) (hb : (Instr.sliceBounds true k cap lo hi mx).run P w = .ok (l, h, mm) w) :
    (Instr.slice t (.slice A k cap) lo hi mx).run P w = .ok (.slice (if mm = l then A else A.map (·.add (l * size))) (h - l) (mm - l)) w := by
  obtain ⟨hut, inf, z', hinf, _, _, hsi, _⟩ := sliceT_spec (T.slic ht)
  simp [Instr.slice, run_underlying hut, hb, sizeOf, typeInfo, hinf, hsi]

theorem run_sliceAtT (T : Tab P) {w : World} {t e size bytes : Nat} {A : Option Addr} {k cap : Nat} {lo hi mx : Option Value} {l h mm : Nat} (ht : look T.sl t = some (e, size, bytes)) (hb : (Instr.sliceBounds true k cap lo hi mx).run P w = .ok (l, h, mm) w) :
    (Instr.sliceAt t (.slice A k cap) lo hi mx).run P w = .ok (.slice (if mm = l then A else A.map (·.add (l * size))) (h - l) (mm - l)) w := by
  obtain ⟨hut, _⟩ := sliceT_spec (T.slic ht)
  simp [Instr.sliceAt, run_underlying hut, run_sliceT T (A := A) ht hb]

theorem VL_slice_lo (T : Tab P) {t e size bytes k cap n' : Nat} {A : Option Addr} {lo : Operand} {ki : IntKind} {z : Int} (hx : evo env x = some (.slice A k cap)) (hl : evo env lo = some (.int ki z)) (ht : look T.sl t = some (e, size, bytes)) (hn : Nat.ble (d + 1) n = true) (hb : 0 ≤ z ∧ z ≤ k) (hn' : k - z.toNat = n')
    (h : VL P m n B w0 ops Q rest ((d, .slice (subA A z.toNat cap size) n' (cap - z.toNat)) :: env) H) : VL P m n B w0 ops Q (⟨some d, .slice t x (some lo) none none, ty, pos, after, none⟩ :: rest) env H := by
  subst hn'
  refine VL_pure rfl rfl hn rfl (fun f w ha _ => ?_) h
  have hb2 : (Instr.sliceBounds true k cap (some (.int ki z)) none none).run P w = .ok (z.toNat, k, cap) w := by simp [Instr.sliceBounds, Instr.sliceBound, asIntOf, hb]
  have hr := run_sliceAtT T (A := A) ht hb2
  simp only [execOp, ha.eval hx, Option.map_some, ha.eval hl, Option.map_none]
  simp [hr, subA]

theorem VL_slice_hi (T : Tab P) {t e size bytes k cap : Nat} {A : Option Addr} {hi : Operand} {ki : IntKind} {z : Int} {xs : List Value} (hx : evo env x = some (.slice A k cap)) (hl : evo env hi = some (.int ki z)) (hm : sl e size A k cap xs ∈ H) (ht : look T.sl t = some (e, size, bytes)) (hn : Nat.ble (d + 1) n = true) (hb : 0 ≤ z ∧ z ≤ k)
    (h : VL P m n B w0 ops Q rest ((d, .slice A z.toNat cap) :: env) H) : VL P m n B w0 ops Q (⟨some d, .slice t x none (some hi) none, ty, pos, after, none⟩ :: rest) env H := by
  refine VL_pure rfl rfl hn rfl (fun f w ha hw => ?_) h
  have hown := hw.sl hm
  have hkc : k ≤ cap := by
    rcases hown.2 with ⟨e1, e2⟩ | ⟨g, c, cur, e1, _, _, e4, _⟩
    · omega
    · injection e1 with _ _ e3; omega
  have hA : (if cap = 0 then A else A.map (·.add (0 * size))) = A := by
    rcases hown.2 with ⟨e1, e2⟩ | ⟨g, c, cur, e1, _⟩
    · injection e1 with e1 _ _; subst e1; simp
    · injection e1 with e1 _ _; subst e1; simp [Addr.add_lit]
  have hb2 : (Instr.sliceBounds true k cap none (some (.int ki z)) none).run P w = .ok (0, z.toNat, cap) w := by
    have : z ≤ cap := by omega
    simp [Instr.sliceBounds, Instr.sliceBound, asIntOf, hb.1, this]
  have hr := run_sliceAtT T (A := A) ht hb2
  rw [hA] at hr
  simp only [execOp, ha.eval hx, Option.map_some, ha.eval hl, Option.map_none]
  simp [hr]

/-- The same of a row that is only read. -/
theorem VL_slice_hi_rd (T : Tab P) {α : Type} {l : List α} {t e size bytes cap n' : Nat} {A : Option Addr} {hi : Operand} {ki : IntKind} {z : Int} (hx : evo env x = some (.slice A l.length cap)) (hl : evo env hi = some (.int ki z)) (ht : look T.sl t = some (e, size, bytes)) (hn : Nat.ble (d + 1) n = true) (hb : 0 ≤ z ∧ z ≤ l.length) (hc : l.length ≤ cap) (hn' : z.toNat = n')
    (h : VL P m n B w0 ops Q rest ((d, .slice (subA A 0 cap size) n' cap) :: env) H) : VL P m n B w0 ops Q (⟨some d, .slice t x none (some hi) none, ty, pos, after, none⟩ :: rest) env H := by
  subst hn'
  refine VL_pure rfl rfl hn rfl (fun f w ha hw => ?_) h
  have hb2 : (Instr.sliceBounds true l.length cap none (some (.int ki z)) none).run P w = .ok (0, z.toNat, cap) w := by
    have : z ≤ cap := by omega
    simp [Instr.sliceBounds, Instr.sliceBound, asIntOf, hb.1, this]
  have hr := run_sliceAtT T (A := A) ht hb2
  simp only [execOp, ha.eval hx, Option.map_some, ha.eval hl, Option.map_none]
  simp [hr, subA]

theorem VL_slice_lh (T : Tab P) {t e size bytes k cap n' : Nat} {A : Option Addr} {lo hi : Operand} {ki kj : IntKind} {z u : Int} (hx : evo env x = some (.slice A k cap)) (hl : evo env lo = some (.int ki z)) (hh : evo env hi = some (.int kj u)) (ht : look T.sl t = some (e, size, bytes)) (hn : Nat.ble (d + 1) n = true) (hb : 0 ≤ z ∧ z ≤ u ∧ u ≤ cap) (hn' : u.toNat - z.toNat = n')
    (h : VL P m n B w0 ops Q rest ((d, .slice (subA A z.toNat cap size) n' (cap - z.toNat)) :: env) H) : VL P m n B w0 ops Q (⟨some d, .slice t x (some lo) (some hi) none, ty, pos, after, none⟩ :: rest) env H := by
  subst hn'
  refine VL_pure rfl rfl hn rfl (fun f w ha _ => ?_) h
  have hb2 : (Instr.sliceBounds true k cap (some (.int ki z)) (some (.int kj u)) none).run P w = .ok (z.toNat, u.toNat, cap) w := by
    have h1 : 0 ≤ u := by omega
    have h3 : z ≤ max u 0 := by omega
    simp [Instr.sliceBounds, Instr.sliceBound, asIntOf, hb.1, hb.2.2, h1, h3]
  have hr := run_sliceAtT T (A := A) ht hb2
  simp only [execOp, ha.eval hx, Option.map_some, ha.eval hl, ha.eval hh, Option.map_none]
  simp [hr, subA]

/-- A slice whose bounds are looked at, and which nobody uses. -/
theorem VL_slice3 (T : Tab P) {t e size bytes k cap : Nat} {A : Option Addr} {lo hi mx : Operand} {ki kj kk : IntKind} {z u v : Int} (hx : evo env x = some (.slice A k cap)) (hl : evo env lo = some (.int ki z)) (hh : evo env hi = some (.int kj u)) (hv : evo env mx = some (.int kk v)) (ht : look T.sl t = some (e, size, bytes)) (hn : Nat.ble (d + 1) n = true) (hb : 0 ≤ z ∧ z ≤ u ∧ u ≤ v ∧ v ≤ cap)
    (h : VL P m n B w0 ops Q rest ((d, .slice (if v.toNat = z.toNat then A else A.map (·.add (z.toNat * size))) (u.toNat - z.toNat) (v.toNat - z.toNat)) :: env) H) : VL P m n B w0 ops Q (⟨some d, .slice t x (some lo) (some hi) (some mx), ty, pos, after, none⟩ :: rest) env H := by
  refine VL_pure rfl rfl hn rfl (fun f w ha _ => ?_) h
  have hb2 : (Instr.sliceBounds true k cap (some (.int ki z)) (some (.int kj u)) (some (.int kk v))).run P w = .ok (z.toNat, u.toNat, v.toNat) w := by
    have h1 : 0 ≤ u := by omega
    have h3 : z ≤ max u 0 := by omega
    have h4 : 0 ≤ v := by omega
    have h6 : u ≤ max v 0 := by omega
    simp [Instr.sliceBounds, Instr.sliceBound, asIntOf, hb.1, hb.2.2, h1, h3, h4, h6]
  have hr := run_sliceAtT T (A := A) ht hb2
  simp only [execOp, ha.eval hx, Option.map_some, ha.eval hl, ha.eval hh, ha.eval hv]
  simp [hr]

/-! ### Rows of one's own that are written in pieces -/

theorem setRow_other {w : World} {g b : Nat} {cs : Array Value} (h : b ≠ g) : (w.setRow g cs).heap[b]? = w.heap[b]? := by
  simp [World.setRow, Array.getElem?_modify, Ne.symm h]

theorem St.storeRow {w : World} {K : List HP} {e size k k' cap g o : Nat} {A : Option Addr} {xs xs' vs : List Value} {cur : Array Value} (hw : St B w0 H w) (hu : Upd (Eng.sl e size A k cap xs) (Eng.sl e size A k' cap xs') H K) (hA : A = some ⟨g, 0, none⟩)
    (hb : w.heap[g]? = some (.cells cur e (0, 0))) (hcur : cur.size = cap * size) (hk' : k' ≤ cap) (hcm : cap ≤ maxLen) (hov : o + vs.length ≤ cur.size) (hx' : (cur.toList.take o ++ vs ++ cur.toList.drop (o + vs.length)).take (k' * size) = xs') (hxl : xs'.length = k' * size) :
    St B w0 K (w.setRow g (cur.toList.take o ++ vs ++ cur.toList.drop (o + vs.length)).toArray) := by
  refine hw.upd hu rfl rfl rfl (by simp [World.setRow]) fun S1 ⟨hown, hS⟩ => ⟨⟨⟨hxl, .inr ⟨g, cap, _, by rw [hA], Nat.zero_le _, setRow_heap w g cur _ e _ hb, hk', hcm, ?_, by simpa using hx'⟩⟩, hS⟩, fun b hb' _ => setRow_other fun e => hb' (by rw [e]; exact hS _ hA)⟩
  simp only [List.size_toArray, List.length_append, List.length_take, List.length_drop, Array.length_toList]
  omega

/-- What a piece says of memory. -/
theorem sl_open {w : World} {e size k cap : Nat} {A : Option Addr} {xs : List Value} (h : w.ownsRow 0 e size (.slice A k cap) k xs) : (A = none ∧ k = 0 ∧ cap = 0 ∧ xs = []) ∨ ∃ g cur, A = some ⟨g, 0, none⟩ ∧ w.heap[g]? = some (.cells cur e (0, 0)) ∧ k ≤ cap ∧ cap ≤ maxLen ∧ cur.size = cap * size ∧ cur.toList.take (k * size) = xs ∧ xs.length = k * size := by
  obtain ⟨h1, h2⟩ := h
  rcases h2 with ⟨e1, e2⟩ | ⟨g, c, cur, e1, _, e3, e4, e5, e6, e7⟩
  · injection e1 with a1 a2 a3
    exact .inl ⟨a1, e2, a3, List.eq_nil_of_length_eq_zero (by rw [h1, e2]; simp)⟩
  · injection e1 with a1 a2 a3
    subst a3
    exact .inr ⟨g, cur, a1, e3, e4, e5, e6, e7, h1⟩

/-- A piece of which only the first elements are looked at any more. -/
theorem St.shrink {w : World} {K : List HP} {e size k k' cap : Nat} {A : Option Addr} {xs : List Value} (hw : St B w0 H w) (hk : k' ≤ k) (hu : Upd (Eng.sl e size A k cap xs) (Eng.sl e size A k' cap (xs.take (k' * size))) H K) : St B w0 K w := by
  refine hw.upd hu rfl rfl rfl (Nat.le_refl _) fun S1 ⟨hown, hS⟩ => ⟨⟨?_, hS⟩, fun _ _ _ => rfl⟩
  rcases sl_open hown with ⟨rfl, rfl, rfl, rfl⟩ | ⟨g, cur, rfl, h1, h2, h3, h4, h5, h6⟩
  · obtain rfl : k' = 0 := by omega
    exact ⟨by simp, .inl ⟨rfl, rfl⟩⟩
  · have hm : k' * size ≤ k * size := Nat.mul_le_mul_right _ hk
    refine ⟨by rw [List.length_take, h6]; omega, .inr ⟨g, cap, cur, rfl, Nat.zero_le _, h1, by omega, h3, h4, ?_⟩⟩
    rw [← h5, List.take_take, Nat.min_eq_left hm]

theorem VL_append_rd (T : Tab P) {α : Type} {f : α → List Value} {l2 : List α} {t : Nat} {A A2 : Option Addr} {k cap c : Nat} {xs : List Value} {e size bytes : Nat} {K : Option Addr → Nat → List HP}
    (hx : evo env x = some (.slice A k cap)) (ht : look T.sl t = some (e, size, bytes)) (hy : evo env y = some (.slice A2 l2.length c)) (hr : Rd B w0 H A2 (l2.flatMap f)) (hq : ∀ a, (f a).length = size) (h1 : ∀ a, allOne (f a) = true) (hn : Nat.ble (d + 1) n = true)
    (hu : ∀ A' cap', Upd (sl e size A k cap xs) (sl e size A' (k + l2.length) cap' (xs ++ l2.flatMap f)) H (K A' cap')) (hby : (k + l2.length) * bytes ≤ 140737488355328)
    (h : ∀ A' cap', VL P none n B w0 ops Q rest ((d, .slice A' (k + l2.length) cap') :: env) (K A' cap')) :
    VL P none n B w0 ops Q (⟨some d, .call ⟨.builtin .append, #[x, y], #[t, t]⟩, ty, pos, after, none⟩ :: rest) env H := by
  obtain ⟨hut, i, z, hi, hz, hzs, hsi, hbi, hs0, hb0⟩ := sliceT_spec (T.slic ht)
  refine VL_opE (fun v K' => ∃ A' cap', v = .slice A' (k + l2.length) cap' ∧ K' = K A' cap') rfl rfl hn (fun a w ha hw => ?_) (by rintro _ _ ⟨A', cap', rfl, rfl⟩; exact h A' cap')
  have hmem : sl e size A k cap xs ∈ H := by
    obtain ⟨L1, L2, rfl, _⟩ := hu none 0
    simp
  have hown := hw.sl hmem
  have h63 : k + l2.length ≤ maxLen := by
    have : k + l2.length ≤ (k + l2.length) * bytes := Nat.le_mul_of_pos_right _ hb0
    simp only [maxLen]; omega
  cases A2 with
  | none =>
    have hl0 : l2 = [] := by
      cases l2 with
      | nil => rfl
      | cons b l =>
        have hb := hq b
        obtain ⟨v, hv⟩ : ∃ v, (f b)[0]? = some v := ⟨_, List.getElem?_eq_getElem (by omega)⟩
        obtain ⟨g, o, e1, _⟩ := hr w hw 0 v (by rw [List.flatMap_cons, List.getElem?_append_left (by omega)]; exact hv)
        cases e1
    subst hl0
    have hkc : k ≤ cap := by
      rcases sl_open hown with ⟨_, e1, e2, _⟩ | ⟨_, _, _, _, e1, _⟩ <;> omega
    refine ⟨.slice A k cap, K A cap, w, ?_, ?_, A, cap, by simp, rfl⟩
    · cases A with
      | none => simp [execOp, resolve, invoke, builtin, ha.eval hx, ha.eval hy, Builtin.append_, run_underlying hut, sizeOf, typeInfo, hi, Builtin.lenOf, hkc, Builtin.firstCells]
      | some a0 => simp [execOp, resolve, invoke, builtin, ha.eval hx, ha.eval hy, Builtin.append_, run_underlying hut, sizeOf, typeInfo, hi, Builtin.lenOf, hkc, Builtin.firstCells, storeCells]
    · have := hu A cap
      simp only [List.length_nil, Nat.add_zero, List.flatMap_nil, List.append_nil] at this
      exact hw.upd this rfl rfl rfl (Nat.le_refl _) fun S1 hS => ⟨hS, fun _ _ _ => rfl⟩
  | some a2 =>
    obtain ⟨v', w', hrun, hown', hgrow, _, hat⟩ := run_append_own_at (P := P) w 0 t ty e i z size bytes hut hi hz hsi hbi hzs hs0 (.slice A k cap) k xs hown a2 l2.length c (l2.flatMap f) (length_flat hq l2)
      (fun j u hj => by
        obtain ⟨g, o, e1, e2⟩ := hr w hw j u hj
        injection e1 with e1
        rw [e1, Addr.add_lit]; exact e2) (flat_one_cells h1 l2) h63 hby (Nat.zero_le _)
    have hshape : ∃ A' cap', v' = .slice A' (k + l2.length) cap' := by
      rcases hown'.2 with ⟨e1, e2⟩ | ⟨g', c', _, e1, _⟩
      · exact ⟨none, 0, by rw [e1, e2]⟩
      · exact ⟨_, _, e1⟩
    obtain ⟨A', cap', rfl⟩ := hshape
    refine ⟨_, K A' cap', w', by simp [execOp, resolve, invoke, builtin, ha.eval hx, ha.eval hy, hrun], ?_, A', cap', rfl, rfl⟩
    refine hw.updN (hu A' cap') hgrow.os hgrow.tape hgrow.output hgrow.size fun S1 ⟨_, hS⟩ => ⟨⟨fun b => Value.ownBlock (.slice A' (k + l2.length) cap') = some b, ⟨hown', ?_⟩, fun b hb => ?_⟩, fun b hb hlt => hgrow.block b hlt (fun e => hb ?_)⟩
    · rintro a rfl; rfl
    · rcases hat with e | e
      · rw [e] at hb
        cases A with
        | none => cases hb
        | some a => left; have := hS a rfl; simp only [Value.ownBlock, Option.some.injEq] at hb; rwa [← hb]
      · rw [e] at hb
        right
        simp only [Option.some.injEq] at hb
        subst hb
        refine ⟨Nat.le_refl _, ?_⟩
        rcases sl_open hown' with ⟨rfl, _⟩ | ⟨g', cur', rfl, h5, _⟩
        · simp [Value.ownBlock] at e
        · simp only [Value.ownBlock, Option.some.injEq] at e
          rw [← e]
          exact (Array.getElem?_eq_some_iff.1 h5).1
    · cases A with
      | none => simp [Value.ownBlock] at e
      | some a => have := hS a rfl; simp only [Value.ownBlock, Option.some.injEq] at e; rwa [e]

/-- The part of a row behind what is looked at is cleared. -/
theorem VL_clear (T : Tab P) (T2 : Tab2 P) {t e size bytes k cap o mm c : Nat} {A : Option Addr} {xs : List Value} {z : Value} (hx : evo env x = some (.slice (subA A o cap size) mm c)) (hm : sl e size A k cap xs ∈ H) (ht : look T.sl t = some (e, size, bytes)) (hz : look T2.zt e = some z) (hz1 : allOne z.cells.toList = true) (hb : k ≤ o ∧ o + mm ≤ cap)
    (h : VL P none n B w0 ops Q rest env H) : VL P none n B w0 ops Q (⟨none, .call ⟨.builtin .clear, #[x], #[t]⟩, ty, pos, after, none⟩ :: rest) env H := by
  obtain ⟨hut, i, z', hi, hz', hzs, hsi, hbi, hs0, hb0⟩ := sliceT_spec (T.slic ht)
  have hzz : z' = z := by
    have h2 := look_map T2.zt_ok hz
    unfold zeroT at h2
    rw [hi] at h2
    exact Option.some.inj (hz'.symm.trans h2)
  subst hzz
  refine VL_opU (v := .tuple #[]) rfl rfl (fun a w ha hw => ?_) h
  rcases sl_open (hw.sl hm) with ⟨rfl, rfl, rfl, rfl⟩ | ⟨g, cur, rfl, h1, h2, h3, h4, h5, h6⟩
  · obtain rfl : mm = 0 := by omega
    refine ⟨w, ?_, hw⟩
    have : subA none o 0 size = none := by unfold subA; split <;> rfl
    rw [this] at hx
    simp [execOp, resolve, invoke, builtin, ha.eval hx, Builtin.clear_, run_underlying hut]
  · by_cases hm0 : mm = 0
    · subst hm0
      refine ⟨w, ?_, hw⟩
      cases hsa : subA (some ⟨g, 0, none⟩) o cap size with
      | none => rw [hsa] at hx; simp [execOp, resolve, invoke, builtin, ha.eval hx, Builtin.clear_, run_underlying hut]
      | some b => rw [hsa] at hx; simp [execOp, resolve, invoke, builtin, ha.eval hx, Builtin.clear_, run_underlying hut]
    · have hsa : subA (some ⟨g, 0, none⟩) o cap size = some ⟨g, o * size, none⟩ := by
        unfold subA
        rw [if_neg (by omega), Option.map_some, Addr.add_lit, Nat.zero_add]
      rw [hsa] at hx
      have hlen : (Builtin.zeroCells z'.cells mm).toList.length = mm * size := by simp [Builtin.zeroCells, hzs]
      have hone : ∀ v ∈ (Builtin.zeroCells z'.cells mm).toList, v.oneCell' = true := by
        intro v hv
        simp only [Builtin.zeroCells, Array.toList_map, List.mem_map] at hv
        obtain ⟨j, _, rfl⟩ := hv
        have hlt : j % z'.cells.size < z'.cells.size := Nat.mod_lt _ (by omega)
        rw [getElem!_pos z'.cells (j % z'.cells.size) hlt]
        exact allOne_spec hz1 _ (by simp)
      have hov : o * size + (Builtin.zeroCells z'.cells mm).toList.length ≤ cur.size := by
        rw [hlen, h4, ← Nat.add_mul]; exact Nat.mul_le_mul_right _ hb.2
      have hrun := run_storeCells_at (P := P) g (o * size) e (Builtin.zeroCells z'.cells mm).toList 0 cur w h1 (by rw [Nat.add_zero]; exact hov) hone
      rw [Nat.add_zero] at hrun
      obtain ⟨L1, L2, hL⟩ : ∃ L1 L2, H = L1 ++ sl e size (some ⟨g, 0, none⟩) k cap xs :: L2 := List.append_of_mem hm
      refine ⟨_, ?_, hw.storeRow (k' := k) (xs' := xs) ⟨L1, L2, hL, hL⟩ rfl h1 h4 h2 h3 hov ?_ h6⟩
      · have hzv : (zeroValue e).run P w = .ok z' w := zero_run (by unfold zeroT; rw [hi]; exact hz') w
        obtain ⟨m', rfl⟩ : ∃ m', mm = m' + 1 := ⟨mm - 1, by omega⟩
        simp [execOp, resolve, invoke, builtin, ha.eval hx, Builtin.clear_, run_underlying hut, hzv, hrun]
      · have hko : k * size ≤ o * size := Nat.mul_le_mul_right _ hb.1
        have hoc : o * size ≤ cur.toList.length := by simp; omega
        rw [List.append_assoc, List.take_append_of_le_length (by rw [List.length_take]; omega), List.take_take, Nat.min_eq_left hko]
        exact h5

/-- What lies behind is moved forward within one row: append(s[:i], s[j:]...). -/
theorem VL_append_in (T : Tab P) {t e size bytes i j mm k cap c : Nat} {A : Option Addr} {xs : List Value} {K : List HP} (hx : evo env x = some (.slice A i cap)) (hy : evo env y = some (.slice (subA A j cap size) mm c)) (ht : look T.sl t = some (e, size, bytes)) (hn : Nat.ble (d + 1) n = true)
    (hu : Upd (sl e size A k cap xs) (sl e size A (i + mm) cap (xs.take (i * size) ++ xs.drop (j * size))) H K) (h1 : ∀ v ∈ xs, v.oneCell' = true) (hb : i ≤ j ∧ j ≤ k ∧ mm = k - j ∧ 0 < k)
    (h : VL P none n B w0 ops Q rest ((d, .slice A (i + mm) cap) :: env) K) :
    VL P none n B w0 ops Q (⟨some d, .call ⟨.builtin .append, #[x, y], #[t, t]⟩, ty, pos, after, none⟩ :: rest) env H := by
  obtain ⟨hut, inf, z, hi, hz, hzs, hsi, hbi, hs0, hb0⟩ := sliceT_spec (T.slic ht)
  refine VL_opE (fun v K' => v = .slice A (i + mm) cap ∧ K' = K) rfl rfl hn (fun a w ha hw => ?_) (by rintro _ _ ⟨rfl, rfl⟩; exact h)
  have hmem : sl e size A k cap xs ∈ H := by
    obtain ⟨L1, L2, rfl, _⟩ := hu
    simp
  rcases sl_open (hw.sl hmem) with ⟨rfl, e1, _⟩ | ⟨g, cur, rfl, g1, g2, g3, g4, g5, g6⟩
  · omega
  have hdl : (xs.drop (j * size)).length = mm * size := by rw [List.length_drop, g6, hb.2.2.1, Nat.sub_mul]
  have hij : i * size ≤ j * size := Nat.mul_le_mul_right _ hb.1
  have hjk : j * size ≤ k * size := Nat.mul_le_mul_right _ hb.2.1
  have hkc : k * size ≤ cap * size := Nat.mul_le_mul_right _ g2
  have hov : i * size + (xs.drop (j * size)).length ≤ cur.size := by rw [List.length_drop, g6, g4]; omega
  have hrun := run_storeCells_at (P := P) g (i * size) e (xs.drop (j * size)) 0 cur w g1 (by rw [Nat.add_zero]; exact hov) (fun v hv => h1 v (List.mem_of_mem_drop hv))
  rw [Nat.add_zero] at hrun
  refine ⟨_, K, _, ?_, hw.storeRow (k' := i + mm) (o := i * size) (vs := xs.drop (j * size)) hu rfl g1 g4 (by omega) g3 hov ?_ ?_, rfl, rfl⟩
  · have hf : (Builtin.firstCells size mm (.slice (subA (some ⟨g, 0, none⟩) j cap size) mm c)).run P w = .ok (xs.drop (j * size)).toArray w := by
      by_cases hcj : cap = j
      · have hm0 : mm = 0 := by omega
        have hnil : xs.drop (j * size) = [] := List.eq_nil_of_length_eq_zero (by rw [hdl, hm0]; simp)
        unfold subA
        rw [if_pos hcj, hnil]
        exact run_firstCells_some (P := P) (w := w) size mm _ mm c [] (by simp [hm0]) (by simp)
      · unfold subA
        rw [if_neg hcj, Option.map_some, Addr.add_lit, Nat.zero_add]
        refine run_firstCells_some (P := P) (w := w) size mm _ mm c _ hdl fun q v hq => ?_
        rw [List.getElem?_drop] at hq
        have h7 := (List.getElem?_eq_some_iff.1 hq).1
        rw [Addr.add_lit]
        simp only [World.cell?, g1]
        rw [← g5, List.getElem?_take] at hq
        by_cases hlt : j * size + q < k * size
        · rw [if_pos hlt] at hq
          simpa using hq
        · rw [if_neg hlt] at hq; cases hq
    have hneed : i + mm ≤ cap := by omega
    have hadd : (⟨g, 0, none⟩ : Addr).add (i * size) = ⟨g, i * size, none⟩ := by rw [Addr.add_lit, Nat.zero_add]
    simp [execOp, resolve, invoke, builtin, ha.eval hx, ha.eval hy, Builtin.append_, run_underlying hut, sizeOf, typeInfo, hi, hsi, Builtin.lenOf, hneed, hf, hadd, hrun]
  · have hxt : xs.take (i * size) = cur.toList.take (i * size) := by rw [← g5, List.take_take, Nat.min_eq_left (by omega)]
    rw [hxt]
    apply List.take_left'
    rw [List.length_append, List.length_take, Array.length_toList, hdl, Nat.add_mul]
    omega
  · rw [List.length_append, List.length_take, hdl, Nat.add_mul, g6]
    omega

/-! ### Elements of more cells -/

theorem VL_store_field (T : Tab P) {α : Type} {f : α → List Value} {l : List α} {t i q o e k cap : Nat} {b b' : α} {v : Value} {A : Option Addr} {K : List HP} (hx : evo env x = some (sptr A (i * q + o))) (hy : evo env y = some v) (h1 : v.oneCell' = true)
    (hu : Upd (sl e q A k cap (l.flatMap f)) (sl e q A k cap ((l.set i b').flatMap f)) H K) (hb : l[i]? = some b) (hv : f b' = (f b).set o v) (hq : ∀ a, (f a).length = q) (ho : Nat.blt o q = true) (ht : look T.sc t = some ())
    (h : VL P none n B w0 ops Q rest env K) : VL P none n B w0 ops Q (⟨none, .store t x y, ty, pos, after, none⟩ :: rest) env H := by
  have ho' : o < q := by simpa using ho
  have hi := (List.getElem?_eq_some_iff.1 hb).1
  refine VL_store_sl (xs := l.flatMap f) (e := e) (size := q) (k := k) (cap := cap) T hx hy h1 ?_ ht ?_ h
  · rw [flat_set hq ho' l i b b' hb hv]; exact hu
  · rw [length_flat hq]
    have : (i + 1) * q ≤ l.length * q := Nat.mul_le_mul_right _ hi
    rw [Nat.add_mul] at this
    omega
end
end Go.Eng

/- An engine for walks, part 13: four results, functions with bound receivers, maps of functions, slices against nil. -/
namespace Go.Eng
open Go.RowKit
open Go.ChangeMaps (setBlock)
section
variable {P : Program} {m : Mode} {n B : Nat} {w0 : World} {ops : Array Oper} {Q : Exit → Act → World → Prop} {rest : List Oper} {env : Env} {H : List HP} {d : Nat} {ty : TypeId} {pos : String} {after : Array Edge} {x y : Operand}

theorem VQ_retc4 (T : Tab P) {fn : Func} {Φ : Value → List HP → Prop} {p g k u s t rt : Nat} {x y z : Value} {cs : Array Value} {tt : TypeId} {fr : Nat × Nat} (hr : fn.results = #[.cell p rt, .tmp u, .tmp s, .tmp t]) (hp : get env p = some (.pointer (some ⟨g, 0, none⟩))) (hu : get env u = some x) (hs : get env s = some y) (ht' : get env t = some z)
    (hm : blk g (.cells cs tt fr) ∈ H) (ht : look T.ag rt = some k) (hk : cs.size = k) {H2 : List HP} (hH : ∀ w, St B w0 H w → St B w0 H2 w) (h : Φ (.tuple #[.agg cs, x, y, z]) H2) : VQ n B w0 (bodyPost P fn (Post B w0 Φ)) .ret env H := by
  refine ⟨fun a w ha hw => bodyPost_ret (v := .tuple #[.agg cs, x, y, z]) ?_ ha.defers ⟨_, H2, rfl, hH w hw, h⟩⟩
  have hp' := ha.slot p _ hp
  simp [results, hr, Array.getD_eq_getD_getElem?, hp', ha.slot u _ hu, ha.slot s _ hs, ha.slot t _ ht', asAddr, run_load_blk T (hw.blk hm).1 ht hk]

theorem VL_insNew {t kt et g clock : Nat} {es : Ents} {u : Operand} {k : Int} {v : Value} {K : List HP} (hx : evo env x = some (.map (some g))) (hy : evo env y = some (.int .i64 k)) (hv : evo env u = some v) (ht : mapT P t kt et = true)
    (hu : Upd (blk g (mobj es clock)) (blk g (mobj (es ++ [(k, v, clock)]) (clock + 1))) H K) (hk : mget es k = none)
    (h : VL P none n B w0 ops Q rest env K) : VL P none n B w0 ops Q (⟨none, .insert t x y u, ty, pos, after, none⟩ :: rest) env H := by
  obtain ⟨h1, h2⟩ := mapT_spec ht
  refine VL_skip rfl rfl (fun a w ha hw => ⟨setBlock w g (mobj (es ++ [(k, v, clock)]) (clock + 1)), ?_, hw.setBlock hu⟩) h
  have hb : w.heap[g]? = some (mobj es clock) := by
    obtain ⟨L1, L2, rfl, _⟩ := hu
    exact (hw.blk (by simp)).1
  have hb' := hb
  unfold mobj at hb
  simp [execOp, ha.eval hx, ha.eval hy, ha.eval hv, Instr.mapUpdate, run_underlying h1, getObj, Sem.run, hb, run_checkInt _ h2, MapKept.run_findKey h2 (findNow_none 0 hk), MapKept.run_setObj_map _ hb, setBlock, mobj, toE]

theorem VL_makeFuncB {fn : Fn} {bs : List Operand} {cs : List Value} (hc : Args env bs cs) (hn : Nat.ble (d + 1) n = true) (h : VL P none n B w0 ops Q rest ((d, .func fn cs.toArray #[]) :: env) H) :
    VL P none n B w0 ops Q (⟨some d, .makeFunc fn bs.toArray #[], ty, pos, after, none⟩ :: rest) env H := by
  refine VL_op rfl rfl hn (fun a w ha hw => ⟨w, ?_, hw⟩) h
  have hmap : bs.toArray.map a.eval = cs.toArray := by rw [List.map_toArray, map_evo ha _ _ hc]
  simp [execOp, Instr.makeFunc, hmap]

/-- A call of a function with bound arguments. -/
theorem VL_callb {f : Nat} {args : List Operand} {tys : Array TypeId} {vs bs : List Value} (Φ : Value → List HP → Prop) (hx : evo env x = some (.func (.func f) bs.toArray #[]))
    (hc : ∀ xs w, (callFunc f xs).run P w = .ok (.enter f xs) w) (hargs : Args env args vs) (hn : Nat.ble (d + 1) n = true)
    (hcall : ∀ w, St B w0 H w → Calls P f (bs ++ vs).toArray w (Post B w0 Φ))
    (h : ∀ v H', Φ v H' → VL P none n B w0 ops Q rest ((d, v) :: env) H') :
    VL P none n B w0 ops Q (⟨some d, .call ⟨.value x, args.toArray, tys⟩, ty, pos, after, none⟩ :: rest) env H := by
  refine ⟨fun a ha w hw => wpList_plain rfl fun K hK => ?_⟩
  have hmap : args.toArray.map a.eval = vs.toArray := by rw [List.map_toArray, map_evo ha _ _ hargs]
  have hrun : (execOp a.eval ⟨some d, .call ⟨.value x, args.toArray, tys⟩, ty, pos, after, none⟩).run P w = .ok (.enter f (bs ++ vs).toArray) w := by
    simp only [execOp, resolve, ha.eval hx, hmap, Deferred.ofValue, Sem.run_bind, Sem.run_pure, Result.andThen_ok, invoke]
    simpa using hc ((bs ++ vs).toArray) w
  unfold Oper.wp
  rw [hrun, Oper.upon_enter]
  refine (hcall w hw).mono ?_
  rintro e w' ⟨v, H', rfl, hst, hΦ⟩
  exact hK _ _ ((h v H' hΦ).run _ (ha.put (Nat.le_of_ble_eq_true hn) v) _ hst)

def isFn (P : Program) (t : TypeId) : Bool := match P.underlying t with | some (.func _ _ _) => true | _ => false
theorem isFn_spec {t : TypeId} (h : isFn P t = true) : ∃ a b c, P.underlying t = some (.func a b c) := by
  unfold isFn at h
  split at h
  · rename_i a b c hu; exact ⟨a, b, c, hu⟩
  · cases h
theorem VL_feql_no {xt yt : TypeId} {f : Fn} {b c : Array Value} (hx : evo env x = some (.func f b c)) (hn : Nat.ble (d + 1) n = true) (hu : isFn P xt = true)
    (h : VL P m n B w0 ops Q rest ((d, .bool false) :: env) H) : VL P m n B w0 ops Q (⟨some d, .binOp .eql xt x (.const .nilFunc) yt, ty, pos, after, none⟩ :: rest) env H := by
  obtain ⟨_, _, _, hu⟩ := isFn_spec hu
  refine VL_bin hx (y := .const .nilFunc) rfl hn (fun w => by simp [eqGuard]) (fun w => ?_) h
  simp only [binOp, Op.equal]
  rw [Sem.run_bind, show Op.maxDepth = 9999 + 1 from rfl]
  unfold Op.equalIn
  simp [run_underlying hu]
theorem VL_feql_yes {xt yt : TypeId} (hx : evo env x = some .nilFunc) (hn : Nat.ble (d + 1) n = true) (hu : isFn P xt = true)
    (h : VL P m n B w0 ops Q rest ((d, .bool true) :: env) H) : VL P m n B w0 ops Q (⟨some d, .binOp .eql xt x (.const .nilFunc) yt, ty, pos, after, none⟩ :: rest) env H := by
  obtain ⟨_, _, _, hu⟩ := isFn_spec hu
  refine VL_bin hx (y := .const .nilFunc) rfl hn (fun w => by simp [eqGuard]) (fun w => ?_) h
  simp only [binOp, Op.equal]
  rw [Sem.run_bind, show Op.maxDepth = 9999 + 1 from rfl]
  unfold Op.equalIn
  simp [run_underlying hu]

def isSl (P : Program) (t : TypeId) : Bool := match P.underlying t with | some (.slice _) => true | _ => false
theorem isSl_spec {t : TypeId} (h : isSl P t = true) : ∃ e, P.underlying t = some (.slice e) := by
  unfold isSl at h
  split at h
  · rename_i e hu; exact ⟨e, hu⟩
  · cases h
theorem VL_sleql0 {xt yt : TypeId} {A : Option Addr} {k cap : Nat} (hx : evo env x = some (.slice A k cap)) (hn : Nat.ble (d + 1) n = true) (hu : isSl P xt = true)
    (h : VL P m n B w0 ops Q rest ((d, .bool A.isNone) :: env) H) : VL P m n B w0 ops Q (⟨some d, .binOp .eql xt x (.const (.slice none 0 0)) yt, ty, pos, after, none⟩ :: rest) env H := by
  obtain ⟨e, hu⟩ := isSl_spec hu
  refine VL_bin hx (y := .const (.slice none 0 0)) rfl hn (fun w => by simp [eqGuard]) (fun w => ?_) h
  simp only [binOp, Op.equal]
  rw [Sem.run_bind, show Op.maxDepth = 9999 + 1 from rfl]
  unfold Op.equalIn
  cases A <;> simp [run_underlying hu]
end
end Go.Eng

/- An engine for walks, part 14: elements stored whole; slices that are not nil. -/
namespace Go.Eng
open Go.RowKit
section
variable {P : Program} {m : Mode} {n B : Nat} {w0 : World} {ops : Array Oper} {Q : Exit → Act → World → Prop} {rest : List Oper} {env : Env} {H : List HP} {d : Nat} {ty : TypeId} {pos : String} {after : Array Edge} {x y : Operand}

theorem flat_put {α : Type} {f : α → List Value} {q : Nat} (hq : ∀ a, (f a).length = q) : ∀ (l : List α) (i : Nat) (a : α), i < l.length → (l.flatMap f).take (i * q) ++ f a ++ (l.flatMap f).drop (i * q + q) = (l.set i a).flatMap f
  | [], i, a, h => by simp at h
  | b :: l, 0, a, _ => by
    rw [Nat.zero_mul, List.take_zero, List.nil_append, Nat.zero_add, List.flatMap_cons, List.drop_left' (hq b), List.set_cons_zero, List.flatMap_cons]
  | b :: l, i + 1, a, h => by
    have e1 : (i + 1) * q = q + i * q := by rw [Nat.add_mul]; omega
    have e2 : q + i * q + q = q + (i * q + q) := by omega
    have ih := flat_put hq l i a (by simpa using h)
    have hb := hq b
    rw [List.set_cons_succ, List.flatMap_cons, List.flatMap_cons, ← ih, e1, e2, List.take_append, List.drop_append, hb, List.take_of_length_le (by omega), List.drop_eq_nil_of_le (by omega), Nat.add_sub_cancel_left, Nat.add_sub_cancel_left, List.nil_append]
    simp [List.append_assoc]

theorem VL_store_elem (T : Tab P) {α : Type} {f : α → List Value} {l : List α} {t i q e k cap : Nat} {a : α} {vs : List Value} {A : Option Addr} {K : List HP} (hx : evo env x = some (sptr A (i * q))) (hy : evo env y = some (.agg vs.toArray)) (hv : f a = vs)
    (hu : Upd (sl e q A k cap (l.flatMap f)) (sl e q A k cap ((l.set i a).flatMap f)) H K) (hq : ∀ a, (f a).length = q) (h1 : allOne vs = true) (ht : look T.ag t = some q) (hq0 : Nat.blt 0 q = true) (hi : i < l.length)
    (h : VL P none n B w0 ops Q rest env K) : VL P none n B w0 ops Q (⟨none, .store t x y, ty, pos, after, none⟩ :: rest) env H := by
  subst hv
  have hmem : sl e q A k cap (l.flatMap f) ∈ H := by
    obtain ⟨L1, L2, rfl, _⟩ := hu
    simp
  have hq0' : 0 < q := by simpa using hq0
  refine VL_skip rfl rfl (fun ac w ha hw => ?_) h
  have hown := hw.sl hmem
  rcases sl_open hown with ⟨_, rfl, _, e4⟩ | ⟨g, cur, rfl, g1, g2, g3, g4, g5, g6⟩
  · have := congrArg List.length e4
    rw [length_flat hq] at this
    have h5 : 0 < l.length * q := Nat.mul_pos (by omega) hq0'
    simp at this
    omega
  · have hil : i * q + q ≤ l.length * q := by
      have : (i + 1) * q ≤ l.length * q := Nat.mul_le_mul_right _ hi
      rw [Nat.add_mul] at this; omega
    rw [length_flat hq] at g6
    have hkc : k * q ≤ cap * q := Nat.mul_le_mul_right _ g2
    have hov : i * q + (f a).length ≤ cur.size := by rw [hq, g4]; omega
    have hrun := run_storeCells_at (P := P) g (i * q) e (f a) 0 cur w g1 (by rw [Nat.add_zero]; exact hov) (allOne_spec h1)
    rw [Nat.add_zero] at hrun
    refine ⟨_, ?_, hw.storeRow (k' := k) (o := i * q) (vs := f a) hu rfl g1 g4 g2 g3 hov ?_ ?_⟩
    · rw [show sptr (some (⟨g, 0, none⟩ : Addr)) (i * q) = .pointer (some ⟨g, i * q, none⟩) by simp [sptr, Addr.add_lit]] at hx
      simp [execOp, ha.eval hx, ha.eval hy, Instr.storeAt, Instr.sureAddr, storeVar, Value.cells, run_sizeOf (aggT_size (T.aggs ht)), hq, hrun]
    · have hX : (cur.toList.take (i * q) ++ f a).length = i * q + q := by rw [List.length_append, List.length_take, Array.length_toList, hq]; omega
      rw [← flat_put hq l i a hi, ← g5, hq, List.take_append, hX, List.take_of_length_le (by omega), List.take_take, Nat.min_eq_left (by omega), List.drop_take]
    · rw [length_flat hq, List.length_set]; exact g6

/-- The address of an element of a slice that is not nil. -/
theorem VL_index_some (T : Tab P) {t k cap e size bytes : Nat} {a : Addr} {ki : IntKind} {i : Int} (hx : evo env x = some (.slice (some a) k cap)) (hy : evo env y = some (.int ki i)) (ht : look T.sl t = some (e, size, bytes)) (hn : Nat.ble (d + 1) n = true) (hi : 0 ≤ i ∧ i < k)
    (h : VL P m n B w0 ops Q rest ((d, sptr (some a) (i.toNat * size)) :: env) H) : VL P m n B w0 ops Q (⟨some d, .indexAddr t x y, ty, pos, after, none⟩ :: rest) env H := by
  obtain ⟨hut, inf, z', hinf, _, _, hsi, _⟩ := sliceT_spec (T.slic ht)
  refine VL_pure rfl rfl hn rfl (fun f w ha _ => ?_) h
  simp [execOp, ha.eval hx, ha.eval hy, Instr.indexAt, asIntOf, run_underlying hut, hi, sizeOf, typeInfo, hinf, hsi, sptr]

theorem VL_some {l : List Oper} {e size k cap : Nat} {A : Option Addr} {xs : List Value} (hm : sl e size A k cap xs ∈ H) (hk : 0 < k) (h : ∀ g, A = some ⟨g, 0, none⟩ → VL P none n B w0 ops Q l env H) : VL P none n B w0 ops Q l env H := by
  refine ⟨fun a ha w hw => ?_⟩
  rcases sl_open (hw.sl hm) with ⟨_, e1, _⟩ | ⟨g, _, rfl, _⟩
  · omega
  · exact (h g rfl).run a ha w hw
theorem VC_some {c : Code} {e size k cap : Nat} {A : Option Addr} {xs : List Value} (hm : sl e size A k cap xs ∈ H) (hk : 0 < k) (h : ∀ g, A = some ⟨g, 0, none⟩ → VC P n B w0 c Q env H) : VC P n B w0 c Q env H := by
  refine ⟨fun a w ha hw => ?_⟩
  rcases sl_open (hw.sl hm) with ⟨_, e1, _⟩ | ⟨g, _, rfl, _⟩
  · omega
  · exact (h g rfl).run a w ha hw
end
end Go.Eng

/- An engine for walks, part 15: functions with labels. -/
namespace Go.Eng
open Go.RowKit
section
variable {P : Program} {n B : Nat} {w0 : World} {Q : Exit → Act → World → Prop} {env : Env} {H : List HP}
theorem VC_scope {c : Code} (h : VC P n B w0 c (Exit.noGoto Q) env H) : VC P n B w0 (.scope c) Q env H := ⟨fun a w ha hw => wp_scope_straight (h.run a w ha hw)⟩
theorem VQ_scope_ret (h : VQ n B w0 Q .ret env H) : VQ n B w0 (Exit.noGoto Q) .ret env H := ⟨fun a w ha hw => h.run a w ha hw⟩
theorem VQ_scope_normal (h : VQ n B w0 Q .normal env H) : VQ n B w0 (Exit.noGoto Q) .normal env H := ⟨fun a w ha hw => h.run a w ha hw⟩
end
end Go.Eng

/- An engine for walks, part 16: regions that draw their order, whose last operations (also such that only read) come in a forced order. -/
namespace Go.Eng
open Go.RowKit
section
variable {P : Program} {n B : Nat} {w0 : World} {ops : Array Oper} {Q : Exit → Act → World → Prop} {rest : List Oper} {env : Env} {H : List HP}

def orderT (ops : Array Oper) : List Nat → Array Bool → Bool
  | [], listed => (Region.ready .any ops listed).isEmpty
  | i :: rest, listed => decide (Region.ready .any ops listed = [i]) && orderT ops rest (listed.setIfInBounds i true)
def orderH (ops : Array Oper) (last : List Nat) : List Nat → Array Bool → Bool
  | [], listed => orderT ops last listed
  | i :: rest, listed =>
    (match ops[i]? with
      | some o => if eff o then decide (Region.ready .any ops listed = [i]) else (Region.ready .any ops listed).contains i && Region.free .any ops listed i
      | none => false) && orderH ops last rest (listed.setIfInBounds i true)
def lastH (ops : Array Oper) (last : List Nat) : Bool :=
  last.all fun j => decide (j < ops.size) && (List.range ops.size).all fun i => last.contains i || (match ops[i]? with | some o => eff o | none => false) || ancB ops ops.size j i

theorem lastH_spec {last : List Nat} (h : lastH ops last = true) : (∀ j, last.contains j = true → ∃ o, ops[j]? = some o) ∧ ∀ i oi, ops[i]? = some oi → eff oi = false → last.contains i = false → ∀ j, last.contains j = true → ∃ f, ancB ops f j i = true := by
  refine ⟨fun j hj => ?_, fun i oi hi he hil j hj => ?_⟩
  · have h1 := List.all_eq_true.1 h j (by simpa using hj)
    simp only [Bool.and_eq_true, decide_eq_true_eq] at h1
    exact ⟨_, Array.getElem?_eq_getElem h1.1⟩
  · have h1 := List.all_eq_true.1 h j (by simpa using hj)
    simp only [Bool.and_eq_true] at h1
    have hlt : i < ops.size := (Array.getElem?_eq_some_iff.1 hi).1
    have h2 := List.all_eq_true.1 h1.2 i (List.mem_range.2 hlt)
    rw [hi, hil] at h2
    simp only [he, Bool.false_or] at h2
    exact ⟨_, h2⟩

theorem tail_soundH {S : World → Prop} {last : List Nat} (l : List Oper) (hl : ops = l.toArray) (hef : ∀ j, last.contains j = true → ∃ o, ops[j]? = some o) (hlo : ¬ LetsOut Q) :
    ∀ (o2 : List Nat) (listed : Array Bool) (a : Act) (w : World), (∀ j ∈ o2, last.contains j = true) → orderT ops o2 listed = true → wpList P ops Q (pickOps l o2) a w → wpAnyN P ops Q S last o2.length listed a w
  | [], listed, a, w, _, hB, h => ⟨by simpa [orderT] using hB, h⟩
  | i :: rest, listed, a, w, hin, hB, h => by
    simp only [orderT, Bool.and_eq_true, decide_eq_true_eq] at hB
    obtain ⟨h1, h2⟩ := hB
    obtain ⟨o, ho⟩ := hef i (hin i (by simp))
    have hget : nthO l i = o := nthO_get hl ho
    simp only [pickOps, hget] at h
    unfold wpList at h
    refine ⟨fun h0 => (by rw [h1] at h0; cases h0), fun k hk => ?_⟩
    rw [h1] at hk
    obtain rfl : k = i := by simpa using hk
    unfold wpOp
    simp only [ho]
    have hc : last.contains k = true := hin k (by simp)
    by_cases hw : Region.wanted o (yielded ops a.tmps) = true
    · rw [if_pos hw] at h ⊢
      rcases h with h | ⟨_, h⟩
      · exact .inl (Oper.wp_mono (fun a' w' h' => ⟨fun hf => (by rw [hc] at hf; cases hf), tail_soundH l hl hef hlo rest _ a' w' (fun j hj => hin j (by simp [hj])) h2 h'⟩) h)
      · exact (hlo h).elim
    · rw [if_neg hw] at h ⊢
      exact ⟨fun hf => (by rw [hc] at hf; cases hf), tail_soundH l hl hef hlo rest _ _ w (fun j hj => hin j (by simp [hj])) h2 h⟩

theorem held_soundH {S : World → Prop} {last : List Nat} (hs : Region.noSelect ops = true) (hQ : ∀ c (a : Act) (w : World), ¬ Q (.panic c) a w) (hlo : ¬ LetsOut Q) (l : List Oper) (hl : ops = l.toArray) (hlast : lastH ops last = true) :
    ∀ (o1 : List Nat) (listed : Array Bool) (a : Act) (w : World), Closed ops listed → (∀ j ∈ o1, last.contains j = false) → orderH ops last o1 listed = true → S w → wpHeld P ops (TailQ P ops Q (pickOps l last)) S (pickOps l o1) a w →
      wpAnyN P ops Q S last (o1 ++ last).length listed a w
  | [], listed, a, w, _, _, hB, _, h => tail_soundH l hl (lastH_spec hlast).1 hlo last listed a w (fun j hj => by simpa using hj) hB h
  | i :: rest, listed, a, w, hcl, hno, hB, hS, h => by
    simp only [orderH, Bool.and_eq_true] at hB
    obtain ⟨h1, h2⟩ := hB
    have hno' : ∀ j ∈ rest, last.contains j = false := fun j hj => hno j (by simp [hj])
    cases ho : ops[i]? with
    | none => rw [ho] at h1; cases h1
    | some o =>
      rw [ho] at h1
      have hget : nthO l i = o := nthO_get hl ho
      simp only [pickOps, hget] at h
      by_cases he : eff o = true
      · simp only [he, if_true, decide_eq_true_eq] at h1
        unfold wpHeld at h
        rw [if_pos he] at h
        refine ⟨fun h0 => (by rw [h1] at h0; cases h0), fun k hk => ?_⟩
        have hk' := hk
        rw [h1] at hk
        obtain rfl : k = i := by simpa using hk
        unfold wpOp
        simp only [ho]
        by_cases hw : Region.wanted o (yielded ops a.tmps) = true
        · rw [if_pos hw] at h ⊢
          refine .inl (Oper.wp_mono_noQ' (fun c a w h => by cases h) (Oper.wp_mono (fun a' w' h' => ⟨fun _ => h'.1, held_soundH hs hQ hlo l hl hlast rest _ a' w' (hcl.set hk') hno' h2 h'.1 h'.2⟩) h))
        · rw [if_neg hw] at h ⊢
          exact ⟨fun _ => hS, held_soundH hs hQ hlo l hl hlast rest _ _ w (hcl.set hk') hno' h2 hS h⟩
      · simp only [he] at h1
        simp only [Bool.false_eq_true, if_false, Bool.and_eq_true] at h1
        unfold wpHeld at h
        rw [if_neg he] at h
        obtain ⟨v, hy, h3⟩ := h
        have hr : i ∈ Region.ready .any ops listed := by simpa using h1.1
        exact wpAnyN_first ho (Region.noSelect_spec hs) hQ ((lastH_spec hlast).2 i o ho (by simpa using he) (hno i (by simp))) (hno i (by simp)) _ listed a w hcl (Region.free_spec ho h1.2) hr hy hS (held_soundH hs hQ hlo l hl hlast rest _ _ w (hcl.set hr) hno' h2 hS h3)

/-- As VC_held, but the last operations may be any that come in a forced order, behind all those that only read. -/
theorem VC_heldH {id : Nat} {l : List Oper} (o1 last : List Nat) (mask : List Bool) {Hc F : List HP} (hm : P.follows .mixedOrders = true)
    (hB : (Region.noSelect l.toArray && decide ((o1 ++ last).length = l.toArray.size) && lastH l.toArray last && (o1.all fun j => !last.contains j) && orderH l.toArray last o1 (Array.replicate l.toArray.size false)) = true)
    (hsp : Split mask H Hc F) {l1 l2 : List Oper} (hl1 : pickOps l o1 = l1) (hl2 : pickOps l last = l2) (h : VL P (some (some F)) n B w0 l.toArray (TailQ P l.toArray (Only Q) l2) l1 env Hc) : VC P n B w0 (.region id l.toArray true) Q env H := by
  simp only [Bool.and_eq_true, decide_eq_true_eq] at hB
  obtain ⟨⟨⟨⟨h1, h2⟩, h3⟩, h4⟩, h5⟩ := hB
  refine ⟨fun a w ha hw => wp_mono (Q := Only Q) ?_ fun e a w h => by cases e <;> first | exact h | cases h⟩
  have hst : St B w0 (Hc ++ F) w.drew := (hw.perm (split_perm hsp)).drew
  have hr : wpHeld P l.toArray (TailQ P l.toArray (Only Q) l2) (St B w0 Hc) l1 a w.drew := h.run a ha w.drew hst
  rw [← hl1, ← hl2] at hr
  have := held_soundH (S := St B w0 Hc) h1 (fun c a w h => h) (by rintro ⟨_, _, h⟩; exact h) l rfl h3 o1 _ a w.drew (closed_none _ _) (fun j hj => by simpa using List.all_eq_true.1 h4 j hj) h5 hst.prefix_ hr
  rw [h2] at this
  exact wp_region_any hm (wpAny_of_N _ _ _ _ this)
end
end Go.Eng

/- An engine for walks: values behind interfaces. -/
namespace Go.Eng
open Go.RowKit
section
variable {P : Program} {m : Mode} {n B d : Nat} {w0 : World} {ops : Array Oper} {Q : Exit → Act → World → Prop} {rest : List Oper} {env : Env} {H : List HP} {ty : TypeId} {pos : String} {after : Array Edge}

def notIface (P : Program) (t : TypeId) : Bool := match P.underlying t with | some (.interface _) => false | some _ => true | none => false
theorem VL_makeIface {t : TypeId} {x : Operand} {v : Value} (hx : evo env x = some v) (hu : notIface P t = true) (hn : Nat.ble (d + 1) n = true)
    (h : VL P none n B w0 ops Q rest ((d, .iface t v) :: env) H) : VL P none n B w0 ops Q (⟨some d, .makeInterface t x, ty, pos, after, none⟩ :: rest) env H := by
  refine VL_op rfl rfl hn (fun a w ha hw => ⟨w, ?_, hw⟩) h
  unfold notIface at hu
  cases ht : P.underlying t with
  | none => rw [ht] at hu; cases hu
  | some u =>
    rw [ht] at hu
    cases u <;> first | (cases hu; done) | simp [execOp, ha.eval hx, Instr.makeInterface, run_underlying ht]
theorem VL_assertOk {t xt : TypeId} {x : Operand} {v : Value} (hx : evo env x = some (.iface t v)) (hu : notIface P t = true) (hn : Nat.ble (d + 1) n = true)
    (h : VL P none n B w0 ops Q rest ((d, .tuple #[v, .bool true]) :: env) H) : VL P none n B w0 ops Q (⟨some d, .typeAssert x xt t true, ty, pos, after, none⟩ :: rest) env H := by
  refine VL_op rfl rfl hn (fun a w ha hw => ⟨w, ?_, hw⟩) h
  unfold notIface at hu
  cases ht : P.underlying t with
  | none => rw [ht] at hu; cases hu
  | some u =>
    rw [ht] at hu
    cases u <;> first | (cases hu; done) | simp [execOp, ha.eval hx, Instr.typeAssert, run_underlying ht]

theorem nilchk_some (x t : TypeId) (a : Addr) (s u : String) : Builtin.ssaWrapNilChk_ #[x] t #[.pointer (some a), strVal s, strVal u] = pure (.pointer (some a)) := rfl
/-- Which function a method of a pointer is that has a value for its receiver: the value is loaded. -/
theorem run_method_val {k f : Nat} {t elem : TypeId} {name : String} {info : TypeInfo} {mm : Method} {a : Addr} {w : World} (hi : P.info? t = some info) (hf : info.methods.find? (fun x => x.name == name) = some mm) (hp : mm.path = #[]) (hfu : mm.func = some (f, false)) (hu : P.underlying t = some (.pointer elem)) :
    (method (k + 1) t (.pointer (some a)) name).run P w = ((loadVar elem a).run P w).andThen fun v w => .ok (f, v) w := by
  simp [method, typeInfo, hi, hf, hp, follow, hfu, receiverAt, Place.get, run_underlying hu, nilchk_some, asAddr]
def methB (P : Program) (t : TypeId) (name : String) (f : Nat) (elem : TypeId) : Bool :=
  match P.info? t with
  | some info => (match info.methods.find? (fun x => x.name == name) with | some mm => mm.path == #[] && mm.func == some (f, false) | none => false) && (match P.underlying t with | some (.pointer e) => e == elem | _ => false)
  | none => false
theorem run_methB {k f : Nat} {t elem : TypeId} {name : String} {a : Addr} {w : World} (h : methB P t name f elem = true) :
    (method (k + 1) t (.pointer (some a)) name).run P w = ((loadVar elem a).run P w).andThen fun v w => .ok (f, v) w := by
  unfold methB at h
  cases hi : P.info? t with
  | none => rw [hi] at h; cases h
  | some info =>
    rw [hi] at h
    simp only [Bool.and_eq_true] at h
    obtain ⟨h1, h2⟩ := h
    cases hf : info.methods.find? (fun x => x.name == name) with
    | none => rw [hf] at h1; cases h1
    | some mm =>
      rw [hf] at h1
      simp only [Bool.and_eq_true, beq_iff_eq] at h1
      cases hu : P.underlying t with
      | none => rw [hu] at h2; cases h2
      | some d =>
        rw [hu] at h2
        cases d <;> first | (cases h2; done) | skip
        simp only [beq_iff_eq] at h2
        subst h2
        exact run_method_val hi hf h1.1 h1.2 hu
/-- A call through an interface. -/
theorem VL_invoke {f : Nat} {t : TypeId} {x : Operand} {name : String} {args : List Operand} {tys : Array TypeId} {vs : List Value} {v0 r : Value} (Φ : Value → List HP → Prop) (hx : evo env x = some (.iface t v0))
    (hm : ∀ w, St B w0 H w → (method (P.types.size + Made.depth) t v0 name).run P w = .ok (f, r) w)
    (hc : ∀ xs w, (callFunc f xs).run P w = .ok (.enter f xs) w) (hargs : Args env args vs) (hn : Nat.ble (d + 1) n = true)
    (hcall : ∀ w, St B w0 H w → Calls P f (r :: vs).toArray w (Post B w0 Φ))
    (h : ∀ v H', Φ v H' → VL P none n B w0 ops Q rest ((d, v) :: env) H') :
    VL P none n B w0 ops Q (⟨some d, .call ⟨.invoke x name, args.toArray, tys⟩, ty, pos, after, none⟩ :: rest) env H := by
  refine ⟨fun a ha w hw => wpList_plain rfl fun K hK => ?_⟩
  unfold Oper.wp
  have hmap : args.toArray.map a.eval = vs.toArray := by rw [List.map_toArray, map_evo ha _ _ hargs]
  have hrun : (execOp a.eval ⟨some d, .call ⟨.invoke x name, args.toArray, tys⟩, ty, pos, after, none⟩).run P w = .ok (.enter f (r :: vs).toArray) w := by
    simp only [execOp, resolve, ha.eval hx, hmap, Sem.run_bind, Sem.run_pure, Result.andThen_ok, invoke]
    have e1 : (#[Value.iface t v0] ++ vs.toArray)[0]? = some (.iface t v0) := by simp
    have e2 : (#[Value.iface t v0] ++ vs.toArray).extract 1 (#[Value.iface t v0] ++ vs.toArray).size = vs.toArray := by simp
    have e3 : #[r] ++ vs.toArray = (r :: vs).toArray := by simp
    simp only [e1, e2, callMethod, Sem.run_bind, run_program, hm w hw, Result.andThen_ok, e3, hc]
  rw [hrun, Oper.upon_enter]
  refine (hcall w hw).mono ?_
  rintro e w' ⟨v, H', rfl, hst, hΦ⟩
  exact hK _ _ ((h v H' hΦ).run _ (ha.put (Nat.le_of_ble_eq_true hn) v) _ hst)
theorem VL_invoket {f : Nat} {t : TypeId} {x : Operand} {name : String} {args : List Operand} {tys : Array TypeId} {vs : List Value} {v0 r v : Value} (hx : evo env x = some (.iface t v0))
    (hm : ∀ w, St B w0 H w → (method (P.types.size + Made.depth) t v0 name).run P w = .ok (f, r) w)
    (hc : ∀ xs w, (callFunc f xs).run P w = .ok (.enter f xs) w) (hargs : Args env args vs) (hn : Nat.ble (d + 1) n = true)
    (hcall : ∀ w, St B w0 H w → Calls P f (r :: vs).toArray w (Post B w0 fun u K => u = v ∧ K = H))
    (h : VL P none n B w0 ops Q rest ((d, v) :: env) H) :
    VL P none n B w0 ops Q (⟨some d, .call ⟨.invoke x name, args.toArray, tys⟩, ty, pos, after, none⟩ :: rest) env H :=
  VL_invoke _ hx hm hc hargs hn hcall (by rintro _ _ ⟨rfl, rfl⟩; exact h)
end
end Go.Eng

/- An engine for walks, part 18: regions that draw their order, in which mere moves may come between the last operations. -/
namespace Go.Eng
open Go.RowKit
section
variable {P : Program} {n B : Nat} {w0 : World} {ops : Array Oper} {Q : Exit → Act → World → Prop} {rest : List Oper} {env : Env} {H : List HP}

theorem wpAnyN_firstM {S : World → Prop} {last : List Nat} {i : Nat} {oi : Oper} {v : Value} (hi : ops[i]? = some oi) (hsel : ∀ (j : Nat) (o : Oper) cs b, ops[j]? = some o → o.op ≠ .select cs b)
    (hQ : ∀ c (a : Act) (w : World), ¬ Q (.panic c) a w) (hil : last.contains i = true) :
    ∀ (fuel : Nat) (listed : Array Bool) (a : Act) (w : World), Closed ops listed →
      (∀ j oj, ops[j]? = some oj → j ≠ i → listed.getD j true = false → (∀ e ∈ oj.after, Region.binds .any e = true → e.on ≠ i) → oi.apart ops oj = true) →
      i ∈ Region.ready .any ops listed → YieldsIf P ops (fun _ => True) oi v a →
      wpAnyN P ops Q S last fuel (listed.setIfInBounds i true) (a.put oi.dst v) w → wpAnyN P ops Q S last (fuel + 1) listed a w := by
  intro fuel
  have hno : ¬ last.contains i = false := by rw [hil]; intro h; cases h
  induction fuel with
  | zero =>
    intro listed a w _ _ hr hy H
    refine ⟨fun h => (by rw [h] at hr; cases hr), fun j hj => ?_⟩
    by_cases hji : j = i
    · subst hji; exact hy.wpOp hi trivial ⟨fun h => absurd h hno, H⟩
    · have := ready_mono hj hji
      rw [H.1] at this
      cases this
  | succ fuel ih =>
    intro listed a w hcl hfree hr hy H
    refine ⟨fun h => (by rw [h] at hr; cases hr), fun j hj => ?_⟩
    by_cases hji : j = i
    · subst hji; exact hy.wpOp hi trivial ⟨fun h => absurd h hno, H⟩
    · have h1 := H.2 j (ready_mono hj hji)
      obtain ⟨hjun, oj, hoj, hall⟩ := mem_ready.1 hj
      have hun := (mem_ready.1 hr).1
      have hun' : listed.getD i false = false := by
        rcases Nat.lt_or_ge i listed.size with h' | h'
        · simp [h'] at hun ⊢; exact hun
        · simp [Array.getElem?_eq_none h'] at hun
      have hnot : ∀ e ∈ oj.after, Region.binds .any e = true → e.on ≠ i := fun e he hb heq => by
        have h2 := hall e he hb
        rw [heq, hun'] at h2
        cases h2
      have h2 := wpOp_putIf hoj (hfree j oj hoj hji hjun hnot) (fun cs b => hsel i oi cs b hi) (fun cs b => hsel j oj cs b hoj) (fun c a w h => (hQ c _ w h).elim) hy h1
      have hfree' : ∀ k ok, ops[k]? = some ok → k ≠ i → (listed.setIfInBounds j true).getD k true = false →
          (∀ e ∈ ok.after, Region.binds .any e = true → e.on ≠ i) → oi.apart ops ok = true := fun k ok hk hki hu hno => by
        refine hfree k ok hk hki ?_ hno
        by_cases hjk : j = k
        · subst hjk; exact hjun
        · rw [getD_set_ne true hjk] at hu; exact hu
      refine wpOp_mono (fun a' w' h3 => ⟨h3.2.1, ih (listed.setIfInBounds j true) a' w' (hcl.set hj) hfree' (ready_mono hr (Ne.symm hji)) h3.1 ?_⟩) h2
      rw [Array.setIfInBounds_comm _ _ hji]
      exact h3.2.2

theorem wpAnyN_firstL {S : World → Prop} {last : List Nat} {i : Nat} {oi : Oper} {v : Value} (hi : ops[i]? = some oi) (hsel : ∀ (j : Nat) (o : Oper) cs b, ops[j]? = some o → o.op ≠ .select cs b)
    (hQ : ∀ c (a : Act) (w : World), ¬ Q (.panic c) a w) (hil : last.contains i = false) :
    ∀ (fuel : Nat) (listed : Array Bool) (a : Act) (w : World), Closed ops listed → (∀ j, last.contains j = true → listed.getD j false = true ∨ ∃ f, ancB ops f j i = true) →
      (∀ j oj, ops[j]? = some oj → j ≠ i → listed.getD j true = false → (∀ e ∈ oj.after, Region.binds .any e = true → e.on ≠ i) → oi.apart ops oj = true) →
      i ∈ Region.ready .any ops listed → YieldsIf P ops S oi v a → S w →
      wpAnyN P ops Q S last fuel (listed.setIfInBounds i true) (a.put oi.dst v) w → wpAnyN P ops Q S last (fuel + 1) listed a w := by
  intro fuel
  induction fuel with
  | zero =>
    intro listed a w _ _ _ hr hy hS H
    refine ⟨fun h => (by rw [h] at hr; cases hr), fun j hj => ?_⟩
    by_cases hji : j = i
    · subst hji; exact hy.wpOp hi hS ⟨fun _ => hS, H⟩
    · have := ready_mono hj hji
      rw [H.1] at this
      cases this
  | succ fuel ih =>
    intro listed a w hcl hlast hfree hr hy hS H
    refine ⟨fun h => (by rw [h] at hr; cases hr), fun j hj => ?_⟩
    by_cases hji : j = i
    · subst hji; exact hy.wpOp hi hS ⟨fun _ => hS, H⟩
    · have h1 := H.2 j (ready_mono hj hji)
      obtain ⟨hjun, oj, hoj, hall⟩ := mem_ready.1 hj
      have hun := (mem_ready.1 hr).1
      have hun' : listed.getD i false = false := by
        rcases Nat.lt_or_ge i listed.size with h' | h'
        · simp [h'] at hun ⊢; exact hun
        · simp [Array.getElem?_eq_none h'] at hun
      have hnl : last.contains j = false := by
        cases hc : last.contains j with
        | false => rfl
        | true =>
          rcases hlast j hc with h4 | ⟨f, hf⟩
          · have h5 : listed.getD j true = true := by
              rcases Nat.lt_or_ge j listed.size with h' | h'
              · simp [h'] at h4 ⊢; exact h4
              · simp [Array.getElem?_eq_none h']
            rw [h5] at hjun; cases hjun
          · have := anc_listed hcl f j i (fun ok hk e he hb => by
              obtain rfl : ok = oj := Option.some.inj (hk.symm.trans hoj)
              exact hall e he hb) hf
            rw [hun'] at this
            cases this
      have hnot : ∀ e ∈ oj.after, Region.binds .any e = true → e.on ≠ i := fun e he hb heq => by
        have h2 := hall e he hb
        rw [heq, hun'] at h2
        cases h2
      have h2 := wpOp_putIf hoj (hfree j oj hoj hji hjun hnot) (fun cs b => hsel i oi cs b hi) (fun cs b => hsel j oj cs b hoj) (fun c a w h => (hQ c _ w h).elim) hy h1
      have hfree' : ∀ k ok, ops[k]? = some ok → k ≠ i → (listed.setIfInBounds j true).getD k true = false →
          (∀ e ∈ ok.after, Region.binds .any e = true → e.on ≠ i) → oi.apart ops ok = true := fun k ok hk hki hu hno => by
        refine hfree k ok hk hki ?_ hno
        by_cases hjk : j = k
        · subst hjk; exact hjun
        · rw [getD_set_ne true hjk] at hu; exact hu
      refine wpOp_mono (fun a' w' h3 => ⟨fun _ => h3.2.1 hnl, ih (listed.setIfInBounds j true) a' w' (hcl.set hj) (fun k hk => ?_) hfree' (ready_mono hr (Ne.symm hji)) h3.1 (h3.2.1 hnl) ?_⟩) h2
      · rcases hlast k hk with h4 | h4
        · left
          by_cases hjk : j = k
          · subst hjk
            rcases Nat.lt_or_ge j listed.size with h' | h'
            · simp [h']
            · simp [Array.getElem?_eq_none h'] at hjun
          · rw [getD_set_ne false hjk]; exact h4
        · exact .inr h4
      · rw [Array.setIfInBounds_comm _ _ hji]
        exact h3.2.2

def isMove (o : Oper) : Bool := match o.op with | .move _ => true | _ => false
theorem move_free {S : World → Prop} {o : Oper} {v : Value} {a : Act} {w : World} (hm : isMove o = true) (hy : YieldsIf P ops S o v a) (hS : S w) : YieldsIf P ops (fun _ => True) o v a := by
  rcases hy with ⟨h1, h2⟩ | h
  · refine .inl ⟨h1, fun w' _ => ?_⟩
    have h3 := h2 w hS
    unfold isMove at hm
    cases hop : o.op <;> rw [hop] at hm <;> first | (cases hm; done) | skip
    rename_i x
    simp only [execOp, hop, Sem.run_pure] at h3 ⊢
    injection h3 with h3 h4
    rw [h3]
  · exact .inr h

def orderG (ops : Array Oper) (last tail : List Nat) : List Nat → Array Bool → Bool
  | [], listed => orderT ops tail listed
  | i :: rest, listed =>
    (match ops[i]? with
      | some o =>
        if last.contains i then isMove o && !eff o && (Region.ready .any ops listed).contains i && Region.free .any ops listed i
        else if eff o then decide (Region.ready .any ops listed = [i])
        else (Region.ready .any ops listed).contains i && Region.free .any ops listed i && last.all fun j => listed.getD j false || ancB ops ops.size j i
      | none => false) && orderG ops last tail rest (listed.setIfInBounds i true)

theorem held_soundG {S : World → Prop} {last tail : List Nat} (hs : Region.noSelect ops = true) (hQ : ∀ c (a : Act) (w : World), ¬ Q (.panic c) a w) (hlo : ¬ LetsOut Q) (l : List Oper) (hl : ops = l.toArray) (htl : ∀ j ∈ tail, last.contains j = true) (hex : ∀ j, last.contains j = true → ∃ o, ops[j]? = some o) :
    ∀ (o1 : List Nat) (listed : Array Bool) (a : Act) (w : World), Closed ops listed → orderG ops last tail o1 listed = true → S w → wpHeld P ops (TailQ P ops Q (pickOps l tail)) S (pickOps l o1) a w →
      wpAnyN P ops Q S last (o1 ++ tail).length listed a w
  | [], listed, a, w, _, hB, _, h => tail_soundH l hl hex hlo tail listed a w htl hB h
  | i :: rest, listed, a, w, hcl, hB, hS, h => by
    simp only [orderG, Bool.and_eq_true] at hB
    obtain ⟨h1, h2⟩ := hB
    cases ho : ops[i]? with
    | none => rw [ho] at h1; cases h1
    | some o =>
      rw [ho] at h1
      have hget : nthO l i = o := nthO_get hl ho
      simp only [pickOps, hget] at h
      by_cases hla : last.contains i = true
      · simp only [hla, if_true, Bool.and_eq_true, Bool.not_eq_true'] at h1
        obtain ⟨⟨⟨h1, he⟩, h3⟩, h4⟩ := h1
        unfold wpHeld at h
        rw [if_neg (by rw [he]; simp)] at h
        obtain ⟨v, hy, h5⟩ := h
        have hr : i ∈ Region.ready .any ops listed := by simpa using h3
        exact wpAnyN_firstM ho (Region.noSelect_spec hs) hQ hla _ listed a w hcl (Region.free_spec ho h4) hr (move_free h1 hy hS) (held_soundG hs hQ hlo l hl htl hex rest _ _ w (hcl.set hr) h2 hS h5)
      · have hla' : last.contains i = false := Bool.eq_false_iff.2 hla
        simp only [hla', Bool.false_eq_true, if_false] at h1
        by_cases he : eff o = true
        · simp only [he, if_true, decide_eq_true_eq] at h1
          unfold wpHeld at h
          rw [if_pos he] at h
          refine ⟨fun h0 => (by rw [h1] at h0; cases h0), fun k hk => ?_⟩
          have hk' := hk
          rw [h1] at hk
          obtain rfl : k = i := by simpa using hk
          unfold wpOp
          simp only [ho]
          by_cases hw : Region.wanted o (yielded ops a.tmps) = true
          · rw [if_pos hw] at h ⊢
            refine .inl (Oper.wp_mono_noQ' (fun c a w h => by cases h) (Oper.wp_mono (fun a' w' h' => ⟨fun _ => h'.1, held_soundG hs hQ hlo l hl htl hex rest _ a' w' (hcl.set hk') h2 h'.1 h'.2⟩) h))
          · rw [if_neg hw] at h ⊢
            exact ⟨fun _ => hS, held_soundG hs hQ hlo l hl htl hex rest _ _ w (hcl.set hk') h2 hS h⟩
        · simp only [he, Bool.false_eq_true, if_false, Bool.and_eq_true] at h1
          obtain ⟨⟨h3, h4⟩, h6⟩ := h1
          unfold wpHeld at h
          rw [if_neg he] at h
          obtain ⟨v, hy, h5⟩ := h
          have hr : i ∈ Region.ready .any ops listed := by simpa using h3
          refine wpAnyN_firstL ho (Region.noSelect_spec hs) hQ hla' _ listed a w hcl (fun j hj => ?_) (Region.free_spec ho h4) hr hy hS (held_soundG hs hQ hlo l hl htl hex rest _ _ w (hcl.set hr) h2 hS h5)
          have h7 := List.all_eq_true.1 h6 j (by simpa using hj)
          simp only [Bool.or_eq_true] at h7
          rcases h7 with h7 | h7
          · exact .inl h7
          · exact .inr ⟨_, h7⟩

/-- As VC_heldH; mere moves (listed first) may also come between the last ones. -/
theorem VC_heldM {id : Nat} {l : List Oper} (o1 last tail : List Nat) (mask : List Bool) {Hc F : List HP} (hm : P.follows .mixedOrders = true)
    (hB : (Region.noSelect l.toArray && decide ((o1 ++ tail).length = l.toArray.size) && (tail.all fun j => last.contains j) && (last.all fun j => decide (j < l.toArray.size)) && orderG l.toArray last tail o1 (Array.replicate l.toArray.size false)) = true)
    (hsp : Split mask H Hc F) {l1 l2 : List Oper} (hl1 : pickOps l o1 = l1) (hl2 : pickOps l tail = l2) (h : VL P (some (some F)) n B w0 l.toArray (TailQ P l.toArray (Only Q) l2) l1 env Hc) : VC P n B w0 (.region id l.toArray true) Q env H := by
  simp only [Bool.and_eq_true, decide_eq_true_eq] at hB
  obtain ⟨⟨⟨⟨h1, h2⟩, h3⟩, h4⟩, h5⟩ := hB
  refine ⟨fun a w ha hw => wp_mono (Q := Only Q) ?_ fun e a w h => by cases e <;> first | exact h | cases h⟩
  have hst : St B w0 (Hc ++ F) w.drew := (hw.perm (split_perm hsp)).drew
  have hr : wpHeld P l.toArray (TailQ P l.toArray (Only Q) l2) (St B w0 Hc) l1 a w.drew := h.run a ha w.drew hst
  rw [← hl1, ← hl2] at hr
  have := held_soundG (S := St B w0 Hc) h1 (fun c a w h => h) (by rintro ⟨_, _, h⟩; exact h) l rfl (fun j hj => List.all_eq_true.1 h3 j hj) (fun j hj => ⟨_, Array.getElem?_eq_getElem (by
    have := List.all_eq_true.1 h4 j (by simpa using hj)
    simpa using this)⟩) o1 _ a w.drew (closed_none _ _) h5 hst.prefix_ hr
  rw [h2] at this
  exact wp_region_any hm (wpAny_of_N _ _ _ _ this)
end
end Go.Eng

/- An engine for walks, part 19: copy into a row of one's own. -/
namespace Go.Eng
open Go.RowKit
section
variable {P : Program} {m : Mode} {n B d : Nat} {w0 : World} {ops : Array Oper} {Q : Exit → Act → World → Prop} {rest : List Oper} {env : Env} {H : List HP} {ty : TypeId} {pos : String} {after : Array Edge}

theorem seg_take {α : Type} (l cs : List α) (o k : Nat) (h : o + cs.length ≤ k) (hk : k ≤ l.length) : (l.take o ++ cs ++ l.drop (o + cs.length)).take k = (l.take k).take o ++ cs ++ (l.take k).drop (o + cs.length) := by
  have hA : (l.take o ++ cs).length = o + cs.length := by rw [List.length_append, List.length_take]; omega
  rw [List.take_append, hA, List.take_of_length_le (by omega), List.take_take, Nat.min_eq_left (by omega), List.drop_take]
theorem subA_some {g o cap : Nat} (h : cap ≠ o) : subA (some ⟨g, 0, none⟩) o cap 1 = some ⟨g, o, none⟩ := by
  unfold subA
  rw [if_neg h, Option.map_some, Addr.add_lit, Nat.zero_add, Nat.mul_one]
theorem VL_copy (T : Tab P) {t e bytes g o k cap kd cd mm c2 : Nat} {x y : Operand} {A2 : Option Addr} {xs ys : List Value} {K : List HP} (hx : evo env x = some (.slice (some ⟨g, o, none⟩) kd cd)) (hy : evo env y = some (.slice A2 mm c2)) (hr : Rd B w0 H A2 ys)
    (hu : Upd (sl e 1 (some ⟨g, 0, none⟩) k cap xs) (sl e 1 (some ⟨g, 0, none⟩) k cap (xs.take o ++ ys.take (min mm kd) ++ xs.drop (o + min mm kd))) H K) (ht : look T.sl t = some (e, 1, bytes)) (hn : Nat.ble (d + 1) n = true) (h1 : ∀ v ∈ ys, v.oneCell' = true) (hb : o + kd ≤ k ∧ min mm kd ≤ ys.length ∧ 0 < min mm kd)
    (h : VL P none n B w0 ops Q rest ((d, .int .i64 (min mm kd : Nat)) :: env) K) :
    VL P none n B w0 ops Q (⟨some d, .call ⟨.builtin .copy, #[x, y], #[t, t]⟩, ty, pos, after, none⟩ :: rest) env H := by
  obtain ⟨hut, inf, z, hi, hz, hzs, hsi, hbi, hs0, hb0⟩ := sliceT_spec (T.slic ht)
  refine VL_opE (fun v K' => v = .int .i64 (min mm kd : Nat) ∧ K' = K) rfl rfl hn (fun a w ha hw => ?_) (by rintro _ _ ⟨rfl, rfl⟩; exact h)
  have hmem : sl e 1 (some ⟨g, 0, none⟩) k cap xs ∈ H := by
    obtain ⟨L1, L2, rfl, _⟩ := hu
    simp
  rcases sl_open (hw.sl hmem) with ⟨e0, _⟩ | ⟨g', cur, e0, g1, g2, g3, g4, g5, g6⟩
  · cases e0
  injection e0 with e0
  injection e0 with e0
  subst e0
  rw [Nat.mul_one] at g4 g5 g6
  have hcl : (ys.take (min mm kd)).length = min mm kd := by rw [List.length_take]; omega
  have hsome : ∃ a2, A2 = some a2 ∧ ∀ j v, (ys.take (min mm kd))[j]? = some v → w.cell? (a2.add j) = some v := by
    have h0 : ys[0]? = some (ys[0]'(by omega)) := List.getElem?_eq_getElem (by omega)
    obtain ⟨g2', o2, rfl, _⟩ := hr w hw 0 _ h0
    refine ⟨_, rfl, fun j v hj => ?_⟩
    rw [List.getElem?_take] at hj
    by_cases hjm : j < min mm kd
    · rw [if_pos hjm] at hj
      obtain ⟨g3', o3, e3, hc⟩ := hr w hw j v hj
      injection e3 with e3
      injection e3 with e3 e4
      subst e3 e4
      rw [Addr.add_lit]; exact hc
    · rw [if_neg hjm] at hj; cases hj
  obtain ⟨a2, rfl, hsrc⟩ := hsome
  have hrun := run_copy_row (P := P) w t t ty e g o kd cd a2 mm c2 cur e (ys.take (min mm kd)) hut (by rw [hi]; simp [hsi]) g1 hcl hsrc (by rw [hcl]; omega) (fun v hv => h1 v (List.mem_of_mem_take hv))
  refine ⟨_, K, _, ?_, hw.storeRow (k' := k) (o := o) (vs := ys.take (min mm kd)) hu rfl g1 (by rw [Nat.mul_one]; exact g4) g2 g3 (by rw [hcl]; omega) ?_ ?_, rfl, rfl⟩
  · simp only [execOp, resolve, invoke, builtin]
    have hmap : #[x, y].map a.eval = #[.slice (some ⟨g, o, none⟩) kd cd, .slice (some a2) mm c2] := by simp [ha.eval hx, ha.eval hy]
    simp only [hmap, Sem.run_bind, Sem.run_pure, Result.andThen_ok]
    rw [hrun]
    simp [goInt, hcl]
  · rw [hcl, Nat.mul_one, ← g5]
    have := seg_take cur.toList (ys.take (min mm kd)) o k (by rw [hcl]; omega) (by rw [Array.length_toList]; omega)
    rw [hcl] at this
    exact this
  · rw [List.length_append, List.length_append, hcl, List.length_take, List.length_drop]
    omega
end
end Go.Eng

/- Walks: arcs, ends, short. -/
namespace Go.Proofs.YtleldppdflgmgaaGreat
open Go.RowKit Go.Eng Go.Nw Go.Rt

abbrev arcsP (A : Option Addr) (cap : Nat) (l : List Lk) : HP := sl 55 3 A l.length cap (l.flatMap lkF)
theorem arcs_snoc (A : Option Addr) (cap : Nat) (l : List Lk) (a : Lk) : sl 55 3 A (l.length + 1) cap (l.flatMap lkF ++ #[Value.int .i64 a.1, .int .i64 a.2.1, .int .i64 a.2.2].toList) = arcsP A cap (l ++ [a]) := by simp [arcsP, List.flatMap_append, lkF]
theorem arcs_spec (n : NetM) {B : Nat} {w0 : World} {H : List HP} {w : World} (hin : n.In B w0 H) (hck : checkE n.net = 0) (hw : St B w0 H w) :
    Calls Tryz.prog 21 [n.val].toArray w (Post B w0 fun v K => ∃ A cap, v = .slice A (arcsE n.net).length cap ∧ K = arcsP A cap (arcsE n.net) :: H) := by
  have hok := check_ok hck
  obtain ⟨hpw, hrw, hlk, hmg, hs1, hs2, hs3, hs4⟩ := id hin
  have hk0 : n.links.length ≤ 128 := hok.k0
  refine Calls_of_VC Tryz.func21 Tryz.ntmps21 rfl rfl hw ?_
  (apply VC_seq; apply VC_region; apply VL_box_agg; exact rfl; exact rfl; intro g)
  repeat' (first | apply (zs1 ?_) | apply (zs2 ?_) | (apply zg2; refine zs6 ?_) | (apply zg3; refine zs7 ?_) | (apply zg4; refine zs9 ?_) | apply (zs65 ?_) | apply (zs68 ?_) | apply (zs69 ?_) | apply (zs70 ?_) | apply (zs73 ?_) | fail)
  refine VC_loop3 (fun (k : Nat) (A : Option Addr) (cap : Nat) => [(9, .int .i64 k), (8, .int .i64 n.links.length), (7, .slice n.lA n.links.length n.lcap), (3, .slice A (arcsTo n.net k).length cap), (1, .pointer (some ⟨g, 0, none⟩))])
    (fun k A cap => arcsP A cap (arcsTo n.net k) :: netB g n :: H) (fun k _ _ => k ≤ n.links.length) (fun k _ _ => n.links.length - k) 0 none 0 (Nat.zero_le _) ?_ (fun w hw => hw.nilSlice _ _) ?_
  · (repeat (first | exact sub_nil _ | (apply sub_cons; first | exact rfl | exact congrArg (fun z : Int => some (Value.int .i64 z)) (by omega))))
  rintro k A cap hk K hK
  have hal := arcsTo_len n.net k
  by_cases hlt : k < n.links.length
  · have hlx : n.links[k]? = some (lnk n.net k) := lnk_some n.net hlt
    have hus : UsableE n.net (k : Int) = usableE n.net k := by
      unfold UsableE
      have e7 : n.net.links = n.links := rfl
      rw [decide_eq_true hck, e7, decide_eq_true (by omega)]
      rfl
    have hl := hok.lk k hlt
    have h5 := hl.l0
    have h6 := hl.l1
    have hU := fun {H : List HP} {w : World} (hin : n.In B w0 H) (hw : St B w0 H w) => Usable_spec n (k : Int) hin hw
    rw [hus] at hU
    cases hu : usableE n.net k
    · rw [hu] at hU
      have e2 := arcsTo_no hu
      repeat' (first | ((first | apply VL_callt en42 | apply VL_callq en42); (repeat (first | exact args_nil | (apply args_cons; exact rfl))); exact rfl; exact fun _ hw => (hU (((hin.cons).cons).cons) hw)) | apply (zs1 ?_) | apply (zs2 ?_) | (apply zg3; first | refine zs8 ?_ | refine zs61 ?_) | (apply zg5; refine zs57 ?_) | (apply (zs17 ?_ ?_) <;> intro _ <;> try (exfalso; omega)) | (apply zg13; refine zs30 ?_) | (apply zg22; refine zs51 ?_) | (apply zg24; (refine zs54 ?_; intro _)) | apply (zs65 ?_) | apply (zs68 ?_) | apply (zs69 ?_) | apply (zs70 ?_) | (apply zg27; first | refine zs71 ?_ | refine zs72 ?_) | apply (zs73 ?_) | apply (zs76 ?_) | apply (zs79 ?_) | fail)
      apply hK (k + 1) A cap
      · omega
      · omega
      · rw [e2]; (repeat (first | exact sub_nil _ | (apply sub_cons; first | exact rfl | exact congrArg (fun z : Int => some (Value.int .i64 z)) (by omega))))
      · rw [e2]; exact fun w hw => hw.tail
    · rw [hu] at hU
      have e2 := arcsTo_yes hu
      repeat' (first | ((first | apply VL_callt en42 | apply VL_callq en42); (repeat (first | exact args_nil | (apply args_cons; exact rfl))); exact rfl; exact fun _ hw => (hU (((hin.cons).cons).cons) hw)) | apply (zs1 ?_) | apply (zs2 ?_) | (apply zg2; refine zs6 ?_) | (apply zg3; first | refine zs7 ?_ | refine zs8 ?_ | refine zs61 ?_) | (apply zg5; refine zs57 ?_) | (apply (zs17 ?_ ?_) <;> intro _ <;> try (exfalso; omega)) | (apply zg13; refine zs30 ?_) | (apply zg21; (refine zs49 ?_; intro _ _)) | (apply zg22; refine zs51 ?_) | (apply zg24; (refine zs54 ?_; intro _)) | (apply zg25; refine zs55 ?_) | (apply zg26; (refine zs56 ?_; intro _)) | apply (zs65 ?_) | apply (zs68 ?_) | apply (zs69 ?_) | apply (zs70 ?_) | (apply zg27; refine zs71 ?_) | apply (zs73 ?_) | apply (zs76 ?_) | apply (zs79 ?_) | fail)
      rename_i A3 cap3
      apply hK (k + 1) A3 cap3
      · omega
      · omega
      · rw [e2, List.length_append, List.length_singleton]; (repeat (first | exact sub_nil _ | (apply sub_cons; first | exact rfl | exact congrArg (fun z : Int => some (Value.int .i64 z)) (by omega))))
      · rw [e2, show arcsP A3 cap3 (arcsTo n.net k ++ [arcAt n.net k]) = sl 55 3 A3 ((arcsTo n.net k).length + 1) cap3 ((arcsTo n.net k).flatMap lkF ++ #[Value.int .i64 (lnk n.net k).1, Value.int .i64 (lnk n.net k).2.1, Value.int .i64 ((lnk n.net k).2.2 + 1)].toList) from (arcs_snoc A3 cap3 _ (arcAt n.net k)).symm]
        (intro w hw; refine hw.perm ?_; focus repeat (first | with_reducible exact Perm.refl _ | (with_reducible apply perm_take; focus ((repeat (first | with_reducible exact rem_here | with_reducible apply rem_there)); done)) | with_reducible apply Perm.dropK))
  · obtain rfl : k = n.links.length := by omega
    clear hK
    repeat' (first | apply (zs1 ?_) | apply (zs2 ?_) | (apply (zs17 ?_ ?_) <;> intro _ <;> try (exfalso; omega)) | apply (zs65 ?_) | apply (zs68 ?_) | apply (zs69 ?_) | apply (zs70 ?_) | (apply zg27; refine zs72 ?_) | apply (zs74 ?_) | apply (zs75 ?_) | apply (zs80 ?_) | apply (zs81 ?_) | fail)
    apply VQ_st (arcsP A cap (arcsE n.net) :: H)
    · exact fun w hw => (hw.perm (.cons _ (.drop _ _)))
    apply VQ_ret1; exact rfl; exact rfl
    exact ⟨A, cap, rfl, rfl⟩
end Go.Proofs.YtleldppdflgmgaaGreat

/- Walks: ends, short, fault. -/
namespace Go.Proofs.YtleldppdflgmgaaGreat
open Go.RowKit Go.Eng Go.Nw Go.Rt

theorem ends_spec (n : NetM) (s t : Int) {B : Nat} {w0 : World} {H : List HP} {w : World} (hin : n.In B w0 H) (hw : St B w0 H w) :
    Calls Tryz.prog 20 [n.val, .int .i64 s, .int .i64 t].toArray w (Post B w0 fun v K => v = .int .i64 (endsE n.net s t) ∧ K = H) := by
  refine Calls_of_VC Tryz.func20 Tryz.ntmps20 rfl rfl hw ?_
  have e7 : n.net.nodes = n.nodes := rfl
  unfold endsE offE
  rw [e7]
  by_cases h0 : checkE n.net = 0
  rotate_left
  · rw [if_pos h0]
    repeat' (first | ((first | apply VL_callt en6 | apply VL_callq en6); (repeat (first | exact args_nil | (apply args_cons; exact rfl))); exact rfl; exact fun _ hw => (check_spec n hin.cons hw)) | apply (zs2 ?_) | (apply zg3; refine zs8 ?_) | (apply zg8; (refine zs16 ?_ ?_ <;> intro _ <;> try (exfalso; omega))) | (apply zg23; (refine zs52 ?_; intro _)) | apply (zs65 ?_) | apply (zs68 ?_) | apply (zs69 ?_) | apply (zs70 ?_) | (apply zg27; refine zs71 ?_) | apply (zs74 ?_) | apply (zs77 ?_) | fail)
    all_goals ((repeat apply VQ_tail); apply VQ_ret1; exact rfl; exact rfl; exact ⟨rfl, rfl⟩)
  rw [if_neg (fun h => h h0)]
  have hck := fun {H : List HP} {w : World} (hin : n.In B w0 H) (hw : St B w0 H w) => check_spec n hin hw
  rw [h0] at hck
  simp only [decide_eq_true_eq]
  by_cases h1 : (s < 0 ∨ n.nodes ≤ s) ∨ (t < 0 ∨ n.nodes ≤ t) ∨ s = t
  · rw [if_pos h1]
    repeat' (first | ((first | apply VL_callt en6 | apply VL_callq en6); (repeat (first | exact args_nil | (apply args_cons; exact rfl))); exact rfl; exact fun _ hw => (hck hin.cons hw)) | apply (zs1 ?_) | apply (zs2 ?_) | (apply zg1; first | refine zs3 ?_ | refine zs4 ?_) | (apply zg2; refine zs6 ?_) | (apply zg3; first | refine zs7 ?_ | refine zs8 ?_) | (apply zg6; first | refine zs11 ?_ | refine zs12 ?_) | (apply zg7; (refine zs15 ?_ ?_ <;> intro _ <;> try (exfalso; omega))) | (apply zg8; (refine zs16 ?_ ?_ <;> intro _ <;> try (exfalso; omega))) | (apply (zs17 ?_ ?_) <;> intro _ <;> try (exfalso; omega)) | (apply (zs20 ?_ ?_) <;> intro _ <;> try (exfalso; omega)) | (apply (zs25 ?_ ?_) <;> intro _ <;> try (exfalso; omega)) | (apply zg23; (refine zs52 ?_; intro _)) | (apply (zs62 ?_ ?_) <;> intro _ <;> try (exfalso; omega)) | apply (zs65 ?_) | apply (zs68 ?_) | apply (zs69 ?_) | apply (zs70 ?_) | (apply zg27; first | refine zs71 ?_ | refine zs72 ?_) | apply (zs74 ?_) | apply (zs76 ?_) | apply (zs77 ?_) | fail)
    all_goals ((repeat apply VQ_tail); apply VQ_ret1; exact rfl; exact rfl; exact ⟨rfl, rfl⟩)
  · rw [if_neg h1]
    repeat' (first | ((first | apply VL_callt en6 | apply VL_callq en6); (repeat (first | exact args_nil | (apply args_cons; exact rfl))); exact rfl; exact fun _ hw => (hck hin.cons hw)) | apply (zs1 ?_) | apply (zs2 ?_) | (apply zg1; refine zs4 ?_) | (apply zg2; refine zs6 ?_) | (apply zg3; first | refine zs7 ?_ | refine zs8 ?_) | (apply zg6; refine zs12 ?_) | (apply zg7; (refine zs15 ?_ ?_ <;> intro _ <;> try (exfalso; omega))) | (apply zg8; (refine zs16 ?_ ?_ <;> intro _ <;> try (exfalso; omega))) | (apply (zs17 ?_ ?_) <;> intro _ <;> try (exfalso; omega)) | (apply (zs20 ?_ ?_) <;> intro _ <;> try (exfalso; omega)) | (apply (zs25 ?_ ?_) <;> intro _ <;> try (exfalso; omega)) | (apply zg23; (refine zs52 ?_; intro _)) | (apply (zs62 ?_ ?_) <;> intro _ <;> try (exfalso; omega)) | apply (zs65 ?_) | apply (zs68 ?_) | apply (zs69 ?_) | apply (zs70 ?_) | (apply zg27; refine zs72 ?_) | apply (zs74 ?_) | apply (zs76 ?_) | fail)
    all_goals ((repeat apply VQ_tail); apply VQ_ret1; exact rfl; exact rfl; exact ⟨rfl, rfl⟩)

theorem short_spec (k : Nat) {A : Option Addr} {cap B : Nat} {w0 : World} {H : List HP} {w : World} (hk : k ≤ 9223372036854775807) (hw : St B w0 H w) :
    Calls Tryz.prog 23 [.slice A k cap].toArray w (Post B w0 fun v K => v = .int .i64 (if 9 < k then 21 else 0) ∧ K = H) := by
  refine Calls_of_VC Tryz.func23 Tryz.ntmps23 rfl rfl hw ?_
  by_cases h : 9 < k
  · rw [if_pos h]
    repeat' (first | apply (zs1 ?_) | apply (zs2 ?_) | (apply zg4; refine zs9 ?_) | (apply (zs19 ?_ ?_) <;> intro _ <;> try (exfalso; omega)) | apply (zs65 ?_) | apply (zs68 ?_) | apply (zs69 ?_) | apply (zs70 ?_) | (apply zg27; refine zs71 ?_) | apply (zs74 ?_) | apply (zs77 ?_) | fail)
    apply VQ_ret1; exact rfl; exact rfl
    exact ⟨rfl, rfl⟩
  · rw [if_neg h]
    repeat' (first | apply (zs1 ?_) | apply (zs2 ?_) | (apply zg4; refine zs9 ?_) | (apply (zs19 ?_ ?_) <;> intro _ <;> try (exfalso; omega)) | apply (zs65 ?_) | apply (zs68 ?_) | apply (zs69 ?_) | apply (zs70 ?_) | (apply zg27; refine zs72 ?_) | apply (zs74 ?_) | apply (zs76 ?_) | fail)
    apply VQ_ret1; exact rfl; exact rfl
    exact ⟨rfl, rfl⟩

theorem fault1_spec (n : NetM) (a : Int) (g : Nat) {B : Nat} {w0 : World} {H : List HP} {w : World} (hm : netB g n ∈ H) (hw : St B w0 H w) :
    Calls Tryz.prog 48 [.int .i64 a, .pointer (some ⟨g, 0, none⟩)].toArray w (Post B w0 fun v K => v = .bool (offE n.net a) ∧ K = H) := by
  refine Calls_of_VC Tryz.func48 Tryz.ntmps48 rfl rfl hw ?_
  have e7 : n.net.nodes = n.nodes := rfl
  unfold offE
  rw [e7]
  by_cases h : a < 0 ∨ n.nodes ≤ a
  · rw [decide_eq_true h]
    repeat' (first | apply (zs1 ?_) | apply (zs2 ?_) | (apply zg1; first | refine zs3 ?_ | refine zs4 ?_) | (apply zg2; refine zs6 ?_) | (apply zg3; refine zs7 ?_) | (apply zg6; first | refine zs11 ?_ | refine zs12 ?_) | (apply (zs17 ?_ ?_) <;> intro _ <;> try (exfalso; omega)) | (apply (zs20 ?_ ?_) <;> intro _ <;> try (exfalso; omega)) | apply (zs65 ?_) | apply (zs68 ?_) | apply (zs69 ?_) | apply (zs70 ?_) | apply (zs74 ?_) | fail)
    all_goals (apply VQ_ret1; exact rfl; exact rfl; exact ⟨rfl, rfl⟩)
  · rw [decide_eq_false h]
    repeat' (first | apply (zs1 ?_) | apply (zs2 ?_) | (apply zg1; refine zs4 ?_) | (apply zg2; refine zs6 ?_) | (apply zg3; refine zs7 ?_) | (apply zg6; refine zs12 ?_) | (apply (zs17 ?_ ?_) <;> intro _ <;> try (exfalso; omega)) | (apply (zs20 ?_ ?_) <;> intro _ <;> try (exfalso; omega)) | apply (zs65 ?_) | apply (zs68 ?_) | apply (zs69 ?_) | apply (zs70 ?_) | apply (zs74 ?_) | fail)
    all_goals (apply VQ_ret1; exact rfl; exact rfl; exact ⟨rfl, rfl⟩)
end Go.Proofs.YtleldppdflgmgaaGreat

/- Walks: slices.Index, Contains, Equal of routes. -/
namespace Go.Proofs.YtleldppdflgmgaaGreat
open Go.RowKit Go.Eng Go.Nw

theorem index_route (l : List Int) (v : Int) (hlen : l.length ≤ 9223372036854775807) {A : Option Addr} {cap B : Nat} {w0 : World} {H : List HP} {w : World} (hr : Rd B w0 H A (l.flatMap numF)) (hw : St B w0 H w) :
    Calls Tryz.prog 82 [.slice A l.length cap, .int .i64 v].toArray w (Post B w0 fun u K => u = .int .i64 (idxFrom (fun x => decide (v = x)) l 0) ∧ K = H) := by
  refine Calls_of_VC Tryz.func82 Tryz.ntmps82 rfl rfl hw ?_
  repeat' (first | apply (zs1 ?_) | apply (zs2 ?_) | (apply zg4; refine zs9 ?_) | apply (zs65 ?_) | apply (zs68 ?_) | apply (zs69 ?_) | apply (zs70 ?_) | apply (zs73 ?_) | fail)
  refine VC_loop1 (fun (k : Nat) => [(8, .int .i64 k), (7, .int .i64 l.length), (0, .slice A l.length cap), (1, .int .i64 v)]) (fun _ => H) (fun k => k ≤ l.length ∧ idxFrom (fun x => decide (v = x)) l 0 = idxFrom (fun x => decide (v = x)) (l.drop k) k) (fun k => l.length - k) 0 ⟨Nat.zero_le _, by simp⟩ ?_ (fun w hw => hw) ?_
  · (repeat (first | exact sub_nil _ | (apply sub_cons; first | exact rfl | exact congrArg (fun z : Int => some (Value.int .i64 z)) (by omega))))
  rintro k ⟨hk, hi⟩ K hK
  by_cases hlt : k < l.length
  · obtain ⟨a, ha⟩ : ∃ a, l[k]? = some a := ⟨_, List.getElem?_eq_getElem hlt⟩
    rw [idx_drop _ l ha] at hi
    repeat' (first | apply (zs1 ?_) | apply (zs2 ?_) | (apply zg3; refine zs60 ?_) | (apply zg5; refine zs57 ?_) | (apply zg7; (refine zs15 ?_ ?_ <;> intro _ <;> try (exfalso; omega))) | (apply (zs17 ?_ ?_) <;> intro _ <;> try (exfalso; omega)) | (apply zg13; refine zs30 ?_) | apply (zs65 ?_) | apply (zs68 ?_) | apply (zs69 ?_) | apply (zs70 ?_) | (apply zg27; first | refine zs71 ?_ | refine zs72 ?_) | apply (zs73 ?_) | apply (zs74 ?_) | apply (zs76 ?_) | apply (zs77 ?_) | apply (zs78 ?_) | apply (zs79 ?_) | fail)
    · rename_i h
      rw [if_pos (decide_eq_true h)] at hi
      ((repeat apply VQ_tail); apply VQ_ret1; exact rfl; exact rfl; refine ⟨congrArg _ ?_, rfl⟩)
      rw [hi]
    · rename_i h
      rw [if_neg (by simp [h])] at hi
      repeat' (first | fail)
      apply hK (k + 1)
      · exact ⟨by omega, hi⟩
      · omega
      · (repeat (first | exact sub_nil _ | (apply sub_cons; first | exact rfl | exact congrArg (fun z : Int => some (Value.int .i64 z)) (by omega))))
      · exact fun w hw => hw
  · repeat' (first | apply (zs2 ?_) | (apply (zs17 ?_ ?_) <;> intro _ <;> try (exfalso; omega)) | apply (zs65 ?_) | apply (zs68 ?_) | apply (zs69 ?_) | apply (zs70 ?_) | (apply zg27; refine zs72 ?_) | apply (zs74 ?_) | apply (zs75 ?_) | apply (zs80 ?_) | apply (zs81 ?_) | fail)
    ((repeat apply VQ_tail); apply VQ_ret1; exact rfl; exact rfl; refine ⟨congrArg _ ?_, rfl⟩)
    rw [hi, List.drop_eq_nil_of_le (by omega)]; rfl

theorem contains_route (l : List Int) (v : Int) (hlen : l.length ≤ 9223372036854775807) {A : Option Addr} {cap B : Nat} {w0 : World} {H : List HP} {w : World} (hr : Rd B w0 H A (l.flatMap numF)) (hw : St B w0 H w) :
    Calls Tryz.prog 49 [.slice A l.length cap, .int .i64 v].toArray w (Post B w0 fun u K => u = .bool (decide (v ∈ l)) ∧ K = H) := by
  refine Calls_of_VC Tryz.func49 Tryz.ntmps49 rfl rfl hw ?_
  have hia := idx_any (fun x => decide (v = x)) l 0 (by omega)
  have hmm : l.any (fun x => decide (v = x)) = true ↔ v ∈ l := by simp [List.any_eq_true]
  repeat' (first | ((first | apply VL_callt en82 | apply VL_callq en82); (repeat (first | exact args_nil | (apply args_cons; exact rfl))); exact rfl; exact fun _ hw => (index_route l v hlen hr hw)) | apply (zs1 ?_) | apply (zs2 ?_) | (apply (zs20 ?_ ?_) <;> intro _ <;> try (exfalso; omega)) | apply (zs65 ?_) | apply (zs68 ?_) | apply (zs69 ?_) | apply (zs70 ?_) | apply (zs74 ?_) | fail)
  all_goals (apply VQ_ret1; exact rfl; exact rfl)
  · rename_i h; exact ⟨by rw [decide_eq_true (hmm.1 (hia.1 h))], rfl⟩
  · rename_i h
    exact ⟨by rw [decide_eq_false fun e => by have := hia.2 (hmm.2 e); omega], rfl⟩

theorem equal_route (l m : List Int) (hlen : l.length ≤ 9223372036854775807) (_hlen2 : m.length ≤ 9223372036854775807) {A A2 : Option Addr} {cap cap2 B : Nat} {w0 : World} {H : List HP} {w : World} (hr : Rd B w0 H A (l.flatMap numF)) (hr2 : Rd B w0 H A2 (m.flatMap numF)) (hw : St B w0 H w) :
    Calls Tryz.prog 15 [.slice A l.length cap, .slice A2 m.length cap2].toArray w (Post B w0 fun u K => u = .bool (decide (l = m)) ∧ K = H) := by
  refine Calls_of_VC Tryz.func15 Tryz.ntmps15 rfl rfl hw ?_
  by_cases hll : l.length = m.length
  rotate_left
  · repeat' (first | apply (zs1 ?_) | apply (zs2 ?_) | (apply zg4; refine zs9 ?_) | (apply zg8; (refine zs16 ?_ ?_ <;> intro _ <;> try (exfalso; omega))) | apply (zs65 ?_) | apply (zs68 ?_) | apply (zs69 ?_) | apply (zs70 ?_) | (apply zg27; refine zs71 ?_) | apply (zs74 ?_) | apply (zs77 ?_) | fail)
    apply VQ_ret1; exact rfl; exact rfl
    exact ⟨by rw [decide_eq_false fun e => hll (by rw [e])], rfl⟩
  repeat' (first | apply (zs1 ?_) | apply (zs2 ?_) | (apply zg4; refine zs9 ?_) | (apply zg8; (refine zs16 ?_ ?_ <;> intro _ <;> try (exfalso; omega))) | apply (zs65 ?_) | apply (zs68 ?_) | apply (zs69 ?_) | apply (zs70 ?_) | (apply zg27; refine zs72 ?_) | apply (zs73 ?_) | apply (zs76 ?_) | fail)
  refine VC_loop1 (fun (k : Nat) => [(13, .int .i64 k), (12, .int .i64 l.length), (0, .slice A l.length cap), (1, .slice A2 m.length cap2)]) (fun _ => H) (fun k => k ≤ l.length ∧ l.take k = m.take k) (fun k => l.length - k) 0 ⟨Nat.zero_le _, by simp⟩ ?_ (fun w hw => hw) ?_
  · (repeat (first | exact sub_nil _ | (apply sub_cons; first | exact rfl | exact congrArg (fun z : Int => some (Value.int .i64 z)) (by omega))))
  rintro k ⟨hk, hi⟩ K hK
  by_cases hlt : k < l.length
  · obtain ⟨a, ha⟩ : ∃ a, l[k]? = some a := ⟨_, List.getElem?_eq_getElem hlt⟩
    obtain ⟨b, hb⟩ : ∃ b, m[k]? = some b := ⟨_, List.getElem?_eq_getElem (by omega)⟩
    repeat' (first | apply (zs1 ?_) | apply (zs2 ?_) | (apply zg3; refine zs60 ?_) | (apply zg5; refine zs57 ?_) | (apply zg8; (refine zs16 ?_ ?_ <;> intro _ <;> try (exfalso; omega))) | (apply (zs17 ?_ ?_) <;> intro _ <;> try (exfalso; omega)) | (apply zg13; refine zs30 ?_) | apply (zs65 ?_) | apply (zs66 ?_) | apply (zs68 ?_) | apply (zs69 ?_) | apply (zs70 ?_) | (apply zg27; first | refine zs71 ?_ | refine zs72 ?_) | apply (zs73 ?_) | apply (zs74 ?_) | apply (zs76 ?_) | apply (zs77 ?_) | apply (zs78 ?_) | apply (zs79 ?_) | (apply zg28; refine zs83 ?_) | fail)
    · rename_i h
      apply VQ_ret1; exact rfl; exact rfl
      exact ⟨by rw [decide_eq_false fun e => by rw [e, hb] at ha; exact h (Option.some.inj ha).symm], rfl⟩
    · rename_i h
      apply hK (k + 1)
      · exact ⟨by omega, by rw [take_snoc ha, take_snoc hb, hi, h]⟩
      · omega
      · (repeat (first | exact sub_nil _ | (apply sub_cons; first | exact rfl | exact congrArg (fun z : Int => some (Value.int .i64 z)) (by omega))))
      · exact fun w hw => hw
  · repeat' (first | apply (zs2 ?_) | (apply (zs17 ?_ ?_) <;> intro _ <;> try (exfalso; omega)) | apply (zs65 ?_) | apply (zs68 ?_) | apply (zs69 ?_) | apply (zs70 ?_) | (apply zg27; refine zs72 ?_) | apply (zs74 ?_) | apply (zs75 ?_) | apply (zs80 ?_) | apply (zs81 ?_) | fail)
    apply VQ_ret1; exact rfl; exact rfl
    rw [List.take_of_length_le (by omega), List.take_of_length_le (by omega)] at hi
    exact ⟨by rw [decide_eq_true hi], rfl⟩

end Go.Proofs.YtleldppdflgmgaaGreat

/- Walk: the fault of a route. -/
namespace Go.Proofs.YtleldppdflgmgaaGreat
open Go.RowKit Go.Eng Go.Nw Go.Rt

theorem rd_hi {l : List Int} {A : Option Addr} {cap : Nat} {B : Nat} {w0 : World} {H : List HP} (k : Nat) (hr : Rd B w0 H A (l.flatMap numF)) (hc : l.length ≤ cap) : Rd B w0 H (subA A 0 cap 1) ((l.take k).flatMap numF) := by
  have h := Rd.sub (f := numF) (q := 1) (o := 0) (k := k) (fun _ => rfl) hr hc
  rwa [List.drop_zero] at h
theorem rd_lo {l : List Int} {A : Option Addr} {cap : Nat} {B : Nat} {w0 : World} {H : List HP} (o : Nat) (hr : Rd B w0 H A (l.flatMap numF)) (hc : l.length ≤ cap) : Rd B w0 H (subA A o cap 1) ((l.drop o).flatMap numF) := by
  have h := Rd.sub (f := numF) (q := 1) (o := o) (k := (l.drop o).length) (fun _ => rfl) hr hc
  rwa [List.take_length] at h
theorem any_false {p : Nat → Bool} {k : Nat} (h : (List.range k).any p = false) (h2 : p k = false) : (List.range (k + 1)).any p = false := by
  rw [any_range_step, h, h2]; rfl
theorem any_true {p : Nat → Bool} {k n : Nat} (hk : k < n) (h : p k = true) : (List.range n).any p = true := List.any_eq_true.2 ⟨k, List.mem_range.2 hk, h⟩

set_option maxHeartbeats 1000000 in
theorem fault_spec (n : NetM) (s t : Int) (r : List Int) {A : Option Addr} {cap B : Nat} {w0 : World} {H : List HP} {w : World} (hin : n.In B w0 H) (hck : checkE n.net = 0) (hr : Rd B w0 H A (r.flatMap numF)) (hlen : r.length ≤ 9223372036854775807) (hcap : r.length ≤ cap) (hw : St B w0 H w) :
    Calls Tryz.prog 27 [n.val, .int .i64 s, .int .i64 t, .slice A r.length cap].toArray w (Post B w0 fun v K => v = .int .i64 (faultE n.net s t r) ∧ K = H) := by
  refine Calls_of_VC Tryz.func27 Tryz.ntmps27 rfl rfl hw ?_
  (apply VC_seq; apply VC_region; apply VL_box_agg; exact rfl; exact rfl; intro g)
  have hnm : netB g n ∈ netB g n :: H := List.mem_cons_self
  unfold faultE
  by_cases h1 : r.length < 2
  · rw [if_pos h1]
    repeat' (first | apply (zs1 ?_) | apply (zs2 ?_) | (apply zg4; refine zs9 ?_) | (apply (zs17 ?_ ?_) <;> intro _ <;> try (exfalso; omega)) | apply (zs65 ?_) | apply (zs68 ?_) | apply (zs69 ?_) | apply (zs70 ?_) | (apply zg27; refine zs71 ?_) | apply (zs73 ?_) | apply (zs74 ?_) | apply (zs77 ?_) | apply (zs78 ?_) | fail)
    (repeat apply VQ_tail); apply VQ_ret1; exact rfl; exact rfl
    exact ⟨rfl, rfl⟩
  rw [if_neg h1]
  by_cases h2 : 9 < r.length
  · rw [if_pos h2]
    repeat' (first | apply (zs1 ?_) | apply (zs2 ?_) | (apply zg4; refine zs9 ?_) | (apply (zs17 ?_ ?_) <;> intro _ <;> try (exfalso; omega)) | (apply (zs19 ?_ ?_) <;> intro _ <;> try (exfalso; omega)) | apply (zs65 ?_) | apply (zs68 ?_) | apply (zs69 ?_) | apply (zs70 ?_) | (apply zg27; first | refine zs71 ?_ | refine zs72 ?_) | apply (zs73 ?_) | apply (zs74 ?_) | apply (zs77 ?_) | apply (zs78 ?_) | fail)
    (repeat apply VQ_tail); apply VQ_ret1; exact rfl; exact rfl
    exact ⟨rfl, rfl⟩
  rw [if_neg h2]
  have hoff := fun {w : World} (hw : St B w0 (netB g n :: H) w) => containsFuncRoute (fun a : Int => Value.int .i64 a) (offE n.net) r 48 [.pointer (some ⟨g, 0, none⟩)] en48 hlen (cap := cap) (hr.cons) (fun a _ w hw => fault1_spec n a g hnm hw) hw
  obtain ⟨b3, h3⟩ : ∃ b, r.any (offE n.net) = b := ⟨_, rfl⟩
  rw [h3] at hoff ⊢
  cases b3 with
  | true =>
    rw [if_pos rfl]
    repeat' (first | ((first | apply VL_callt en47 | apply VL_callq en47); (repeat (first | exact args_nil | (apply args_cons; exact rfl))); exact rfl; exact fun _ hw => (hoff hw)) | apply (zs1 ?_) | apply (zs2 ?_) | (apply zg4; refine zs9 ?_) | (apply (zs17 ?_ ?_) <;> intro _ <;> try (exfalso; omega)) | (apply (zs19 ?_ ?_) <;> intro _ <;> try (exfalso; omega)) | apply (zs65 ?_) | apply (zs68 ?_) | apply (zs69 ?_) | apply (zs70 ?_) | (apply zg27; first | refine zs71 ?_ | refine zs72 ?_) | apply (zs73 ?_) | apply (zs74 ?_) | apply (zs77 ?_) | apply (zs78 ?_) | (apply zg29; (apply VL_makeFunc; (repeat (first | exact args_nil | (apply args_cons; exact rfl))) ; exact rfl)) | fail)
    (repeat apply VQ_tail); apply VQ_ret1; exact rfl; exact rfl
    exact ⟨rfl, rfl⟩
  | false =>
    rw [if_neg (by decide)]
    have hg0 := getD_get (l := r) (i := 0) (by omega)
    have hg1 := getD_get (l := r) (i := r.length - 1) (by omega)
    have hgi : ((r.length : Int) - 1).toNat = r.length - 1 := by omega
    rw [← hgi] at hg1
    by_cases h4 : r.getD 0 0 ≠ s ∨ r.getD (r.length - 1) 0 ≠ t
    · rw [if_pos h4]
      rw [← hgi] at h4
      repeat' (first | ((first | apply VL_callt en47 | apply VL_callq en47); (repeat (first | exact args_nil | (apply args_cons; exact rfl))); exact rfl; exact fun _ hw => (hoff hw)) | apply (zs1 ?_) | apply (zs2 ?_) | (apply zg1; first | refine zs3 ?_ | refine zs4 ?_) | (apply zg3; refine zs60 ?_) | (apply zg4; refine zs9 ?_) | (apply zg5; refine zs57 ?_) | (apply zg6; first | refine zs11 ?_ | refine zs12 ?_) | (apply zg8; (refine zs16 ?_ ?_ <;> intro _ <;> try (exfalso; omega))) | (apply (zs17 ?_ ?_) <;> intro _ <;> try (exfalso; omega)) | (apply (zs19 ?_ ?_) <;> intro _ <;> try (exfalso; omega)) | (apply zg14; refine zs31 ?_) | apply (zs65 ?_) | apply (zs68 ?_) | apply (zs69 ?_) | apply (zs70 ?_) | (apply zg27; first | refine zs71 ?_ | refine zs72 ?_) | apply (zs73 ?_) | apply (zs74 ?_) | apply (zs77 ?_) | apply (zs78 ?_) | (apply zg29; (apply VL_makeFunc; (repeat (first | exact args_nil | (apply args_cons; exact rfl))) ; exact rfl)) | fail)
      all_goals first
        | ((repeat apply VQ_tail); apply VQ_ret1; exact rfl; exact rfl; exact ⟨rfl, rfl⟩)
        | skip
      done
    rw [if_neg h4]
    rw [← hgi] at h4
    repeat' (first | ((first | apply VL_callt en47 | apply VL_callq en47); (repeat (first | exact args_nil | (apply args_cons; exact rfl))); exact rfl; exact fun _ hw => (hoff hw)) | apply (zs1 ?_) | apply (zs2 ?_) | (apply zg1; refine zs4 ?_) | (apply zg3; refine zs60 ?_) | (apply zg4; refine zs9 ?_) | (apply zg5; refine zs57 ?_) | (apply zg6; refine zs12 ?_) | (apply zg8; (refine zs16 ?_ ?_ <;> intro _ <;> try (exfalso; omega))) | (apply (zs17 ?_ ?_) <;> intro _ <;> try (exfalso; omega)) | (apply (zs19 ?_ ?_) <;> intro _ <;> try (exfalso; omega)) | (apply zg14; refine zs31 ?_) | apply (zs65 ?_) | apply (zs68 ?_) | apply (zs69 ?_) | apply (zs70 ?_) | (apply zg27; refine zs72 ?_) | apply (zs73 ?_) | apply (zs76 ?_) | apply (zs79 ?_) | (apply zg29; (apply VL_makeFunc; (repeat (first | exact args_nil | (apply args_cons; exact rfl))) ; exact rfl)) | fail)
    refine VC_loop1 (fun (k : Nat) => [(43, .int .i64 k), (42, .int .i64 r.length), (41, .slice A r.length cap), (3, .slice A r.length cap), (4, .pointer (some ⟨g, 0, none⟩))]) (fun _ => netB g n :: H) (fun k => k ≤ r.length ∧ ((List.range k).any fun i => (r.take i).contains (r.getD i 0)) = false) (fun k => r.length - k) 0 ⟨Nat.zero_le _, rfl⟩ ?_ (fun w hw => hw) ?_
    · (repeat (first | exact sub_nil _ | (apply sub_cons; first | exact rfl | exact congrArg (fun z : Int => some (Value.int .i64 z)) (by omega))))
    rintro k ⟨hk, hi⟩ K hK
    by_cases hlt : k < r.length
    · have hgk := getD_get (l := r) (i := k) hlt
      obtain ⟨b, hb⟩ : ∃ b, (r.take k).contains (r.getD k 0) = b := ⟨_, rfl⟩
      have hbm : decide (r.getD k 0 ∈ r.take k) = b := by rw [← hb]; simp
      have hcon := fun {w : World} (hw : St B w0 (netB g n :: H) w) => contains_route (r.take k) (r.getD k 0) (by rw [List.length_take]; omega) (cap := cap) (rd_hi k (hr.cons (X := netB g n)) hcap) hw
      rw [hbm] at hcon
      cases b with
      | true =>
        repeat' (first | (apply VL_slice_hi_rd T (l := r) (n' := (r.take k).length); exact rfl; exact rfl; exact rfl; exact rfl; omega; exact hcap; (simp; omega)) | ((first | apply VL_callt en49 | apply VL_callq en49); (repeat (first | exact args_nil | (apply args_cons; exact rfl))); exact rfl; exact fun _ hw => (hcon hw)) | apply (zs1 ?_) | apply (zs2 ?_) | (apply zg3; refine zs60 ?_) | (apply zg5; refine zs57 ?_) | (apply (zs17 ?_ ?_) <;> intro _ <;> try (exfalso; omega)) | apply (zs65 ?_) | apply (zs68 ?_) | apply (zs69 ?_) | apply (zs70 ?_) | (apply zg27; refine zs71 ?_) | apply (zs73 ?_) | apply (zs74 ?_) | apply (zs76 ?_) | apply (zs77 ?_) | apply (zs78 ?_) | fail)
        (repeat apply VQ_tail); apply VQ_ret1; exact rfl; exact rfl
        have htw : twiceE r = true := any_true hlt hb
        exact ⟨by rw [if_pos htw], rfl⟩
      | false =>
        repeat' (first | (apply VL_slice_hi_rd T (l := r) (n' := (r.take k).length); exact rfl; exact rfl; exact rfl; exact rfl; omega; exact hcap; (simp; omega)) | ((first | apply VL_callt en49 | apply VL_callq en49); (repeat (first | exact args_nil | (apply args_cons; exact rfl))); exact rfl; exact fun _ hw => (hcon hw)) | apply (zs1 ?_) | apply (zs2 ?_) | (apply zg3; refine zs60 ?_) | (apply zg5; refine zs57 ?_) | (apply (zs17 ?_ ?_) <;> intro _ <;> try (exfalso; omega)) | (apply zg13; refine zs30 ?_) | apply (zs65 ?_) | apply (zs68 ?_) | apply (zs69 ?_) | apply (zs70 ?_) | (apply zg27; first | refine zs71 ?_ | refine zs72 ?_) | apply (zs73 ?_) | apply (zs76 ?_) | apply (zs79 ?_) | fail)
        apply hK (k + 1)
        · exact ⟨by omega, any_false hi hb⟩
        · omega
        · (repeat (first | exact sub_nil _ | (apply sub_cons; first | exact rfl | exact congrArg (fun z : Int => some (Value.int .i64 z)) (by omega))))
        · exact fun w hw => hw
    obtain rfl : k = r.length := by omega
    clear hK
    have htw : twiceE r = false := hi
    rw [if_neg (by rw [htw]; decide)]
    have hdl : (r.drop 1).length = r.length - 1 := List.length_drop
    repeat' (first | (apply VL_slice_lo T (n' := (r.drop 1).length); exact rfl; exact rfl; exact rfl; exact rfl; omega; (rw [hdl]; rfl)) | apply (zs1 ?_) | (apply zg4; refine zs9 ?_) | (apply (zs17 ?_ ?_) <;> intro _ <;> try (exfalso; omega)) | apply (zs65 ?_) | apply (zs68 ?_) | apply (zs69 ?_) | apply (zs70 ?_) | (apply zg27; refine zs72 ?_) | apply (zs73 ?_) | apply (zs75 ?_) | apply (zs80 ?_) | apply (zs81 ?_) | fail)
    refine VC_loop1 (fun (k : Nat) => [(57, .int .i64 k), (56, .int .i64 (r.drop 1).length), (55, .slice (subA A 1 cap 1) (r.drop 1).length (cap - 1)), (3, .slice A r.length cap), (4, .pointer (some ⟨g, 0, none⟩))]) (fun _ => netB g n :: H) (fun k => k ≤ (r.drop 1).length ∧ ((List.range k).any fun i => !goodE n.net (r.getD i 0) (r.getD (i + 1) 0)) = false) (fun k => (r.drop 1).length - k) 0 ⟨Nat.zero_le _, rfl⟩ ?_ (fun w hw => hw) ?_
    · (repeat (first | exact sub_nil _ | (apply sub_cons; first | exact rfl | exact congrArg (fun z : Int => some (Value.int .i64 z)) (by omega))))
    rintro k ⟨hk, hi⟩ K hK
    have hr1 : Rd B w0 (netB g n :: H) (subA A 1 cap 1) ((r.drop 1).flatMap numF) := rd_lo 1 (hr.cons) hcap
    have hr0 : Rd B w0 (netB g n :: H) A (r.flatMap numF) := hr.cons
    by_cases hlt : k < (r.drop 1).length
    · have hgk := getD_get (l := r) (i := k) (by omega)
      have hgk1 : (r.drop 1)[k]? = some (r.getD (k + 1) 0) := by
        rw [List.getElem?_drop, Nat.add_comm]; exact getD_get (by omega)
      obtain ⟨b, hb⟩ : ∃ b, goodE n.net (r.getD k 0) (r.getD (k + 1) 0) = b := ⟨_, rfl⟩
      have hus := fun {w : World} (hw : St B w0 (netB g n :: H) w) => Usable_spec n (indexE n.net (r.getD k 0) (r.getD (k + 1) 0)) (hin.cons (X := netB g n)) hw
      rw [usable_index hck, hb] at hus
      cases b with
      | true =>
        repeat' (first | ((first | apply VL_callt en50 | apply VL_callq en50); (repeat (first | exact args_nil | (apply args_cons; exact rfl))); exact rfl; exact fun _ hw => (index_spec n _ _ (hin.cons) hw)) | ((first | apply VL_callt en42 | apply VL_callq en42); (repeat (first | exact args_nil | (apply args_cons; exact rfl))); exact rfl; exact fun _ hw => (hus hw)) | apply (zs1 ?_) | apply (zs2 ?_) | (apply zg3; first | refine zs8 ?_ | refine zs60 ?_) | (apply zg5; refine zs57 ?_) | (apply (zs17 ?_ ?_) <;> intro _ <;> try (exfalso; omega)) | (apply zg13; refine zs30 ?_) | (apply zg20; refine zs47 ?_) | apply (zs65 ?_) | apply (zs66 ?_) | apply (zs68 ?_) | apply (zs69 ?_) | apply (zs70 ?_) | (apply zg27; first | refine zs71 ?_ | refine zs72 ?_) | apply (zs73 ?_) | apply (zs76 ?_) | apply (zs79 ?_) | (apply zg28; refine zs84 ?_) | fail)
        apply hK (k + 1)
        · exact ⟨by omega, any_false hi (by rw [hb]; rfl)⟩
        · omega
        · (repeat (first | exact sub_nil _ | (apply sub_cons; first | exact rfl | exact congrArg (fun z : Int => some (Value.int .i64 z)) (by omega))))
        · exact fun w hw => hw
      | false =>
        repeat' (first | ((first | apply VL_callt en50 | apply VL_callq en50); (repeat (first | exact args_nil | (apply args_cons; exact rfl))); exact rfl; exact fun _ hw => (index_spec n _ _ (hin.cons) hw)) | ((first | apply VL_callt en42 | apply VL_callq en42); (repeat (first | exact args_nil | (apply args_cons; exact rfl))); exact rfl; exact fun _ hw => (hus hw)) | apply (zs1 ?_) | apply (zs2 ?_) | (apply zg3; first | refine zs8 ?_ | refine zs60 ?_) | (apply zg5; refine zs57 ?_) | (apply (zs17 ?_ ?_) <;> intro _ <;> try (exfalso; omega)) | (apply zg20; refine zs48 ?_) | apply (zs65 ?_) | apply (zs66 ?_) | apply (zs68 ?_) | apply (zs69 ?_) | apply (zs70 ?_) | (apply zg27; refine zs71 ?_) | apply (zs73 ?_) | apply (zs74 ?_) | apply (zs76 ?_) | apply (zs77 ?_) | apply (zs78 ?_) | (apply zg28; refine zs84 ?_) | fail)
        (repeat apply VQ_tail); apply VQ_ret1; exact rfl; exact rfl
        have hbr : brokenE n.net r = true := any_true (k := k) (by omega) (by rw [hb]; rfl)
        exact ⟨by rw [if_pos hbr], rfl⟩
    · obtain rfl : k = (r.drop 1).length := by omega
      clear hK
      repeat' (first | apply (zs2 ?_) | (apply (zs17 ?_ ?_) <;> intro _ <;> try (exfalso; omega)) | apply (zs65 ?_) | apply (zs68 ?_) | apply (zs69 ?_) | apply (zs70 ?_) | (apply zg27; refine zs72 ?_) | apply (zs74 ?_) | apply (zs75 ?_) | apply (zs80 ?_) | apply (zs81 ?_) | fail)
      (repeat apply VQ_tail); apply VQ_ret1; exact rfl; exact rfl
      have hbr : brokenE n.net r = false := by rw [hdl] at hi; exact hi
      exact ⟨by rw [if_neg (by rw [hbr]; decide)], rfl⟩
end Go.Proofs.YtleldppdflgmgaaGreat

/- Walks: cost, Cost, Check, Disjoint. -/
namespace Go.Proofs.YtleldppdflgmgaaGreat
open Go.RowKit Go.Eng Go.Nw Go.Rt

theorem good_find {n : Net} {a b : Int} (h : goodE n a b = true) : 0 ≤ findE n a b := by
  unfold goodE at h
  simp only [Bool.and_eq_true, decide_eq_true_eq] at h
  exact h.1
theorem fault_ok {n : Net} {s t : Int} {r : List Int} (h : faultE n s t r = 0) : (2 ≤ r.length ∧ r.length ≤ 9) ∧ r.any (offE n) = false ∧ (r.getD 0 0 = s ∧ r.getD (r.length - 1) 0 = t) ∧ twiceE r = false ∧ brokenE n r = false := by
  unfold faultE at h
  by_cases h1 : r.length < 2
  · rw [if_pos h1] at h; cases h
  rw [if_neg h1] at h
  by_cases h2 : 9 < r.length
  · rw [if_pos h2] at h; cases h
  rw [if_neg h2] at h
  cases h3 : r.any (offE n) with
  | true => rw [h3, if_pos rfl] at h; cases h
  | false =>
    rw [h3, if_neg (by decide)] at h
    by_cases h4 : r.getD 0 0 ≠ s ∨ r.getD (r.length - 1) 0 ≠ t
    · rw [if_pos h4] at h; cases h
    rw [if_neg h4] at h
    cases h5 : twiceE r with
    | true => rw [h5, if_pos rfl] at h; cases h
    | false =>
      rw [h5, if_neg (by decide)] at h
      cases h6 : brokenE n r with
      | true => rw [h6, if_pos rfl] at h; cases h
      | false => exact ⟨by omega, rfl, by omega, rfl, rfl⟩
theorem broken_good {n : Net} {r : List Int} (h : brokenE n r = false) {i : Nat} (hi : i + 1 < r.length) : goodE n (r.getD i 0) (r.getD (i + 1) 0) = true := by
  cases hg : goodE n (r.getD i 0) (r.getD (i + 1) 0) with
  | true => rfl
  | false =>
    have : brokenE n r = true := any_true (k := i) (by omega) (by rw [hg]; rfl)
    rw [this] at h; cases h

theorem Check_spec (n : NetM) (s t : Int) (r : List Int) {A : Option Addr} {cap B : Nat} {w0 : World} {H : List HP} {w : World} (hin : n.In B w0 H) (hr : Rd B w0 H A (r.flatMap numF)) (hlen : r.length ≤ 9223372036854775807) (hcap : r.length ≤ cap) (hw : St B w0 H w) :
    Calls Tryz.prog 10 [n.val, .int .i64 s, .int .i64 t, .slice A r.length cap].toArray w (Post B w0 fun v K => v = .int .i64 (CheckR n.net s t r) ∧ K = H) := by
  refine Calls_of_VC Tryz.func10 Tryz.ntmps10 rfl rfl hw ?_
  unfold CheckR
  by_cases h0 : endsE n.net s t = 0
  · have hck : checkE n.net = 0 := by
      unfold endsE at h0
      by_cases h : checkE n.net = 0
      · exact h
      · rw [if_pos h] at h0; cases h0
    have hen := fun {H : List HP} {w : World} (hin : n.In B w0 H) (hw : St B w0 H w) => ends_spec n s t hin hw
    rw [h0] at hen
    rw [if_neg (fun h => h h0)]
    repeat' (first | ((first | apply VL_callt en20 | apply VL_callq en20); (repeat (first | exact args_nil | (apply args_cons; exact rfl))); exact rfl; exact fun _ hw => (hen hin.cons hw)) | ((first | apply VL_callt en27 | apply VL_callq en27); (repeat (first | exact args_nil | (apply args_cons; exact rfl))); exact rfl; exact fun _ hw => (fault_spec n s t r hin.cons hck hr.cons hlen hcap hw)) | apply (zs1 ?_) | apply (zs2 ?_) | (apply zg3; refine zs8 ?_) | (apply zg8; (refine zs16 ?_ ?_ <;> intro _ <;> try (exfalso; omega))) | (apply zg23; (refine zs52 ?_; intro _)) | apply (zs65 ?_) | apply (zs68 ?_) | apply (zs69 ?_) | apply (zs70 ?_) | (apply zg27; refine zs72 ?_) | apply (zs74 ?_) | apply (zs76 ?_) | fail)
    (repeat apply VQ_tail); apply VQ_ret1; exact rfl; exact rfl; exact ⟨rfl, rfl⟩
  · rw [if_pos h0]
    repeat' (first | ((first | apply VL_callt en20 | apply VL_callq en20); (repeat (first | exact args_nil | (apply args_cons; exact rfl))); exact rfl; exact fun _ hw => (ends_spec n s t hin.cons hw)) | apply (zs1 ?_) | apply (zs2 ?_) | (apply zg3; refine zs8 ?_) | (apply zg8; (refine zs16 ?_ ?_ <;> intro _ <;> try (exfalso; omega))) | (apply zg23; (refine zs52 ?_; intro _)) | apply (zs65 ?_) | apply (zs68 ?_) | apply (zs69 ?_) | apply (zs70 ?_) | (apply zg27; refine zs71 ?_) | apply (zs74 ?_) | apply (zs77 ?_) | fail)
    (repeat apply VQ_tail); apply VQ_ret1; exact rfl; exact rfl; exact ⟨rfl, rfl⟩
end Go.Proofs.YtleldppdflgmgaaGreat

/- Walks: a queue of nodes, and its heap. -/
namespace Go.Proofs.YtleldppdflgmgaaGreat
open Go.RowKit Go.Eng Go.Nw

abbrev Itm := Int × Int
def itF (x : Itm) : List Value := [.int .i64 x.1, .int .i64 x.2]
def qpcs (g : Nat) (A : Option Addr) (cap : Nat) (q : List Itm) (H : List HP) : List HP := blk g (.cells #[.slice A q.length cap] 110 (0, 0)) :: sl 108 2 A q.length cap (q.flatMap itF) :: H
def qIf (g : Nat) : Value := .iface 106 (.pointer (some ⟨g, 0, none⟩))

/-! ### Which function a method of the queue is -/
theorem meth_Pop (g : Nat) (w : World) : (method (Tryz.prog.types.size + Made.depth) 106 (.pointer (some ⟨g, 0, none⟩)) "Pop").run Tryz.prog w = .ok (118, .pointer (some ⟨g, 0, none⟩)) w := by kernel_rfl
theorem meth_Push (g : Nat) (w : World) : (method (Tryz.prog.types.size + Made.depth) 106 (.pointer (some ⟨g, 0, none⟩)) "Push").run Tryz.prog w = .ok (119, .pointer (some ⟨g, 0, none⟩)) w := by kernel_rfl
theorem methN : Tryz.prog.types.size + Made.depth = (Tryz.prog.types.size + Made.depth - 1) + 1 := by kernel_rfl
theorem meth_Len {g : Nat} {v : Value} {B : Nat} {w0 : World} {H : List HP} (hb : blk g (.cells #[v] 110 (0, 0)) ∈ H) (w : World) (hw : St B w0 H w) : (method (Tryz.prog.types.size + Made.depth) 106 (.pointer (some ⟨g, 0, none⟩)) "Len").run Tryz.prog w = .ok (65, v) w := by
  rw [methN, run_methB (f := 65) (elem := 110) (by kernel_rfl)]
  have hc := cell_of_blk (i := 0) (hw.blk hb).1
  have h : (loadVar 110 ⟨g, 0, none⟩).run Tryz.prog w = .ok v w := by
    simp [loadVar, run_isAgg_false (T.scal (t := 110) rfl).1, hc]
  rw [h]; rfl
theorem meth_Less {g : Nat} {v : Value} {B : Nat} {w0 : World} {H : List HP} (hb : blk g (.cells #[v] 110 (0, 0)) ∈ H) (w : World) (hw : St B w0 H w) : (method (Tryz.prog.types.size + Made.depth) 106 (.pointer (some ⟨g, 0, none⟩)) "Less").run Tryz.prog w = .ok (117, v) w := by
  rw [methN, run_methB (f := 117) (elem := 110) (by kernel_rfl)]
  have hc := cell_of_blk (i := 0) (hw.blk hb).1
  have h : (loadVar 110 ⟨g, 0, none⟩).run Tryz.prog w = .ok v w := by
    simp [loadVar, run_isAgg_false (T.scal (t := 110) rfl).1, hc]
  rw [h]; rfl
theorem meth_Swap {g : Nat} {v : Value} {B : Nat} {w0 : World} {H : List HP} (hb : blk g (.cells #[v] 110 (0, 0)) ∈ H) (w : World) (hw : St B w0 H w) : (method (Tryz.prog.types.size + Made.depth) 106 (.pointer (some ⟨g, 0, none⟩)) "Swap").run Tryz.prog w = .ok (120, v) w := by
  rw [methN, run_methB (f := 120) (elem := 110) (by kernel_rfl)]
  have hc := cell_of_blk (i := 0) (hw.blk hb).1
  have h : (loadVar 110 ⟨g, 0, none⟩).run Tryz.prog w = .ok v w := by
    simp [loadVar, run_isAgg_false (T.scal (t := 110) rfl).1, hc]
  rw [h]; rfl

/-! ### The queue's methods -/
theorem qLen_spec (k : Nat) {A : Option Addr} {cap B : Nat} {w0 : World} {H : List HP} {w : World} (hw : St B w0 H w) :
    Calls Tryz.prog 65 [.slice A k cap].toArray w (Post B w0 fun v K => v = .int .i64 k ∧ K = H) := by
  refine Calls_of_VC Tryz.func65 Tryz.ntmps65 rfl rfl hw ?_
  repeat' (first | apply (zs1 ?_) | apply (zs2 ?_) | (apply zg4; refine zs9 ?_) | apply (zs65 ?_) | apply (zs68 ?_) | apply (zs69 ?_) | apply (zs70 ?_) | apply (zs74 ?_) | fail)
  apply VQ_ret1; exact rfl; exact rfl
  exact ⟨rfl, rfl⟩
theorem qLess_spec (q : List Itm) (i j : Nat) (x y : Itm) (hx : q[i]? = some x) (hy : q[j]? = some y) {A : Option Addr} {cap B : Nat} {w0 : World} {H : List HP} {w : World} (hr : Rd B w0 H A (q.flatMap itF)) (hw : St B w0 H w) :
    Calls Tryz.prog 117 [.slice A q.length cap, .int .i64 i, .int .i64 j].toArray w (Post B w0 fun v K => v = .bool (decide (x.2 < y.2)) ∧ K = H) := by
  refine Calls_of_VC Tryz.func117 Tryz.ntmps117 rfl rfl hw ?_
  have hi := (List.getElem?_eq_some_iff.1 hx).1
  have hj := (List.getElem?_eq_some_iff.1 hy).1
  by_cases hlt : x.2 < y.2
  · repeat' (first | apply (zs1 ?_) | apply (zs2 ?_) | (apply zg2; refine zs58 ?_) | (apply zg3; refine zs59 ?_) | (apply zg5; refine zs57 ?_) | (apply (zs17 ?_ ?_) <;> intro _ <;> try (exfalso; omega)) | apply (zs65 ?_) | apply (zs66 ?_) | apply (zs68 ?_) | apply (zs69 ?_) | apply (zs70 ?_) | apply (zs74 ?_) | (apply zg28; refine zs83 ?_) | fail)
    apply VQ_ret1; exact rfl; exact rfl
    exact ⟨by rw [decide_eq_true hlt], rfl⟩
  · repeat' (first | apply (zs1 ?_) | apply (zs2 ?_) | (apply zg2; refine zs58 ?_) | (apply zg3; refine zs59 ?_) | (apply zg5; refine zs57 ?_) | (apply (zs17 ?_ ?_) <;> intro _ <;> try (exfalso; omega)) | apply (zs65 ?_) | apply (zs66 ?_) | apply (zs68 ?_) | apply (zs69 ?_) | apply (zs70 ?_) | apply (zs74 ?_) | (apply zg28; refine zs83 ?_) | fail)
    apply VQ_ret1; exact rfl; exact rfl
    exact ⟨by rw [decide_eq_false hlt], rfl⟩
theorem qSwap_spec (q : List Itm) (i j : Nat) (x y : Itm) (hx : q[i]? = some x) (hy : q[j]? = some y) {A : Option Addr} {cap B : Nat} {w0 : World} {H : List HP} {w : World} (hw : St B w0 (sl 108 2 A q.length cap (q.flatMap itF) :: H) w) :
    Calls Tryz.prog 120 [.slice A q.length cap, .int .i64 i, .int .i64 j].toArray w (Post B w0 fun v K => v = .tuple #[] ∧ K = sl 108 2 A q.length cap (((q.set i y).set j x).flatMap itF) :: H) := by
  refine Calls_of_VC Tryz.func120 Tryz.ntmps120 rfl rfl hw ?_
  have hi := (List.getElem?_eq_some_iff.1 hx).1
  have hj := (List.getElem?_eq_some_iff.1 hy).1
  have hl1 : (q.set i y).length = q.length := List.length_set
  repeat' (first | fail)
  apply VC_heldM [2, 3, 0, 1, 4, 5, 6, 7, 8, 9, 10, 11, 12] [2, 3, 13, 14, 15] [13, 14, 15] [true]
  kernel_rfl
  kernel_rfl
  (repeat (first | with_reducible exact split_nil | with_reducible apply split_t | with_reducible apply split_f))
  (simp only [pickOps, nthO]; rfl)
  (simp only [pickOps, nthO]; rfl)
  repeat' (first | (apply VL_store_elem T (f := itF) (l := q) (i := i) (a := y); exact rfl; exact rfl; exact rfl; (repeat (first | with_reducible exact Upd.here _ | with_reducible apply Upd.there)); exact fun _ => rfl; exact rfl; exact rfl; exact rfl; omega) | (apply VL_store_elem T (f := itF) (l := q.set i y) (i := j) (a := x); exact rfl; exact rfl; exact rfl; (repeat (first | with_reducible exact Upd.here _ | with_reducible apply Upd.there)); exact fun _ => rfl; exact rfl; exact rfl; exact rfl; omega) | apply (zs1 ?_) | (apply zg3; refine zs61 ?_) | (apply zg5; refine zs10 ?_) | apply (zs65 ?_) | (apply VL_nilh; (repeat (first | with_reducible exact app_nil | with_reducible apply app_cons))) | apply (zs93 ?_) | apply (zs94 ?_) | fail)
  apply VQ_end0; exact rfl
  exact ⟨rfl, rfl⟩
end Go.Proofs.YtleldppdflgmgaaGreat

/- Walks: Pop and Push of a queue; the heap. -/
namespace Go.Proofs.YtleldppdflgmgaaGreat
open Go.RowKit Go.Eng Go.Nw

def itV (x : Itm) : Value := .agg #[.int .i64 x.1, .int .i64 x.2]
theorem q_shrink (q : List Itm) (x : Itm) {A : Option Addr} {cap : Nat} {B : Nat} {w0 w : World} {H : List HP} (hw : St B w0 (sl 108 2 A (q.length + 1) cap ((q ++ [x]).flatMap itF) :: H) w) : St B w0 (sl 108 2 A q.length cap (q.flatMap itF) :: H) w := by
  have e : ((q ++ [x]).flatMap itF).take (q.length * 2) = q.flatMap itF := by
    rw [← flat_take (q := 2) (fun _ => rfl), List.take_left' rfl]
  refine hw.shrink (e := 108) (size := 2) (k := q.length + 1) (k' := q.length) (cap := cap) (A := A) (xs := (q ++ [x]).flatMap itF) (Nat.le_succ _) ?_
  rw [e]
  exact Upd.here _
set_option maxRecDepth 10000 in
theorem qPop_spec (g : Nat) (q : List Itm) (x : Itm) (hl : q.length ≤ 100000000000) {A : Option Addr} {cap B : Nat} {w0 : World} {H : List HP} {w : World} (hw : St B w0 (qpcs g A cap (q ++ [x]) H) w) :
    Calls Tryz.prog 118 [.pointer (some ⟨g, 0, none⟩)].toArray w (Post B w0 fun v K => v = .iface 108 (itV x) ∧ K = qpcs g A cap q H) := by
  refine Calls_of_VC Tryz.func118 Tryz.ntmps118 rfl rfl hw ?_
  have hlen : (q ++ [x]).length = q.length + 1 := by simp
  have hxl : (q ++ [x])[((((q ++ [x]).length : Nat) : Int) - 1).toNat]? = some x := by
    rw [hlen, show (((q.length + 1 : Nat) : Int) - 1).toNat = q.length by omega]; simp
  unfold qpcs
  repeat' (first | apply (zs2 ?_) | apply (zs65 ?_) | apply (zs68 ?_) | apply (zs69 ?_) | apply (zs70 ?_) | fail)
  apply VC_held [0, 1, 2, 3, 4, 5, 6, 7, 8, 9, 10] [11] [true, true]
  kernel_rfl
  kernel_rfl
  (repeat (first | with_reducible exact split_nil | with_reducible apply split_t | with_reducible apply split_f))
  (simp only [pickOps, nthO]; rfl)
  (simp only [pickOps, nthO]; rfl)
  repeat' (first | apply (zs1 ?_) | apply (zs5 ?_) | (apply zg3; first | refine zs7 ?_ | refine zs61 ?_) | (apply zg4; refine zs9 ?_) | (apply zg5; refine zs10 ?_) | (apply zg14; refine zs31 ?_) | (apply zg22; refine zs51 ?_) | (apply zg24; (refine zs54 ?_; intro _)) | apply (zs65 ?_) | (apply VL_nilh; (repeat (first | with_reducible exact app_nil | with_reducible apply app_cons))) | apply (zs68 ?_) | apply (zs69 ?_) | apply (zs87 ?_) | (apply VQ_heldq; (repeat (first | with_reducible exact pull_nil | (with_reducible apply pull_cons; (repeat (first | with_reducible exact rem_here | with_reducible apply rem_there)))))) | apply (zs93 ?_) | apply (zs94 ?_) | fail)
  rename_i g3
  apply VC_held [0, 1, 2, 3, 4, 5, 6, 7, 8, 9, 10] [11] [true, true]
  kernel_rfl
  kernel_rfl
  (repeat (first | with_reducible exact split_nil | with_reducible apply split_t | with_reducible apply split_f))
  (simp only [pickOps, nthO]; rfl)
  (simp only [pickOps, nthO]; rfl)
  repeat' (first | (apply VL_slice_hi T (e := 108) (size := 2); exact rfl; exact rfl; (focus repeat (first | with_reducible exact List.mem_cons_self | with_reducible apply List.mem_cons_of_mem | assumption)); exact rfl; exact rfl; omega) | (apply VL_makeIface; exact rfl; kernel_rfl; exact rfl) | apply (zs1 ?_) | apply (zs2 ?_) | apply (zs5 ?_) | (apply zg3; first | refine zs7 ?_ | refine zs8 ?_) | (apply zg4; refine zs9 ?_) | (apply zg14; refine zs31 ?_) | (apply zg22; refine zs50 ?_) | apply (zs65 ?_) | (apply VL_nilh; (repeat (first | with_reducible exact app_nil | with_reducible apply app_cons))) | apply (zs68 ?_) | apply (zs69 ?_) | apply (zs70 ?_) | apply (zs74 ?_) | apply (zs93 ?_) | apply (zs94 ?_) | fail)
  apply VQ_st (qpcs g A cap q H)
  · intro w hw
    rw [show ((((q ++ [x]).length : Nat) : Int) - 1).toNat = q.length by rw [hlen]; omega, hlen] at hw
    have h5 : St B w0 (sl 108 2 A (q.length + 1) cap ((q ++ [x]).flatMap itF) :: blk g (.cells #[.slice A q.length cap] 110 (0, 0)) :: H) w := by
      revert w
      (intro w hw; refine hw.perm ?_; focus repeat (first | with_reducible exact Perm.refl _ | (with_reducible apply perm_take; focus ((repeat (first | with_reducible exact rem_here | with_reducible apply rem_there)); done)) | with_reducible apply Perm.dropK))
    exact (q_shrink q x h5).perm (.swap _ _ _)
  apply VQ_ret1; exact rfl; exact rfl
  exact ⟨rfl, rfl⟩
theorem qPush_spec (g : Nat) (q : List Itm) (x : Itm) (hl : q.length ≤ 100000000000) {A : Option Addr} {cap B : Nat} {w0 : World} {H : List HP} {w : World} (hw : St B w0 (qpcs g A cap q H) w) :
    Calls Tryz.prog 119 [.pointer (some ⟨g, 0, none⟩), .iface 108 (itV x)].toArray w (Post B w0 fun v K => ∃ A' cap', v = .tuple #[] ∧ K = qpcs g A' cap' (q ++ [x]) H) := by
  refine Calls_of_VC Tryz.func119 Tryz.ntmps119 rfl rfl hw ?_
  unfold qpcs itV
  repeat' (first | (apply VL_assertOk; exact rfl; kernel_rfl; exact rfl) | apply (zs1 ?_) | apply (zs2 ?_) | apply (zs13 ?_) | (apply zg22; refine zs51 ?_) | (apply zg24; (refine zs54 ?_; intro _)) | apply (zs65 ?_) | apply (zs68 ?_) | apply (zs69 ?_) | apply (zs70 ?_) | (apply zg27; refine zs71 ?_) | fail)
  rename_i g3
  apply VC_held [0, 1, 2, 3, 4, 5, 6, 7] [8] [true, true, false]
  kernel_rfl
  kernel_rfl
  (repeat (first | with_reducible exact split_nil | with_reducible apply split_t | with_reducible apply split_f))
  (simp only [pickOps, nthO]; rfl)
  (simp only [pickOps, nthO]; rfl)
  repeat' (first | apply (zs1 ?_) | apply (zs5 ?_) | (apply zg3; first | refine zs7 ?_ | refine zs8 ?_) | (apply zg21; (refine zs49 ?_; intro _ _)) | (apply zg22; refine zs50 ?_) | (apply zg26; (refine zs56 ?_; intro _)) | apply (zs65 ?_) | (apply VL_nilh; (repeat (first | with_reducible exact app_nil | with_reducible apply app_cons))) | apply (zs87 ?_) | (apply VQ_heldq; (repeat (first | with_reducible exact pull_nil | (with_reducible apply pull_cons; (repeat (first | with_reducible exact rem_here | with_reducible apply rem_there)))))) | apply (zs93 ?_) | apply (zs94 ?_) | fail)
  rename_i A3 cap3
  apply VQ_st (qpcs g A3 cap3 (q ++ [x]) H)
  · unfold qpcs
    rw [List.length_append, List.length_singleton, show (q ++ [x]).flatMap itF = q.flatMap itF ++ #[Value.int .i64 x.1, .int .i64 x.2].toList by simp [itF]]
    (intro w hw; refine hw.perm ?_; focus repeat (first | with_reducible exact Perm.refl _ | (with_reducible apply perm_take; focus ((repeat (first | with_reducible exact rem_here | with_reducible apply rem_there)); done)) | with_reducible apply Perm.dropK))
  apply VQ_end0; exact rfl
  exact ⟨A3, cap3, rfl, rfl⟩
theorem perm_swap {q : List Itm} {i j : Nat} {x y : Itm} (hx : q[i]? = some x) (hy : q[j]? = some y) : ((q.set i y).set j x).Perm q := by
  obtain ⟨hi, rfl⟩ := List.getElem?_eq_some_iff.1 hx
  obtain ⟨hj, rfl⟩ := List.getElem?_eq_some_iff.1 hy
  exact List.set_set_perm hi hj
end Go.Proofs.YtleldppdflgmgaaGreat

/- Walks: the heap of a queue of nodes: what is there stays, in another order. -/
namespace Go.Proofs.YtleldppdflgmgaaGreat
open Go.RowKit Go.Eng Go.Nw

theorem at_perm {q q' : List Itm} (h : q'.Perm q) : q'.length = q.length := h.length_eq
set_option maxRecDepth 10000 in
theorem down_spec (g : Nat) (q : List Itm) (i0 n : Nat) (hn : n ≤ q.length) (hl : q.length ≤ 100000000000) (hi0 : i0 ≤ 100000000000) {A : Option Addr} {cap B : Nat} {w0 : World} {H : List HP} {w : World} (hw : St B w0 (qpcs g A cap q H) w) :
    Calls Tryz.prog 90 [qIf g, .int .i64 i0, .int .i64 n].toArray w (Post B w0 fun v K => ∃ b q', v = .bool b ∧ q'.Perm q ∧ K = qpcs g A cap q' H) := by
  refine Calls_of_VC Tryz.func90 Tryz.ntmps90 rfl rfl hw ?_
  unfold qIf
  repeat' (first | apply (zs1 ?_) | apply (zs2 ?_) | apply (zs65 ?_) | apply (zs68 ?_) | apply (zs69 ?_) | apply (zs70 ?_) | apply (zs73 ?_) | fail)
  refine VC_loop1 (fun (z : Nat × List Itm) => [(7, .int .i64 z.1), (0, qIf g), (1, .int .i64 i0), (2, .int .i64 n)]) (fun z => qpcs g A cap z.2 H) (fun z => z.1 ≤ 100000000000 ∧ z.2.Perm q) (fun z => n - z.1) (i0, q) ⟨hi0, .refl _⟩ ?_ (fun w hw => hw) ?_
  · (repeat (first | exact sub_nil _ | (apply sub_cons; first | exact rfl | exact congrArg (fun z : Int => some (Value.int .i64 z)) (by omega))))
  rintro ⟨i, q1⟩ ⟨hi, hp⟩ K hK
  simp only at hi hp ⊢
  have hql := at_perm hp
  unfold qIf qpcs
  by_cases h1 : 2 * i + 1 < n
  rotate_left
  · have h1' : ¬ 2 * (i : Int) + 1 < n := by omega
    repeat' (first | apply (zs1 ?_) | apply (zs2 ?_) | (apply zg1; refine zs3 ?_) | (apply zg6; refine zs11 ?_) | (apply (zs19 ?_ ?_) <;> intro _ <;> try (exfalso; omega)) | (apply (zs20 ?_ ?_) <;> intro _ <;> try (exfalso; omega)) | (apply zg13; refine zs30 ?_) | (apply zg15; refine zs32 ?_) | apply (zs65 ?_) | apply (zs68 ?_) | apply (zs69 ?_) | apply (zs70 ?_) | (apply zg27; refine zs71 ?_) | apply (zs73 ?_) | apply (zs74 ?_) | apply (zs75 ?_) | apply (zs80 ?_) | apply (zs81 ?_) | apply (zs82 ?_) | fail)
    all_goals (
      apply VQ_ret1; exact rfl; exact rfl
      exact ⟨_, q1, rfl, hp, rfl⟩)
  have hin : i < n := by omega
  obtain ⟨xi, hxi⟩ : ∃ x, q1[i]? = some x := ⟨_, List.getElem?_eq_getElem (by omega)⟩
  obtain ⟨x1, hx1⟩ : ∃ x, q1[2 * i + 1]? = some x := ⟨_, List.getElem?_eq_getElem (by omega)⟩
  have e1 : (2 * (i : Int) + 1) = ((2 * i + 1 : Nat) : Int) := by omega
  have e2 : ((2 * i + 1 : Nat) : Int) + 1 = ((2 * i + 2 : Nat) : Int) := by omega
  by_cases h2 : 2 * i + 2 < n
  · obtain ⟨x2, hx2⟩ : ∃ x, q1[2 * i + 2]? = some x := ⟨_, List.getElem?_eq_getElem (by omega)⟩
    obtain ⟨b2, hb2⟩ : ∃ b, decide (x2.2 < x1.2) = b := ⟨_, rfl⟩
    have h21 := fun {w : World} (hr : Rd B w0 (qpcs g A cap q1 H) A (q1.flatMap itF)) (hw : St B w0 (qpcs g A cap q1 H) w) => qLess_spec q1 (2 * i + 2) (2 * i + 1) x2 x1 hx2 hx1 (cap := cap) hr hw
    rw [hb2] at h21
    unfold qpcs at h21
    repeat' (first | apply (zs1 ?_) | apply (zs2 ?_) | (apply zg1; refine zs4 ?_) | (apply zg6; refine zs12 ?_) | (apply (zs17 ?_ ?_) <;> intro _ <;> try (exfalso; omega)) | (apply (zs20 ?_ ?_) <;> intro _ <;> try (exfalso; omega)) | (apply zg13; refine zs30 ?_) | (apply zg15; refine zs32 ?_) | apply (zs65 ?_) | apply (zs68 ?_) | apply (zs69 ?_) | apply (zs70 ?_) | (apply zg27; refine zs72 ?_) | apply (zs73 ?_) | apply (zs76 ?_) | fail)
    rw [e1, e2]
    cases b2 with
    | false =>
      obtain ⟨b, hb⟩ : ∃ b, decide (x1.2 < xi.2) = b := ⟨_, rfl⟩
      have hless := fun {w : World} (hr : Rd B w0 (qpcs g A cap q1 H) A (q1.flatMap itF)) (hw : St B w0 (qpcs g A cap q1 H) w) => qLess_spec q1 (2 * i + 1) i x1 xi hx1 hxi (cap := cap) hr hw
      rw [hb] at hless
      have hswap := fun {H : List HP} {w : World} (hw : St B w0 (sl 108 2 A q1.length cap (q1.flatMap itF) :: H) w) => qSwap_spec q1 i (2 * i + 1) xi x1 hxi hx1 hw
      unfold qpcs at hless
      cases b with
      | false =>
        apply VL_invoket (f := 117); exact rfl; exact meth_Less (by (focus repeat (first | with_reducible exact List.mem_cons_self | with_reducible apply List.mem_cons_of_mem | assumption))); exact en117; (repeat (first | exact args_nil | (apply args_cons; exact rfl))); exact rfl; exact fun _ hw => h21 (.sl (by (focus repeat (first | with_reducible exact List.mem_cons_self | with_reducible apply List.mem_cons_of_mem | assumption)))) hw
        repeat' (first | apply (zs1 ?_) | (apply zg6; refine zs11 ?_) | apply (zs65 ?_) | apply (zs68 ?_) | apply (zs69 ?_) | apply (zs70 ?_) | (apply zg27; refine zs72 ?_) | apply (zs76 ?_) | fail)
        apply VL_invoket (f := 117); exact rfl; exact meth_Less (by (focus repeat (first | with_reducible exact List.mem_cons_self | with_reducible apply List.mem_cons_of_mem | assumption))); exact en117; (repeat (first | exact args_nil | (apply args_cons; exact rfl))); exact rfl; exact fun _ hw => hless (.sl (by (focus repeat (first | with_reducible exact List.mem_cons_self | with_reducible apply List.mem_cons_of_mem | assumption)))) hw
        repeat' (first | apply (zs1 ?_) | apply (zs2 ?_) | (apply (zs19 ?_ ?_) <;> intro _ <;> try (exfalso; omega)) | (apply zg20; refine zs48 ?_) | apply (zs65 ?_) | apply (zs68 ?_) | apply (zs69 ?_) | apply (zs70 ?_) | (apply zg27; refine zs71 ?_) | apply (zs74 ?_) | apply (zs75 ?_) | apply (zs80 ?_) | apply (zs81 ?_) | apply (zs82 ?_) | fail)
        all_goals (apply VQ_ret1; exact rfl; exact rfl; exact ⟨_, q1, rfl, hp, rfl⟩)
      | true =>
        apply VL_invoket (f := 117); exact rfl; exact meth_Less (by (focus repeat (first | with_reducible exact List.mem_cons_self | with_reducible apply List.mem_cons_of_mem | assumption))); exact en117; (repeat (first | exact args_nil | (apply args_cons; exact rfl))); exact rfl; exact fun _ hw => h21 (.sl (by (focus repeat (first | with_reducible exact List.mem_cons_self | with_reducible apply List.mem_cons_of_mem | assumption)))) hw
        repeat' (first | apply (zs1 ?_) | (apply zg6; refine zs11 ?_) | apply (zs65 ?_) | apply (zs68 ?_) | apply (zs69 ?_) | apply (zs70 ?_) | (apply zg27; refine zs72 ?_) | apply (zs76 ?_) | fail)
        apply VL_invoket (f := 117); exact rfl; exact meth_Less (by (focus repeat (first | with_reducible exact List.mem_cons_self | with_reducible apply List.mem_cons_of_mem | assumption))); exact en117; (repeat (first | exact args_nil | (apply args_cons; exact rfl))); exact rfl; exact fun _ hw => hless (.sl (by (focus repeat (first | with_reducible exact List.mem_cons_self | with_reducible apply List.mem_cons_of_mem | assumption)))) hw
        repeat' (first | apply (zs1 ?_) | (apply zg20; refine zs47 ?_) | apply (zs65 ?_) | apply (zs68 ?_) | apply (zs69 ?_) | apply (zs70 ?_) | (apply zg27; refine zs72 ?_) | apply (zs76 ?_) | fail)
        apply VL_st (sl 108 2 A q1.length cap (q1.flatMap itF) :: blk g (.cells #[.slice A q1.length cap] 110 (0, 0)) :: H)
        · (intro w hw; refine hw.perm ?_; focus repeat (first | with_reducible exact Perm.refl _ | (with_reducible apply perm_take; focus ((repeat (first | with_reducible exact rem_here | with_reducible apply rem_there)); done)) | with_reducible apply Perm.dropK))
        apply VL_invoke (f := 120); exact rfl; exact meth_Swap (by (focus repeat (first | with_reducible exact List.mem_cons_self | with_reducible apply List.mem_cons_of_mem | assumption))); exact en120; (repeat (first | exact args_nil | (apply args_cons; exact rfl))); exact rfl; exact fun _ hw => hswap hw
        rintro _ _ ⟨rfl, rfl⟩
        repeat' (first | apply (zs1 ?_) | apply (zs2 ?_) | apply (zs65 ?_) | apply (zs68 ?_) | apply (zs70 ?_) | apply (zs79 ?_) | fail)
        apply hK (2 * i + 1, (q1.set i x1).set (2 * i + 1) xi)
        · exact ⟨by simp only; omega, (perm_swap hxi hx1).trans hp⟩
        · simp only; omega
        · (repeat (first | exact sub_nil _ | (apply sub_cons; first | exact rfl | exact congrArg (fun z : Int => some (Value.int .i64 z)) (by omega))))
        · dsimp only
          unfold qpcs
          rw [List.length_set, List.length_set]
          (intro w hw; refine hw.perm ?_; focus repeat (first | with_reducible exact Perm.refl _ | (with_reducible apply perm_take; focus ((repeat (first | with_reducible exact rem_here | with_reducible apply rem_there)); done)) | with_reducible apply Perm.dropK))
    | true =>
      obtain ⟨b, hb⟩ : ∃ b, decide (x2.2 < xi.2) = b := ⟨_, rfl⟩
      have hless := fun {w : World} (hr : Rd B w0 (qpcs g A cap q1 H) A (q1.flatMap itF)) (hw : St B w0 (qpcs g A cap q1 H) w) => qLess_spec q1 (2 * i + 2) i x2 xi hx2 hxi (cap := cap) hr hw
      rw [hb] at hless
      have hswap := fun {H : List HP} {w : World} (hw : St B w0 (sl 108 2 A q1.length cap (q1.flatMap itF) :: H) w) => qSwap_spec q1 i (2 * i + 2) xi x2 hxi hx2 hw
      unfold qpcs at hless
      cases b with
      | false =>
        apply VL_invoket (f := 117); exact rfl; exact meth_Less (by (focus repeat (first | with_reducible exact List.mem_cons_self | with_reducible apply List.mem_cons_of_mem | assumption))); exact en117; (repeat (first | exact args_nil | (apply args_cons; exact rfl))); exact rfl; exact fun _ hw => h21 (.sl (by (focus repeat (first | with_reducible exact List.mem_cons_self | with_reducible apply List.mem_cons_of_mem | assumption)))) hw
        repeat' (first | apply (zs1 ?_) | apply (zs2 ?_) | (apply zg6; refine zs11 ?_) | apply (zs65 ?_) | apply (zs68 ?_) | apply (zs69 ?_) | apply (zs70 ?_) | (apply zg27; refine zs71 ?_) | fail)
        apply VL_invoket (f := 117); exact rfl; exact meth_Less (by (focus repeat (first | with_reducible exact List.mem_cons_self | with_reducible apply List.mem_cons_of_mem | assumption))); exact en117; (repeat (first | exact args_nil | (apply args_cons; exact rfl))); exact rfl; exact fun _ hw => hless (.sl (by (focus repeat (first | with_reducible exact List.mem_cons_self | with_reducible apply List.mem_cons_of_mem | assumption)))) hw
        repeat' (first | apply (zs1 ?_) | apply (zs2 ?_) | (apply (zs19 ?_ ?_) <;> intro _ <;> try (exfalso; omega)) | (apply zg20; refine zs48 ?_) | apply (zs65 ?_) | apply (zs68 ?_) | apply (zs69 ?_) | apply (zs70 ?_) | (apply zg27; refine zs71 ?_) | apply (zs74 ?_) | apply (zs75 ?_) | apply (zs80 ?_) | apply (zs81 ?_) | apply (zs82 ?_) | fail)
        all_goals (apply VQ_ret1; exact rfl; exact rfl; exact ⟨_, q1, rfl, hp, rfl⟩)
      | true =>
        apply VL_invoket (f := 117); exact rfl; exact meth_Less (by (focus repeat (first | with_reducible exact List.mem_cons_self | with_reducible apply List.mem_cons_of_mem | assumption))); exact en117; (repeat (first | exact args_nil | (apply args_cons; exact rfl))); exact rfl; exact fun _ hw => h21 (.sl (by (focus repeat (first | with_reducible exact List.mem_cons_self | with_reducible apply List.mem_cons_of_mem | assumption)))) hw
        repeat' (first | apply (zs1 ?_) | apply (zs2 ?_) | (apply zg6; refine zs11 ?_) | apply (zs65 ?_) | apply (zs68 ?_) | apply (zs69 ?_) | apply (zs70 ?_) | (apply zg27; refine zs71 ?_) | fail)
        apply VL_invoket (f := 117); exact rfl; exact meth_Less (by (focus repeat (first | with_reducible exact List.mem_cons_self | with_reducible apply List.mem_cons_of_mem | assumption))); exact en117; (repeat (first | exact args_nil | (apply args_cons; exact rfl))); exact rfl; exact fun _ hw => hless (.sl (by (focus repeat (first | with_reducible exact List.mem_cons_self | with_reducible apply List.mem_cons_of_mem | assumption)))) hw
        repeat' (first | apply (zs1 ?_) | (apply zg20; refine zs47 ?_) | apply (zs65 ?_) | apply (zs68 ?_) | apply (zs69 ?_) | apply (zs70 ?_) | (apply zg27; refine zs72 ?_) | apply (zs76 ?_) | fail)
        apply VL_st (sl 108 2 A q1.length cap (q1.flatMap itF) :: blk g (.cells #[.slice A q1.length cap] 110 (0, 0)) :: H)
        · (intro w hw; refine hw.perm ?_; focus repeat (first | with_reducible exact Perm.refl _ | (with_reducible apply perm_take; focus ((repeat (first | with_reducible exact rem_here | with_reducible apply rem_there)); done)) | with_reducible apply Perm.dropK))
        apply VL_invoke (f := 120); exact rfl; exact meth_Swap (by (focus repeat (first | with_reducible exact List.mem_cons_self | with_reducible apply List.mem_cons_of_mem | assumption))); exact en120; (repeat (first | exact args_nil | (apply args_cons; exact rfl))); exact rfl; exact fun _ hw => hswap hw
        rintro _ _ ⟨rfl, rfl⟩
        repeat' (first | apply (zs1 ?_) | apply (zs2 ?_) | apply (zs65 ?_) | apply (zs68 ?_) | apply (zs70 ?_) | apply (zs79 ?_) | fail)
        apply hK (2 * i + 2, (q1.set i x2).set (2 * i + 2) xi)
        · exact ⟨by simp only; omega, (perm_swap hxi hx2).trans hp⟩
        · simp only; omega
        · (repeat (first | exact sub_nil _ | (apply sub_cons; first | exact rfl | exact congrArg (fun z : Int => some (Value.int .i64 z)) (by omega))))
        · dsimp only
          unfold qpcs
          rw [List.length_set, List.length_set]
          (intro w hw; refine hw.perm ?_; focus repeat (first | with_reducible exact Perm.refl _ | (with_reducible apply perm_take; focus ((repeat (first | with_reducible exact rem_here | with_reducible apply rem_there)); done)) | with_reducible apply Perm.dropK))
  · have h2' : ¬ 2 * (i : Int) + 1 + 1 < n := by omega
    repeat' (first | apply (zs1 ?_) | apply (zs2 ?_) | (apply zg1; first | refine zs3 ?_ | refine zs4 ?_) | (apply zg6; refine zs12 ?_) | (apply (zs17 ?_ ?_) <;> intro _ <;> try (exfalso; omega)) | (apply (zs20 ?_ ?_) <;> intro _ <;> try (exfalso; omega)) | (apply zg13; refine zs30 ?_) | (apply zg15; refine zs32 ?_) | apply (zs65 ?_) | apply (zs68 ?_) | apply (zs69 ?_) | apply (zs70 ?_) | (apply zg27; refine zs72 ?_) | apply (zs73 ?_) | apply (zs76 ?_) | fail)
    rw [e1]
    obtain ⟨b, hb⟩ : ∃ b, decide (x1.2 < xi.2) = b := ⟨_, rfl⟩
    have hless := fun {w : World} (hr : Rd B w0 (qpcs g A cap q1 H) A (q1.flatMap itF)) (hw : St B w0 (qpcs g A cap q1 H) w) => qLess_spec q1 (2 * i + 1) i x1 xi hx1 hxi (cap := cap) hr hw
    rw [hb] at hless
    have hswap := fun {H : List HP} {w : World} (hw : St B w0 (sl 108 2 A q1.length cap (q1.flatMap itF) :: H) w) => qSwap_spec q1 i (2 * i + 1) xi x1 hxi hx1 hw
    unfold qpcs at hless
    cases b with
    | false =>
      repeat' (first | fail)
      apply VL_invoket (f := 117); exact rfl; exact meth_Less (by (focus repeat (first | with_reducible exact List.mem_cons_self | with_reducible apply List.mem_cons_of_mem | assumption))); exact en117; (repeat (first | exact args_nil | (apply args_cons; exact rfl))); exact rfl; exact fun _ hw => hless (.sl (by (focus repeat (first | with_reducible exact List.mem_cons_self | with_reducible apply List.mem_cons_of_mem | assumption)))) hw
      repeat' (first | apply (zs1 ?_) | apply (zs2 ?_) | (apply (zs19 ?_ ?_) <;> intro _ <;> try (exfalso; omega)) | (apply zg20; refine zs48 ?_) | apply (zs65 ?_) | apply (zs68 ?_) | apply (zs69 ?_) | apply (zs70 ?_) | (apply zg27; refine zs71 ?_) | apply (zs74 ?_) | apply (zs75 ?_) | apply (zs80 ?_) | apply (zs81 ?_) | apply (zs82 ?_) | fail)
      all_goals (apply VQ_ret1; exact rfl; exact rfl; exact ⟨_, q1, rfl, hp, rfl⟩)
    | true =>
      repeat' (first | fail)
      apply VL_invoket (f := 117); exact rfl; exact meth_Less (by (focus repeat (first | with_reducible exact List.mem_cons_self | with_reducible apply List.mem_cons_of_mem | assumption))); exact en117; (repeat (first | exact args_nil | (apply args_cons; exact rfl))); exact rfl; exact fun _ hw => hless (.sl (by (focus repeat (first | with_reducible exact List.mem_cons_self | with_reducible apply List.mem_cons_of_mem | assumption)))) hw
      repeat' (first | apply (zs1 ?_) | (apply zg20; refine zs47 ?_) | apply (zs65 ?_) | apply (zs68 ?_) | apply (zs69 ?_) | apply (zs70 ?_) | (apply zg27; refine zs72 ?_) | apply (zs76 ?_) | fail)
      apply VL_st (sl 108 2 A q1.length cap (q1.flatMap itF) :: blk g (.cells #[.slice A q1.length cap] 110 (0, 0)) :: H)
      · (intro w hw; refine hw.perm ?_; focus repeat (first | with_reducible exact Perm.refl _ | (with_reducible apply perm_take; focus ((repeat (first | with_reducible exact rem_here | with_reducible apply rem_there)); done)) | with_reducible apply Perm.dropK))
      apply VL_invoke (f := 120); exact rfl; exact meth_Swap (by (focus repeat (first | with_reducible exact List.mem_cons_self | with_reducible apply List.mem_cons_of_mem | assumption))); exact en120; (repeat (first | exact args_nil | (apply args_cons; exact rfl))); exact rfl; exact fun _ hw => hswap hw
      rintro _ _ ⟨rfl, rfl⟩
      repeat' (first | apply (zs1 ?_) | apply (zs2 ?_) | apply (zs65 ?_) | apply (zs68 ?_) | apply (zs70 ?_) | apply (zs79 ?_) | fail)
      apply hK (2 * i + 1, (q1.set i x1).set (2 * i + 1) xi)
      · exact ⟨by simp only; omega, (perm_swap hxi hx1).trans hp⟩
      · simp only; omega
      · (repeat (first | exact sub_nil _ | (apply sub_cons; first | exact rfl | exact congrArg (fun z : Int => some (Value.int .i64 z)) (by omega))))
      · dsimp only
        unfold qpcs
        rw [List.length_set, List.length_set]
        (intro w hw; refine hw.perm ?_; focus repeat (first | with_reducible exact Perm.refl _ | (with_reducible apply perm_take; focus ((repeat (first | with_reducible exact rem_here | with_reducible apply rem_there)); done)) | with_reducible apply Perm.dropK))
end Go.Proofs.YtleldppdflgmgaaGreat

/- Walks: up, Push and Pop of the heap of a queue of nodes. -/
namespace Go.Proofs.YtleldppdflgmgaaGreat
open Go.RowKit Go.Eng Go.Nw

theorem meth_Pop' {g : Nat} {B : Nat} {w0 : World} {H : List HP} (w : World) (_ : St B w0 H w) : (method (Tryz.prog.types.size + Made.depth) 106 (.pointer (some ⟨g, 0, none⟩)) "Pop").run Tryz.prog w = .ok (118, .pointer (some ⟨g, 0, none⟩)) w := meth_Pop g w
theorem meth_Push' {g : Nat} {B : Nat} {w0 : World} {H : List HP} (w : World) (_ : St B w0 H w) : (method (Tryz.prog.types.size + Made.depth) 106 (.pointer (some ⟨g, 0, none⟩)) "Push").run Tryz.prog w = .ok (119, .pointer (some ⟨g, 0, none⟩)) w := meth_Push g w
set_option maxRecDepth 10000 in
theorem up_spec (g : Nat) (q : List Itm) (j0 : Nat) (hj0 : j0 < q.length) (hl : q.length ≤ 100000000000) {A : Option Addr} {cap B : Nat} {w0 : World} {H : List HP} {w : World} (hw : St B w0 (qpcs g A cap q H) w) :
    Calls Tryz.prog 91 [qIf g, .int .i64 j0].toArray w (Post B w0 fun v K => ∃ q', v = .tuple #[] ∧ q'.Perm q ∧ K = qpcs g A cap q' H) := by
  refine Calls_of_VC Tryz.func91 Tryz.ntmps91 rfl rfl hw ?_
  unfold qIf
  repeat' (first | apply (zs73 ?_) | fail)
  refine VC_loop1 (fun (z : Nat × List Itm) => [(1, .int .i64 z.1), (0, qIf g)]) (fun z => qpcs g A cap z.2 H) (fun z => z.1 < q.length ∧ z.2.Perm q) (fun z => z.1) (j0, q) ⟨hj0, .refl _⟩ ?_ (fun w hw => hw) ?_
  · (repeat (first | exact sub_nil _ | (apply sub_cons; first | exact rfl | exact congrArg (fun z : Int => some (Value.int .i64 z)) (by omega))))
  rintro ⟨j, q1⟩ ⟨hj, hp⟩ K hK
  simp only at hj hp ⊢
  have hql := at_perm hp
  unfold qIf qpcs
  by_cases h1 : j = 0
  · subst h1
    repeat' (first | (apply VL_quo_w; exact rfl; exact rfl; exact rfl; decide; rw [show IntKind.i64.wrap ((((0 : Nat) : Int) - 1).tdiv 2) = 0 by decide]) | apply (zs1 ?_) | apply (zs2 ?_) | (apply zg1; refine zs3 ?_) | (apply zg6; refine zs11 ?_) | (apply zg7; (refine zs15 ?_ ?_ <;> intro _ <;> try (exfalso; omega))) | (apply zg14; refine zs31 ?_) | apply (zs65 ?_) | apply (zs68 ?_) | apply (zs69 ?_) | apply (zs70 ?_) | (apply zg27; refine zs71 ?_) | apply (zs73 ?_) | apply (zs75 ?_) | apply (zs80 ?_) | apply (zs81 ?_) | apply (zs82 ?_) | fail)
    apply VQ_end0; exact rfl
    exact ⟨q1, rfl, hp, rfl⟩
  have hjj : 1 ≤ j := by omega
  obtain ⟨xj, hxj⟩ : ∃ x, q1[j]? = some x := ⟨_, List.getElem?_eq_getElem (by omega)⟩
  obtain ⟨i, hi⟩ : ∃ i, (j - 1) / 2 = i := ⟨_, rfl⟩
  have hij : i < j := by omega
  obtain ⟨xi, hxi⟩ : ∃ x, q1[i]? = some x := ⟨_, List.getElem?_eq_getElem (by omega)⟩
  have e1 : ((j : Int) - 1) / 2 = (i : Int) := by omega
  obtain ⟨b, hb⟩ : ∃ b, decide (xj.2 < xi.2) = b := ⟨_, rfl⟩
  have hless := fun {w : World} (hr : Rd B w0 (qpcs g A cap q1 H) A (q1.flatMap itF)) (hw : St B w0 (qpcs g A cap q1 H) w) => qLess_spec q1 j i xj xi hxj hxi (cap := cap) hr hw
  rw [hb] at hless
  unfold qpcs at hless
  have hswap := fun {H : List HP} {w : World} (hw : St B w0 (sl 108 2 A q1.length cap (q1.flatMap itF) :: H) w) => qSwap_spec q1 i j xi xj hxi hxj hw
  cases b with
  | false =>
    repeat' (first | apply (zs1 ?_) | apply (zs2 ?_) | (apply zg1; refine zs4 ?_) | (apply zg7; (refine zs15 ?_ ?_ <;> intro _ <;> try (exfalso; omega))) | (apply zg14; refine zs31 ?_) | (apply zg16; refine zs36 ?_) | apply (zs65 ?_) | apply (zs68 ?_) | apply (zs69 ?_) | apply (zs70 ?_) | apply (zs73 ?_) | fail)
    rw [e1]
    apply VL_invoket (f := 117)
    exact rfl
    exact meth_Less (by (focus repeat (first | with_reducible exact List.mem_cons_self | with_reducible apply List.mem_cons_of_mem | assumption)))
    exact en117
    (repeat (first | exact args_nil | (apply args_cons; exact rfl)))
    exact rfl
    exact fun _ hw => (hless (.sl (by (focus repeat (first | with_reducible exact List.mem_cons_self | with_reducible apply List.mem_cons_of_mem | assumption)))) hw)
    repeat' (first | (apply zg1; refine zs4 ?_) | (apply zg6; refine zs12 ?_) | (apply zg20; refine zs48 ?_) | apply (zs65 ?_) | apply (zs68 ?_) | (apply zg27; refine zs71 ?_) | apply (zs75 ?_) | apply (zs80 ?_) | apply (zs81 ?_) | apply (zs82 ?_) | fail)
    apply VQ_end0; exact rfl
    exact ⟨q1, rfl, hp, rfl⟩
  | true =>
    repeat' (first | apply (zs1 ?_) | apply (zs2 ?_) | (apply zg1; refine zs4 ?_) | (apply zg7; (refine zs15 ?_ ?_ <;> intro _ <;> try (exfalso; omega))) | (apply zg14; refine zs31 ?_) | (apply zg16; refine zs36 ?_) | apply (zs65 ?_) | apply (zs68 ?_) | apply (zs69 ?_) | apply (zs70 ?_) | apply (zs73 ?_) | fail)
    rw [e1]
    apply VL_invoket (f := 117)
    exact rfl
    exact meth_Less (by (focus repeat (first | with_reducible exact List.mem_cons_self | with_reducible apply List.mem_cons_of_mem | assumption)))
    exact en117
    (repeat (first | exact args_nil | (apply args_cons; exact rfl)))
    exact rfl
    exact fun _ hw => (hless (.sl (by (focus repeat (first | with_reducible exact List.mem_cons_self | with_reducible apply List.mem_cons_of_mem | assumption)))) hw)
    repeat' (first | apply (zs1 ?_) | (apply zg1; refine zs4 ?_) | (apply zg6; refine zs12 ?_) | (apply zg20; refine zs47 ?_) | apply (zs65 ?_) | apply (zs68 ?_) | apply (zs69 ?_) | apply (zs70 ?_) | (apply zg27; refine zs72 ?_) | apply (zs76 ?_) | fail)
    apply VL_st (sl 108 2 A q1.length cap (q1.flatMap itF) :: blk g (.cells #[.slice A q1.length cap] 110 (0, 0)) :: H)
    · (intro w hw; refine hw.perm ?_; focus repeat (first | with_reducible exact Perm.refl _ | (with_reducible apply perm_take; focus ((repeat (first | with_reducible exact rem_here | with_reducible apply rem_there)); done)) | with_reducible apply Perm.dropK))
    apply VL_invoke (f := 120) _
    exact rfl
    exact meth_Swap (by (focus repeat (first | with_reducible exact List.mem_cons_self | with_reducible apply List.mem_cons_of_mem | assumption)))
    exact en120
    (repeat (first | exact args_nil | (apply args_cons; exact rfl)))
    exact rfl
    exact fun _ hw => (hswap hw)
    rintro _ _ ⟨rfl, rfl⟩
    repeat' (first | apply (zs1 ?_) | apply (zs2 ?_) | apply (zs65 ?_) | apply (zs68 ?_) | apply (zs70 ?_) | apply (zs79 ?_) | fail)
    apply hK (i, (q1.set i xj).set j xi)
    · exact ⟨by simp only; omega, (perm_swap hxi hxj).trans hp⟩
    · simp only; omega
    · (repeat (first | exact sub_nil _ | (apply sub_cons; first | exact rfl | exact congrArg (fun z : Int => some (Value.int .i64 z)) (by omega))))
    · dsimp only
      unfold qpcs
      rw [List.length_set, List.length_set]
      (intro w hw; refine hw.perm ?_; focus repeat (first | with_reducible exact Perm.refl _ | (with_reducible apply perm_take; focus ((repeat (first | with_reducible exact rem_here | with_reducible apply rem_there)); done)) | with_reducible apply Perm.dropK))

theorem hPush_spec (g : Nat) (q : List Itm) (x : Itm) (hl : q.length ≤ 99999999999) {A : Option Addr} {cap B : Nat} {w0 : World} {H : List HP} {w : World} (hw : St B w0 (qpcs g A cap q H) w) :
    Calls Tryz.prog 67 [qIf g, .iface 108 (itV x)].toArray w (Post B w0 fun v K => ∃ A' cap' q', v = .tuple #[] ∧ q'.Perm (x :: q) ∧ K = qpcs g A' cap' q' H) := by
  refine Calls_of_VC Tryz.func67 Tryz.ntmps67 rfl rfl hw ?_
  unfold qIf
  repeat' (first | apply (zs1 ?_) | apply (zs69 ?_) | apply (zs70 ?_) | fail)
  apply VL_invoke (f := 119) _
  exact rfl
  exact meth_Push'
  exact en119
  (repeat (first | exact args_nil | (apply args_cons; exact rfl)))
  exact rfl
  exact fun _ hw => (qPush_spec g q x (by omega) hw)
  rintro _ _ ⟨A2, cap2, rfl, rfl⟩
  unfold qpcs
  repeat' (first | apply (zs1 ?_) | apply (zs65 ?_) | apply (zs68 ?_) | apply (zs70 ?_) | fail)
  have hlen : (q ++ [x]).length = q.length + 1 := by simp
  apply VL_invoket (f := 65)
  exact rfl
  exact meth_Len (by (focus repeat (first | with_reducible exact List.mem_cons_self | with_reducible apply List.mem_cons_of_mem | assumption)))
  exact en65
  (repeat (first | exact args_nil | (apply args_cons; exact rfl)))
  exact rfl
  exact fun _ hw => (qLen_spec _ hw)
  repeat' (first | (apply zg14; refine zs31 ?_) | fail)
  rw [show (((q ++ [x]).length : Nat) : Int) - 1 = ((q.length : Nat) : Int) by omega]
  apply VL_st (qpcs g A2 cap2 (q ++ [x]) H)
  · unfold qpcs
    (intro w hw; refine hw.perm ?_; focus repeat (first | with_reducible exact Perm.refl _ | (with_reducible apply perm_take; focus ((repeat (first | with_reducible exact rem_here | with_reducible apply rem_there)); done)) | with_reducible apply Perm.dropK))
  apply VL_call _ en91
  (repeat (first | exact args_nil | (apply args_cons; exact rfl)))
  exact rfl
  exact fun _ hw => (up_spec g (q ++ [x]) q.length (by omega) (by omega) (hw))
  rintro _ _ ⟨q', rfl, hp, rfl⟩
  repeat' (first | apply (zs65 ?_) | fail)
  apply VQ_end0; exact rfl
  exact ⟨A2, cap2, q', rfl, hp.trans List.perm_append_comm, rfl⟩

theorem hPop_spec (g : Nat) (q : List Itm) (h0 : q ≠ []) (hl : q.length ≤ 100000000000) {A : Option Addr} {cap B : Nat} {w0 : World} {H : List HP} {w : World} (hw : St B w0 (qpcs g A cap q H) w) :
    Calls Tryz.prog 66 [qIf g].toArray w (Post B w0 fun v K => ∃ x q', v = .iface 108 (itV x) ∧ (x :: q').Perm q ∧ K = qpcs g A cap q' H) := by
  refine Calls_of_VC Tryz.func66 Tryz.ntmps66 rfl rfl hw ?_
  have hpos : 0 < q.length := List.length_pos_iff.2 h0
  obtain ⟨x0, hx0⟩ : ∃ x, q[0]? = some x := ⟨_, List.getElem?_eq_getElem (by omega)⟩
  obtain ⟨xn, hxn⟩ : ∃ x, q[q.length - 1]? = some x := ⟨_, List.getElem?_eq_getElem (by omega)⟩
  have hswap := fun {H : List HP} {w : World} (hw : St B w0 (sl 108 2 A q.length cap (q.flatMap itF) :: H) w) => qSwap_spec q 0 (q.length - 1) x0 xn hx0 hxn hw
  have hp1 := perm_swap hx0 hxn
  unfold qIf qpcs
  repeat' (first | apply (zs1 ?_) | apply (zs2 ?_) | apply (zs65 ?_) | apply (zs68 ?_) | apply (zs69 ?_) | apply (zs70 ?_) | fail)
  apply VL_invoket (f := 65)
  exact rfl
  exact meth_Len (by (focus repeat (first | with_reducible exact List.mem_cons_self | with_reducible apply List.mem_cons_of_mem | assumption)))
  exact en65
  (repeat (first | exact args_nil | (apply args_cons; exact rfl)))
  exact rfl
  exact fun _ hw => (qLen_spec _ hw)
  repeat' (first | apply (zs1 ?_) | apply (zs2 ?_) | (apply zg14; refine zs31 ?_) | apply (zs65 ?_) | apply (zs68 ?_) | apply (zs69 ?_) | apply (zs70 ?_) | fail)
  rw [show ((q.length : Nat) : Int) - 1 = ((q.length - 1 : Nat) : Int) by omega]
  apply VL_st (sl 108 2 A q.length cap (q.flatMap itF) :: blk g (.cells #[.slice A q.length cap] 110 (0, 0)) :: H)
  · (intro w hw; refine hw.perm ?_; focus repeat (first | with_reducible exact Perm.refl _ | (with_reducible apply perm_take; focus ((repeat (first | with_reducible exact rem_here | with_reducible apply rem_there)); done)) | with_reducible apply Perm.dropK))
  apply VL_invoke (f := 120) _
  exact rfl
  exact meth_Swap (by (focus repeat (first | with_reducible exact List.mem_cons_self | with_reducible apply List.mem_cons_of_mem | assumption)))
  exact en120
  (repeat (first | exact args_nil | (apply args_cons; exact rfl)))
  exact rfl
  exact fun _ hw => (hswap hw)
  rintro _ _ ⟨rfl, rfl⟩
  obtain ⟨q1, hq1⟩ : ∃ q1, (q.set 0 xn).set (q.length - 1) x0 = q1 := ⟨_, rfl⟩
  rw [hq1] at hp1
  have hl1 := hp1.length_eq
  rw [hq1, ← hl1]
  repeat' (first | apply (zs1 ?_) | apply (zs65 ?_) | apply (zs68 ?_) | apply (zs69 ?_) | apply (zs70 ?_) | fail)
  apply VL_st (qpcs g A cap q1 H)
  · unfold qpcs
    (intro w hw; refine hw.perm ?_; focus repeat (first | with_reducible exact Perm.refl _ | (with_reducible apply perm_take; focus ((repeat (first | with_reducible exact rem_here | with_reducible apply rem_there)); done)) | with_reducible apply Perm.dropK))
  apply VL_call _ en90
  (repeat (first | exact args_nil | (apply args_cons; exact rfl)))
  exact rfl
  exact fun _ hw => (down_spec g q1 0 (q1.length - 1) (by omega) (by omega) (by omega) (hw))
  rintro _ _ ⟨b, q2, rfl, hp2, rfl⟩
  have hl2 := hp2.length_eq
  obtain ⟨q3, x, rfl⟩ : ∃ q3 x, q2 = q3 ++ [x] := by
    have hne : q2 ≠ [] := by intro h; rw [h] at hl2; simp at hl2; omega
    exact ⟨q2.dropLast, q2.getLast hne, (List.dropLast_concat_getLast hne).symm⟩
  have hl3 : (q3 ++ [x]).length = q3.length + 1 := by simp
  repeat' (first | apply (zs1 ?_) | apply (zs65 ?_) | apply (zs68 ?_) | apply (zs69 ?_) | apply (zs70 ?_) | fail)
  apply VL_invoke (f := 118) _
  exact rfl
  exact meth_Pop'
  exact en118
  (repeat (first | exact args_nil | (apply args_cons; exact rfl)))
  exact rfl
  exact fun _ hw => (qPop_spec g q3 x (by omega) hw)
  rintro _ _ ⟨rfl, rfl⟩
  repeat' (first | apply (zs2 ?_) | apply (zs65 ?_) | apply (zs68 ?_) | apply (zs74 ?_) | fail)
  apply VQ_ret1; exact rfl; exact rfl
  exact ⟨x, q3, rfl, (List.perm_append_comm (l₁ := [x]) (l₂ := q3)).trans (hp2.trans hp1), rfl⟩
end Go.Proofs.YtleldppdflgmgaaGreat

/- Walks: slices.Repeat of one number. -/
namespace Go.Proofs.YtleldppdflgmgaaGreat
open Go.RowKit Go.Eng Go.Nw

theorem mul_spec (c : Nat) (hc : c ≤ 1000000) {B : Nat} {w0 : World} {H : List HP} {w : World} (hw : St B w0 H w) :
    Calls Tryz.prog 88 [.int .u64 1, .int .u64 c].toArray w (Post B w0 fun v K => v = .tuple #[.int .u64 0, .int .u64 c] ∧ K = H) := by
  have h := Tryz.bits_Mul 1 c (by omega) (by omega) w
  rw [Nat.one_mul, Nat.div_eq_of_lt (by omega), Nat.mod_eq_of_lt (by omega)] at h
  exact post_same hw h
def fillL (v : Int) (c k : Nat) : List Int := List.replicate k v ++ List.replicate (c - k) 0
theorem fill_len {v : Int} {c k : Nat} (h : k ≤ c) : (fillL v c k).length = c := by simp [fillL]; omega
theorem fill_step {v : Int} {c k m : Nat} (hk : k + m ≤ c) (hm : m ≤ k) : (fillL v c k).take k ++ (fillL v c k).take m ++ (fillL v c k).drop (k + m) = fillL v c (k + m) := by
  unfold fillL
  rw [List.take_append, List.take_append, List.drop_append]
  simp only [List.length_replicate, Nat.sub_self, List.take_replicate, Nat.min_self, List.drop_replicate]
  rw [Nat.min_eq_left hm, show m - k = 0 by omega, show k - (k + m) = 0 by omega, Nat.zero_min, List.replicate_zero, List.append_nil, List.append_nil, List.replicate_zero, List.nil_append, List.replicate_append_replicate, show c - k - (k + m - k) = c - (k + m) by omega]
theorem take_num (l : List Int) (k : Nat) : (l.flatMap numF).take k = (l.take k).flatMap numF := by
  rw [flat_take (q := 1) (fun _ => rfl), Nat.mul_one]
theorem drop_num (l : List Int) (k : Nat) : (l.flatMap numF).drop k = (l.drop k).flatMap numF := by
  rw [flat_drop (q := 1) (fun _ => rfl), Nat.mul_one]
theorem one_num (l : List Int) : ∀ v ∈ l.flatMap numF, v.oneCell' = true := by
  intro v hv
  obtain ⟨z, _, hz⟩ := List.mem_flatMap.1 hv
  obtain rfl : v = .int .i64 z := by simpa [numF] using hz
  rfl
theorem zero_num (c : Nat) : List.replicate c (Value.int .i64 0) = (List.replicate c (0 : Int)).flatMap numF := by
  induction c with
  | zero => rfl
  | succ c ih => rw [List.replicate_succ, List.replicate_succ, List.flatMap_cons, ih]; rfl

set_option maxRecDepth 10000 in
theorem repeat_spec (v : Int) (c : Nat) (hc : 1 ≤ c ∧ c ≤ 100000) {A2 : Option Addr} {cap2 B : Nat} {w0 : World} {H : List HP} {w : World} (hr : Rd B w0 H A2 (numF v)) (hw : St B w0 H w) :
    Calls Tryz.prog 61 [.slice A2 1 cap2, .int .i64 c].toArray w (Post B w0 fun u K => ∃ g, u = .slice (some ⟨g, 0, none⟩) (List.replicate c v).length c ∧ K = ints (some ⟨g, 0, none⟩) c (List.replicate c v) :: H) := by
  refine Calls_of_VC Tryz.func61 Tryz.ntmps61 rfl rfl hw ?_
  repeat' (first | ((first | apply VL_callt en88 | apply VL_callq en88); (repeat (first | exact args_nil | (apply args_cons; exact rfl))); exact rfl; exact fun _ hw => (mul_spec c (by omega) hw)) | (apply VL_make1 T; exact rfl; exact rfl; exact rfl; exact zi3; exact rfl; exact rfl; exact rfl; omega; intro _) | apply (zs1 ?_) | apply (zs2 ?_) | (apply zg1; refine zs4 ?_) | (apply zg4; refine zs9 ?_) | (apply zg6; refine zs12 ?_) | apply (zs13 ?_) | (apply (zs17 ?_ ?_) <;> intro _ <;> try (exfalso; omega)) | (apply (zs19 ?_ ?_) <;> intro _ <;> try (exfalso; omega)) | (apply zg19; first | refine zs44 ?_ | refine zs45 ?_) | apply (zs65 ?_) | apply (zs68 ?_) | apply (zs69 ?_) | apply (zs70 ?_) | (apply zg27; refine zs72 ?_) | apply (zs76 ?_) | fail)
  rename_i g
  simp only [Int.toNat_natCast]
  rw [zero_num]
  apply VL_copy T (o := 0) (k := c) (kd := c) (mm := 1) (ys := numF v) (xs := (List.replicate c (0 : Int)).flatMap numF)
  exact rfl
  exact rfl
  exact hr.cons
  (repeat (first | with_reducible exact Upd.here _ | with_reducible apply Upd.there))
  exact rfl
  exact rfl
  · intro x hx
    obtain rfl : x = .int .i64 v := by simpa [numF] using hx
    rfl
  · simp [numF]; omega
  have e1 : min 1 c = 1 := by omega
  have e2 : ((List.replicate c (0 : Int)).flatMap numF).take 0 ++ (numF v).take 1 ++ ((List.replicate c (0 : Int)).flatMap numF).drop (0 + 1) = (fillL v c 1).flatMap numF := by
    obtain ⟨c', rfl⟩ : ∃ c', c = c' + 1 := ⟨c - 1, by omega⟩
    rw [List.replicate_succ]
    simp [fillL, numF, List.replicate_succ]
  rw [e1, e2]
  repeat' (first | apply (zs2 ?_) | apply (zs65 ?_) | apply (zs68 ?_) | apply (zs69 ?_) | apply (zs73 ?_) | fail)
  refine VC_loop1 (fun (k : Nat) => [(8, .int .i64 k), (7, .slice (some ⟨g, 0, none⟩) c c)]) (fun k => sl 3 1 (some ⟨g, 0, none⟩) c c ((fillL v c k).flatMap numF) :: H) (fun k => 1 ≤ k ∧ k ≤ c) (fun k => c - k) 1 ⟨by omega, hc.1⟩ ?_ (fun w hw => hw) ?_
  · (repeat (first | exact sub_nil _ | (apply sub_cons; first | exact rfl | exact congrArg (fun z : Int => some (Value.int .i64 z)) (by omega))))
  rintro k ⟨hk1, hk⟩ K hK
  have hfl := fill_len (v := v) hk
  have hfl2 : ((fillL v c k).flatMap numF).length = c := by rw [length_flat (q := 1) (fun _ => rfl), hfl, Nat.mul_one]
  by_cases hlt : k < c
  · repeat' (first | apply (zs1 ?_) | (apply zg4; refine zs9 ?_) | (apply (zs17 ?_ ?_) <;> intro _ <;> try (exfalso; omega)) | apply (zs65 ?_) | apply (zs68 ?_) | apply (zs69 ?_) | apply (zs70 ?_) | (apply zg27; refine zs71 ?_) | apply (zs73 ?_) | apply (zs76 ?_) | fail)
    apply VC_heldM [0, 1, 2, 3, 4, 5, 6] [0, 7, 8, 9] [7, 8, 9] [true]
    kernel_rfl
    kernel_rfl
    (repeat (first | with_reducible exact split_nil | with_reducible apply split_t | with_reducible apply split_f))
    (simp only [pickOps, nthO]; rfl)
    (simp only [pickOps, nthO]; rfl)
    repeat' (first | (apply VL_slice_hi T (e := 3) (size := 1); exact rfl; exact rfl; (focus repeat (first | with_reducible exact List.mem_cons_self | with_reducible apply List.mem_cons_of_mem | assumption)); exact rfl; exact rfl; omega) | (apply VL_slice_lo T; exact rfl; exact rfl; exact rfl; exact rfl; omega; exact rfl) | apply (zs1 ?_) | (apply VL_nilh; (repeat (first | with_reducible exact app_nil | with_reducible apply app_cons))) | apply (zs93 ?_) | fail)
    simp only [Int.toNat_natCast]
    rw [subA_some (by omega)]
    apply VL_copy T (o := k) (k := c) (kd := c - k) (mm := k) (ys := (fillL v c k).flatMap numF) (xs := (fillL v c k).flatMap numF)
    exact rfl
    exact rfl
    exact .sl (by (focus repeat (first | with_reducible exact List.mem_cons_self | with_reducible apply List.mem_cons_of_mem | assumption)))
    (repeat (first | with_reducible exact Upd.here _ | with_reducible apply Upd.there))
    exact rfl
    exact rfl
    exact one_num _
    · omega
    obtain ⟨m, hm⟩ : ∃ m, min k (c - k) = m := ⟨_, rfl⟩
    rw [hm, take_num, take_num, drop_num, ← List.flatMap_append, ← List.flatMap_append, fill_step (by omega) (by omega)]
    repeat' (first | apply (zs2 ?_) | (apply zg13; refine zs30 ?_) | apply (zs65 ?_) | apply (zs79 ?_) | apply (zs94 ?_) | fail)
    apply hK (k + m)
    · omega
    · omega
    · (repeat (first | exact sub_nil _ | (apply sub_cons; first | exact rfl | exact congrArg (fun z : Int => some (Value.int .i64 z)) (by omega))))
    · exact fun w hw => hw
  · obtain rfl : k = c := by omega
    clear hK
    repeat' (first | apply (zs1 ?_) | apply (zs2 ?_) | (apply zg4; refine zs9 ?_) | (apply (zs17 ?_ ?_) <;> intro _ <;> try (exfalso; omega)) | apply (zs65 ?_) | apply (zs68 ?_) | apply (zs69 ?_) | apply (zs70 ?_) | (apply zg27; refine zs72 ?_) | apply (zs74 ?_) | apply (zs75 ?_) | apply (zs80 ?_) | apply (zs81 ?_) | fail)
    apply VQ_ret1; exact rfl; exact rfl
    have e3 : fillL v k k = List.replicate k v := by simp [fillL]
    rw [e3]
    exact ⟨g, by rw [List.length_replicate], by unfold ints; rw [List.length_replicate]⟩
end Go.Proofs.YtleldppdflgmgaaGreat

/- Walk: distances. -/
namespace Go.Proofs.YtleldppdflgmgaaGreat
open Go.RowKit Go.Eng Go.Nw Go.Rt

structure Dz where
  far : List Int
  q : List Itm
  A : Option Addr
  cap : Nat
structure Ez where
  k : Nat
  far : List Int
  q : List Itm
  A : Option Addr
  cap : Nat

theorem sum_le : ∀ (l : List Int), (∀ x ∈ l, x ≤ 1073741824) → (l.map Int.toNat).sum ≤ l.length * 1073741824
  | [], _ => by simp
  | a :: l, h => by
    have := sum_le l fun x hx => h x (by simp [hx])
    have h1 := h a (by simp)
    simp only [List.map_cons, List.sum_cons, List.length_cons]
    omega

set_option maxRecDepth 10000 in
set_option maxHeartbeats 2000000 in
theorem distances_spec (nodes : Nat) (l : List Lk) (to : Int) (hn : nodes ≤ 40) (hl : l.length ≤ 1000000) (hok : ArcsOk nodes l) (hto : 0 ≤ to ∧ to < nodes) {AL : Option Addr} {capL B : Nat} {w0 : World} {H : List HP} {w : World} (hr : Rd B w0 H AL (l.flatMap lkF)) (hw : St B w0 H w) :
    Calls Tryz.prog 43 [.int .i64 nodes, .slice AL l.length capL, .int .i64 to].toArray w (Post B w0 fun v K => ∃ g far, v = .slice (some ⟨g, 0, none⟩) far.length nodes ∧ Dist nodes l to far ∧ K = ints (some ⟨g, 0, none⟩) nodes far :: H) := by
  refine Calls_of_VC Tryz.func43 Tryz.ntmps43 rfl rfl hw ?_
  repeat' (first | apply (zs1 ?_) | apply (zs2 ?_) | (apply zg26; (refine zs56 ?_; intro _)) | apply (zs65 ?_) | apply (zs68 ?_) | apply (zs69 ?_) | apply (zs70 ?_) | fail)
  apply VL_call _ en61
  (repeat (first | exact args_nil | (apply args_cons; exact rfl)))
  exact rfl
  exact fun _ hw => (repeat_spec 1073741824 nodes (by omega) (.blk (by (focus repeat (first | with_reducible exact List.mem_cons_self | with_reducible apply List.mem_cons_of_mem | assumption)))) (hw))
  rintro _ _ ⟨gf, rfl, rfl⟩
  have hrl : (List.replicate nodes (1073741824 : Int)).length = nodes := List.length_replicate
  repeat' (first | (apply VL_store_row T (f := numF) (l := List.replicate nodes (1073741824 : Int)) (i := to.toNat) (a := 0); exact rfl; exact rfl; exact rfl; (repeat (first | with_reducible exact Upd.here _ | with_reducible apply Upd.there)); exact rfl; exact fun _ => rfl; exact rfl; omega) | apply (zs1 ?_) | apply (zs2 ?_) | (apply zg5; refine zs10 ?_) | (apply zg23; (refine zs53 ?_; intro _)) | (apply zg25; refine zs55 ?_) | (apply zg26; (refine zs56 ?_; intro _)) | apply (zs65 ?_) | apply (zs68 ?_) | apply (zs69 ?_) | apply (zs70 ?_) | apply (zs73 ?_) | fail)
  rename_i gL gq
  have hs0 := dinv_start hok hto.1 hto.2
  have hw0 : weight ((List.replicate nodes (1073741824 : Int)).set to.toNat 0) [(to, 0)] ≤ 90000000000 := by
    unfold weight
    have := sum_le ((List.replicate nodes (1073741824 : Int)).set to.toNat 0) (fun x hx => by
      rcases List.mem_or_eq_of_mem_set hx with h | rfl
      · rw [(List.mem_replicate.1 h).2]; exact Int.le_refl _
      · decide)
    rw [List.length_set, List.length_replicate] at this
    simp only [List.length_singleton]
    omega
  refine VC_loop1 (fun (z : Dz) => [(8, .pointer (some ⟨gq, 0, none⟩)), (7, .slice (some ⟨gf, 0, none⟩) z.far.length nodes), (0, .int .i64 nodes), (1, .slice AL l.length capL), (2, .int .i64 to)])
    (fun z => qpcs gq z.A z.cap z.q (ints (some ⟨gf, 0, none⟩) nodes z.far :: H)) (fun z => DInv nodes l to z.far z.q 0 [] ∧ weight z.far z.q ≤ 90000000000) (fun z => weight z.far z.q) ⟨(List.replicate nodes (1073741824 : Int)).set to.toNat 0, [(to, 0)], some ⟨gL, 0, none⟩, 1⟩ ⟨hs0, hw0⟩ ?_ ?_ ?_
  · dsimp only
    rw [List.length_set]
    (repeat (first | exact sub_nil _ | (apply sub_cons; first | exact rfl | exact congrArg (fun z : Int => some (Value.int .i64 z)) (by omega))))
  · intro w hw
    dsimp only
    have h5 : St B w0 (blk gL (.cells #[.int .i64 to, .int .i64 0] 108 (0, 0)) :: blk gq (.cells #[.slice (some ⟨gL, 0, none⟩) 1 1] 110 (0, 0)) :: sl 3 1 (some ⟨gf, 0, none⟩) (List.replicate nodes (1073741824 : Int)).length nodes (((List.replicate nodes (1073741824 : Int)).set to.toNat 0).flatMap numF) :: H) w := by
      revert w
      (intro w hw; refine hw.perm ?_; focus repeat (first | with_reducible exact Perm.refl _ | (with_reducible apply perm_take; focus ((repeat (first | with_reducible exact rem_here | with_reducible apply rem_there)); done)) | with_reducible apply Perm.dropK))
    have h6 := h5.blk_sl (cs := itF (to, 0)) (len := 1) (size := 2) rfl (by omega)
    revert h6
    clear h5 hw
    revert w
    unfold qpcs ints
    rw [List.length_set]
    exact fun w h6 => h6.perm (.swap _ _ _)
  clear hs0 hw0 hrl
  rintro ⟨far, q, A, cap⟩ ⟨hinv, hwt⟩ K hK
  simp only at hinv hwt ⊢
  have hflen := hinv.len
  have hql : q.length ≤ 90000000000 := by unfold weight at hwt; omega
  by_cases hq : q.length = 0
  · unfold qpcs
    repeat' (first | ((first | apply VL_callt en65 | apply VL_callq en65); (repeat (first | exact args_nil | (apply args_cons; exact rfl))); exact rfl; exact fun _ hw => (qLen_spec _ hw)) | apply (zs1 ?_) | apply (zs2 ?_) | apply (zs5 ?_) | (apply zg3; refine zs7 ?_) | (apply (zs19 ?_ ?_) <;> intro _ <;> try (exfalso; omega)) | apply (zs65 ?_) | apply (zs68 ?_) | apply (zs69 ?_) | apply (zs70 ?_) | (apply zg27; refine zs72 ?_) | apply (zs74 ?_) | apply (zs75 ?_) | apply (zs80 ?_) | apply (zs81 ?_) | fail)
    apply VQ_st (ints (some ⟨gf, 0, none⟩) nodes far :: H)
    · (intro w hw; refine hw.perm ?_; focus repeat (first | with_reducible exact Perm.refl _ | (with_reducible apply perm_take; focus ((repeat (first | with_reducible exact rem_here | with_reducible apply rem_there)); done)) | with_reducible apply Perm.dropK))
    apply VQ_ret1; exact rfl; exact rfl
    obtain rfl : q = [] := List.eq_nil_of_length_eq_zero hq
    exact ⟨gf, far, rfl, dinv_done hinv, rfl⟩
  unfold qpcs
  repeat' (first | ((first | apply VL_callt en65 | apply VL_callq en65); (repeat (first | exact args_nil | (apply args_cons; exact rfl))); exact rfl; exact fun _ hw => (qLen_spec _ hw)) | (apply VL_makeIface; exact rfl; kernel_rfl; exact rfl) | apply (zs1 ?_) | apply (zs5 ?_) | (apply zg3; refine zs7 ?_) | (apply (zs19 ?_ ?_) <;> intro _ <;> try (exfalso; omega)) | apply (zs65 ?_) | apply (zs68 ?_) | apply (zs69 ?_) | apply (zs70 ?_) | (apply zg27; refine zs71 ?_) | apply (zs73 ?_) | apply (zs76 ?_) | fail)
  apply VL_st (qpcs gq A cap q (ints (some ⟨gf, 0, none⟩) nodes far :: H))
  · unfold qpcs
    (intro w hw; refine hw.perm ?_; focus repeat (first | with_reducible exact Perm.refl _ | (with_reducible apply perm_take; focus ((repeat (first | with_reducible exact rem_here | with_reducible apply rem_there)); done)) | with_reducible apply Perm.dropK))
  apply VL_call _ en66
  (repeat (first | exact args_nil | (apply args_cons; exact rfl)))
  exact rfl
  exact fun _ hw => (hPop_spec gq q (fun h => hq (by rw [h]; rfl)) (by omega) (hw))
  rintro _ _ ⟨⟨v, d⟩, q1, rfl, hp, rfl⟩
  obtain ⟨⟨v0, v1⟩, hvd, hdn⟩ := hinv.items (v, d) (hp.mem_iff.1 List.mem_cons_self)
  simp only at v0 v1 hvd hdn
  have hd0 := (hinv.range v v0 v1).1
  have hdb : d < 1073741824 := hdn
  have hgv := farAt_get (far := far) (i := v) (by omega)
  have hq1 : q1.length + 1 = q.length := hp.length_eq
  unfold qpcs itV
  dsimp only
  by_cases hskip : farAt far v < d
  · skip
    repeat' (first | (apply VL_assertOk; exact rfl; kernel_rfl; exact rfl) | apply (zs1 ?_) | apply (zs2 ?_) | (apply zg2; refine zs6 ?_) | (apply zg3; first | refine zs7 ?_ | refine zs60 ?_) | (apply zg5; refine zs10 ?_) | apply (zs13 ?_) | (apply (zs19 ?_ ?_) <;> intro _ <;> try (exfalso; omega)) | (apply zg22; refine zs51 ?_) | (apply zg24; (refine zs54 ?_; intro _)) | apply (zs65 ?_) | apply (zs66 ?_) | apply (zs68 ?_) | apply (zs69 ?_) | (apply zg27; refine zs71 ?_) | apply (zs75 ?_) | apply (zs80 ?_) | apply (zs81 ?_) | (apply zg28; refine zs83 ?_) | fail)
    apply hK ⟨far, q1, A, cap⟩
    · refine ⟨dinv_skip hinv hp hskip, ?_⟩
      unfold weight at hwt ⊢
      simp only
      omega
    · unfold weight
      simp only
      omega
    · (repeat (first | exact sub_nil _ | (apply sub_cons; first | exact rfl | exact congrArg (fun z : Int => some (Value.int .i64 z)) (by omega))))
    · unfold qpcs
      (intro w hw; refine hw.perm ?_; focus repeat (first | with_reducible exact Perm.refl _ | (with_reducible apply perm_take; focus ((repeat (first | with_reducible exact rem_here | with_reducible apply rem_there)); done)) | with_reducible apply Perm.dropK))
  · have hde : farAt far v = d := by omega
    repeat' (first | (apply VL_assertOk; exact rfl; kernel_rfl; exact rfl) | apply (zs1 ?_) | apply (zs2 ?_) | (apply zg2; refine zs6 ?_) | (apply zg3; first | refine zs7 ?_ | refine zs60 ?_) | (apply zg4; refine zs9 ?_) | (apply zg5; refine zs10 ?_) | apply (zs13 ?_) | (apply (zs19 ?_ ?_) <;> intro _ <;> try (exfalso; omega)) | (apply zg22; refine zs51 ?_) | (apply zg24; (refine zs54 ?_; intro _)) | apply (zs65 ?_) | apply (zs66 ?_) | apply (zs68 ?_) | apply (zs69 ?_) | apply (zs70 ?_) | (apply zg27; refine zs72 ?_) | apply (zs73 ?_) | apply (zs76 ?_) | (apply zg28; refine zs83 ?_) | fail)
    rename_i g9 _
    refine VC_loop1 (fun (z : Ez) => [(46, .int .i64 z.k), (45, .int .i64 l.length), (44, .slice AL l.length capL), (8, .pointer (some ⟨gq, 0, none⟩)), (9, .pointer (some ⟨g9, 0, none⟩)), (7, .slice (some ⟨gf, 0, none⟩) z.far.length nodes), (0, .int .i64 nodes), (1, .slice AL l.length capL), (2, .int .i64 to)])
      (fun z => qpcs gq z.A z.cap z.q (ints (some ⟨gf, 0, none⟩) nodes z.far :: blk g9 (.cells #[.int .i64 v, .int .i64 d] 108 (0, 0)) :: H)) (fun z => z.k ≤ l.length ∧ DInv nodes l to z.far z.q v (l.drop z.k) ∧ farAt z.far v = d ∧ weight z.far z.q + 1 ≤ weight far q) (fun z => l.length - z.k) ⟨0, far, q1, A, cap⟩ ⟨Nat.zero_le _, dinv_scan hinv hp, hde, by unfold weight; simp only; omega⟩ ?_ (by unfold qpcs; (intro w hw; refine hw.perm ?_; focus repeat (first | with_reducible exact Perm.refl _ | (with_reducible apply perm_take; focus ((repeat (first | with_reducible exact rem_here | with_reducible apply rem_there)); done)) | with_reducible apply Perm.dropK))) ?_
    · (repeat (first | exact sub_nil _ | (apply sub_cons; first | exact rfl | exact congrArg (fun z : Int => some (Value.int .i64 z)) (by omega))))
    rintro ⟨k, far2, q2, A2, cap2⟩ ⟨hk, hinv2, hd2, hwt2⟩ K2 hK2
    simp only at hk hinv2 hd2 hwt2 ⊢
    have hflen2 := hinv2.len
    have hql2 : q2.length ≤ 90000000000 := by unfold weight at hwt2 hwt; omega
    by_cases hlt : k < l.length
    rotate_left
    · have hkl : k = l.length := by omega
      clear hK2
      subst hkl
      rw [List.drop_length] at hinv2
      repeat' (first | (apply (zs17 ?_ ?_) <;> intro _ <;> try (exfalso; omega)) | apply (zs65 ?_) | apply (zs68 ?_) | apply (zs69 ?_) | apply (zs70 ?_) | (apply zg27; refine zs72 ?_) | apply (zs75 ?_) | apply (zs79 ?_) | apply (zs80 ?_) | apply (zs81 ?_) | fail)
      apply hK ⟨far2, q2, A2, cap2⟩
      · exact ⟨dinv_end hinv2, by simp only; omega⟩
      · simp only; omega
      · (repeat (first | exact sub_nil _ | (apply sub_cons; first | exact rfl | exact congrArg (fun z : Int => some (Value.int .i64 z)) (by omega))))
      · unfold qpcs
        (intro w hw; refine hw.perm ?_; focus repeat (first | with_reducible exact Perm.refl _ | (with_reducible apply perm_take; focus ((repeat (first | with_reducible exact rem_here | with_reducible apply rem_there)); done)) | with_reducible apply Perm.dropK))
    · obtain ⟨a, ha⟩ : ∃ a, l[k]? = some a := ⟨_, List.getElem?_eq_getElem hlt⟩
      have hal := List.mem_of_getElem? ha
      obtain ⟨⟨a1, a2⟩, ⟨a3, a4⟩, ⟨a5, a6⟩⟩ := hok a hal
      have hdrop : l.drop k = a :: l.drop (k + 1) := by
        obtain ⟨hk3, rfl⟩ := List.getElem?_eq_some_iff.1 ha
        exact List.drop_eq_getElem_cons hk3
      rw [hdrop] at hinv2
      have hga := farAt_get (far := far2) (i := a.1) (by omega)
      unfold qpcs
      by_cases hyes : a.2.1 = v ∧ d + a.2.2 < farAt far2 a.1
      · obtain ⟨hy1, hy2⟩ := hyes
        have hlen3 : (far2.set a.1.toNat (d + a.2.2)).length = far2.length := List.length_set
        repeat' (first | (apply VL_store_row T (f := numF) (l := far2) (i := a.1.toNat) (a := d + a.2.2); exact rfl; exact rfl; exact rfl; (repeat (first | with_reducible exact Upd.here _ | with_reducible apply Upd.there)); exact rfl; exact fun _ => rfl; exact rfl; omega) | (apply VL_makeIface; exact rfl; kernel_rfl; exact rfl) | apply (zs1 ?_) | apply (zs2 ?_) | (apply zg1; refine zs4 ?_) | (apply zg2; refine zs6 ?_) | (apply zg3; first | refine zs7 ?_ | refine zs60 ?_ | refine zs61 ?_) | (apply zg5; first | refine zs10 ?_ | refine zs57 ?_) | (apply zg6; refine zs11 ?_) | (apply zg7; (refine zs15 ?_ ?_ <;> intro _ <;> try (exfalso; omega))) | (apply (zs17 ?_ ?_) <;> intro _ <;> try (exfalso; omega)) | (apply zg13; refine zs30 ?_) | (apply zg22; refine zs51 ?_) | (apply zg24; (refine zs54 ?_; intro _)) | (apply zg25; refine zs55 ?_) | apply (zs65 ?_) | apply (zs68 ?_) | apply (zs69 ?_) | apply (zs70 ?_) | (apply zg27; refine zs71 ?_) | apply (zs73 ?_) | apply (zs76 ?_) | fail)
        rename_i ga
        apply VL_st (qpcs gq A2 cap2 q2 (ints (some ⟨gf, 0, none⟩) nodes (far2.set a.1.toNat (d + a.2.2)) :: blk g9 (.cells #[.int .i64 v, .int .i64 d] 108 (0, 0)) :: H))
        · unfold qpcs ints
          rw [List.length_set]
          (intro w hw; refine hw.perm ?_; focus repeat (first | with_reducible exact Perm.refl _ | (with_reducible apply perm_take; focus ((repeat (first | with_reducible exact rem_here | with_reducible apply rem_there)); done)) | with_reducible apply Perm.dropK))
        apply VL_call _ en67
        (repeat (first | exact args_nil | (apply args_cons; exact rfl)))
        exact rfl
        exact fun _ hw => (hPush_spec gq q2 (a.1, d + a.2.2) (by omega) (hw))
        rintro _ _ ⟨A3, cap3, q3, rfl, hp3, rfl⟩
        obtain ⟨y1, y2, y3⟩ := dinv_yes hok ⟨v0, v1⟩ hd2 hal hinv2 hy1 hy2 hp3
        repeat' (first | apply (zs1 ?_) | (apply zg13; refine zs30 ?_) | apply (zs65 ?_) | apply (zs68 ?_) | apply (zs70 ?_) | apply (zs79 ?_) | fail)
        apply hK2 ⟨k + 1, far2.set a.1.toNat (d + a.2.2), q3, A3, cap3⟩
        · exact ⟨by simp only; omega, y1, y2, by simp only; omega⟩
        · simp only; omega
        · dsimp only
          rw [hlen3]
          (repeat (first | exact sub_nil _ | (apply sub_cons; first | exact rfl | exact congrArg (fun z : Int => some (Value.int .i64 z)) (by omega))))
        · exact fun w hw => hw
      · have hn2 := dinv_no hinv2 (by rw [hd2]; exact hyes)
        by_cases hav : a.2.1 = v
        · have hle : ¬ d + a.2.2 < farAt far2 a.1 := fun h => hyes ⟨hav, h⟩
          repeat' (first | apply (zs1 ?_) | apply (zs2 ?_) | (apply zg1; refine zs4 ?_) | (apply zg2; refine zs6 ?_) | (apply zg3; first | refine zs7 ?_ | refine zs60 ?_ | refine zs61 ?_) | (apply zg5; first | refine zs10 ?_ | refine zs57 ?_) | (apply zg6; refine zs11 ?_) | (apply zg7; (refine zs15 ?_ ?_ <;> intro _ <;> try (exfalso; omega))) | (apply (zs17 ?_ ?_) <;> intro _ <;> try (exfalso; omega)) | (apply zg13; refine zs30 ?_) | (apply zg22; refine zs51 ?_) | (apply zg24; (refine zs54 ?_; intro _)) | apply (zs65 ?_) | apply (zs68 ?_) | apply (zs69 ?_) | apply (zs70 ?_) | (apply zg27; first | refine zs71 ?_ | refine zs72 ?_) | apply (zs73 ?_) | apply (zs76 ?_) | apply (zs79 ?_) | fail)
          apply hK2 ⟨k + 1, far2, q2, A2, cap2⟩
          · exact ⟨by simp only; omega, hn2, hd2, hwt2⟩
          · simp only; omega
          · (repeat (first | exact sub_nil _ | (apply sub_cons; first | exact rfl | exact congrArg (fun z : Int => some (Value.int .i64 z)) (by omega))))
          · unfold qpcs
            (intro w hw; refine hw.perm ?_; focus repeat (first | with_reducible exact Perm.refl _ | (with_reducible apply perm_take; focus ((repeat (first | with_reducible exact rem_here | with_reducible apply rem_there)); done)) | with_reducible apply Perm.dropK))
        · repeat' (first | apply (zs1 ?_) | apply (zs2 ?_) | (apply zg1; refine zs3 ?_) | (apply zg2; refine zs6 ?_) | (apply zg3; first | refine zs7 ?_ | refine zs61 ?_) | (apply zg5; refine zs57 ?_) | (apply zg6; refine zs12 ?_) | (apply zg7; (refine zs15 ?_ ?_ <;> intro _ <;> try (exfalso; omega))) | (apply (zs17 ?_ ?_) <;> intro _ <;> try (exfalso; omega)) | (apply zg13; refine zs30 ?_) | (apply zg22; refine zs51 ?_) | (apply zg24; (refine zs54 ?_; intro _)) | apply (zs65 ?_) | apply (zs68 ?_) | apply (zs69 ?_) | apply (zs70 ?_) | (apply zg27; first | refine zs71 ?_ | refine zs72 ?_) | apply (zs73 ?_) | apply (zs76 ?_) | apply (zs79 ?_) | fail)
          apply hK2 ⟨k + 1, far2, q2, A2, cap2⟩
          · exact ⟨by simp only; omega, hn2, hd2, hwt2⟩
          · simp only; omega
          · (repeat (first | exact sub_nil _ | (apply sub_cons; first | exact rfl | exact congrArg (fun z : Int => some (Value.int .i64 z)) (by omega))))
          · unfold qpcs
            (intro w hw; refine hw.perm ?_; focus repeat (first | with_reducible exact Perm.refl _ | (with_reducible apply perm_take; focus ((repeat (first | with_reducible exact rem_here | with_reducible apply rem_there)); done)) | with_reducible apply Perm.dropK))
end Go.Proofs.YtleldppdflgmgaaGreat

/- Routes, plain: the first of the cheapest ways; least costs are unique. -/
namespace Go.Rt
open Go.Nw

/-- The next node of the first cheapest way. -/
def bestStep (far : List Int) (at_ : Int) (best : Int) (a : Lk) : Int := if a.1 = at_ ∧ a.2.2 + farAt far a.2.1 = farAt far at_ ∧ (best < 0 ∨ a.2.1 < best) then a.2.1 else best
def bestOf (l : List Lk) (far : List Int) (at_ : Int) : Int := l.foldl (bestStep far at_) (-1)
def followF (l : List Lk) (far : List Int) (to : Int) : Nat → Int → List Int
  | 0, _ => []
  | k + 1, at_ => if at_ = to then [] else bestOf l far at_ :: followF l far to k (bestOf l far at_)
/-- The way of the program. -/
def wayF (l : List Lk) (far : List Int) (s to : Int) : List Int := if noneC ≤ farAt far s then [] else s :: followF l far to (farAt far s).toNat s

theorem follow_len (l : List Lk) (far : List Int) (to : Int) : ∀ (k : Nat) (v : Int), (followF l far to k v).length ≤ k
  | 0, _ => Nat.le_refl _
  | k + 1, v => by
    have := follow_len l far to k (bestOf l far v)
    unfold followF
    split
    · exact Nat.zero_le _
    · rw [List.length_cons]; omega
theorem way_len (l : List Lk) (far : List Int) (s to : Int) : (wayF l far s to).length ≤ 1073741824 := by
  unfold wayF
  split
  · exact Nat.zero_le _
  · rename_i h
    have h1 := follow_len l far to (farAt far s).toNat s
    have h2 : noneC = 1073741824 := rfl
    rw [List.length_cons]
    omega
theorem best_snoc (l : List Lk) (far : List Int) (at_ : Int) (a : Lk) : bestOf (l ++ [a]) far at_ = bestStep far at_ (bestOf l far at_) a := by
  unfold bestOf; rw [List.foldl_append]; rfl
/-- What bestOf is: -1, or the head of a tight arc. -/
theorem best_or (l : List Lk) (far : List Int) (at_ : Int) (b0 : Int) : l.foldl (bestStep far at_) b0 = b0 ∨ ∃ a ∈ l, a.1 = at_ ∧ a.2.2 + farAt far a.2.1 = farAt far at_ ∧ l.foldl (bestStep far at_) b0 = a.2.1 := by
  induction l generalizing b0 with
  | nil => exact .inl rfl
  | cons a l ih =>
    rw [List.foldl_cons]
    rcases ih (bestStep far at_ b0 a) with h | ⟨c, hc, h⟩
    · rw [h]
      unfold bestStep
      split
      · rename_i h1
        exact .inr ⟨a, List.mem_cons_self, h1.1, h1.2.1, rfl⟩
      · exact .inl rfl
    · exact .inr ⟨c, List.mem_cons_of_mem _ hc, h⟩
theorem best_ge {l : List Lk} {far : List Int} {at_ : Int} (hl : ∀ a ∈ l, 0 ≤ a.2.1) (b0 : Int) (h : 0 ≤ b0 ∨ ∃ a ∈ l, a.1 = at_ ∧ a.2.2 + farAt far a.2.1 = farAt far at_) : 0 ≤ l.foldl (bestStep far at_) b0 := by
  induction l generalizing b0 with
  | nil =>
    rcases h with h | ⟨a, ha, _⟩
    · exact h
    · cases ha
  | cons a l ih =>
    rw [List.foldl_cons]
    have h0 := hl a List.mem_cons_self
    refine ih (fun c hc => hl c (List.mem_cons_of_mem _ hc)) _ ?_
    unfold bestStep
    split
    · exact .inl h0
    · rename_i hn
      rcases h with h | ⟨c, hc, h1, h2⟩
      · exact .inl h
      · rcases List.mem_cons.1 hc with rfl | hc
        · left
          by_cases hb : b0 < 0
          · exact absurd ⟨h1, h2, .inl hb⟩ hn
          · omega
        · exact .inr ⟨c, hc, h1, h2⟩

theorem tight_eq {nodes : Nat} {l : List Lk} {to : Int} {far : List Int} (_hl : ArcsOk nodes l) (h : Dist nodes l to far) {v : Int} (h0 : 0 ≤ v) (h1 : v < nodes) (hne : v ≠ to) (hlt : farAt far v < noneC) : ∃ a ∈ l, a.1 = v ∧ a.2.2 + farAt far a.2.1 = farAt far v := by
  obtain ⟨a, ha, ha1, ha2⟩ := h.tight v h0 h1 hne hlt
  obtain ⟨_, _, ⟨h5, _⟩⟩ := _hl a ha
  have := h.least a ha (by omega)
  rw [ha1] at this
  exact ⟨a, ha, ha1, by omega⟩
/-- The next node is one, and is nearer. -/
theorem best_next {nodes : Nat} {l : List Lk} {to : Int} {far : List Int} (hl : ArcsOk nodes l) (h : Dist nodes l to far) {v : Int} (h0 : 0 ≤ v) (h1 : v < nodes) (hne : v ≠ to) (hlt : farAt far v < noneC) :
    (0 ≤ bestOf l far v ∧ bestOf l far v < nodes) ∧ farAt far (bestOf l far v) < farAt far v ∧ 0 ≤ farAt far (bestOf l far v) ∧ ∃ a ∈ l, a.1 = v ∧ a.2.1 = bestOf l far v ∧ a.2.2 + farAt far (bestOf l far v) = farAt far v := by
  have hge : 0 ≤ bestOf l far v := best_ge (fun a ha => (hl a ha).2.1.1) (-1) (.inr (tight_eq hl h h0 h1 hne hlt))
  rcases best_or l far v (-1) with h2 | ⟨a, ha, h3, h4, h5⟩
  · unfold bestOf at hge; rw [h2] at hge; omega
  · obtain ⟨_, ⟨h6, h7⟩, ⟨h8, _⟩⟩ := hl a ha
    have h9 : bestOf l far v = a.2.1 := h5
    rw [h9]
    have := (h.range a.2.1 h6 h7).1
    exact ⟨⟨h6, h7⟩, by omega, this, a, ha, h3, rfl, h4⟩

theorem dist_le {nodes : Nat} {l : List Lk} {to : Int} {far far' : List Int} (hl : ArcsOk nodes l) (h : Dist nodes l to far) (h' : Dist nodes l to far') : ∀ (k : Nat) (v : Int), 0 ≤ v → v < nodes → farAt far v < noneC → (farAt far v).toNat ≤ k → farAt far' v ≤ farAt far v := by
  intro k
  induction k with
  | zero =>
    intro v h0 h1 hlt hk
    by_cases hv : v = to
    · rw [hv, h.to0, h'.to0]; exact Int.le_refl _
    · obtain ⟨a, ha, ha1, ha2⟩ := tight_eq hl h h0 h1 hv hlt
      obtain ⟨_, ⟨h3, h4⟩, ⟨h5, _⟩⟩ := hl a ha
      have := (h.range a.2.1 h3 h4).1
      omega
  | succ k ih =>
    intro v h0 h1 hlt hk
    by_cases hv : v = to
    · rw [hv, h.to0, h'.to0]; exact Int.le_refl _
    · obtain ⟨a, ha, ha1, ha2⟩ := tight_eq hl h h0 h1 hv hlt
      obtain ⟨_, ⟨h3, h4⟩, ⟨h5, _⟩⟩ := hl a ha
      have h6 := (h.range a.2.1 h3 h4).1
      have h7 := ih a.2.1 h3 h4 (by omega) (by omega)
      have h8 := h'.least a ha (by omega)
      rw [ha1] at h8
      omega
theorem dist_unique {nodes : Nat} {l : List Lk} {to : Int} {far far' : List Int} (hl : ArcsOk nodes l) (h : Dist nodes l to far) (h' : Dist nodes l to far') : far = far' := by
  have key : ∀ v : Int, 0 ≤ v → v < nodes → farAt far v = farAt far' v := by
    intro v h0 h1
    have r1 := h.range v h0 h1
    have r2 := h'.range v h0 h1
    rcases Int.lt_or_le (farAt far v) noneC with h2 | h2
    · have h3 := dist_le hl h h' _ v h0 h1 h2 (Nat.le_refl _)
      have h4 := dist_le hl h' h _ v h0 h1 (by omega) (Nat.le_refl _)
      omega
    · rcases Int.lt_or_le (farAt far' v) noneC with h3 | h3
      · have h4 := dist_le hl h' h _ v h0 h1 h3 (Nat.le_refl _)
        omega
      · omega
  apply List.ext_getElem?
  intro i
  by_cases hi : i < nodes
  · have e := key i (by omega) (by omega)
    have g1 := farAt_get (far := far) (i := (i : Int)) (by rw [h.len]; omega)
    have g2 := farAt_get (far := far') (i := (i : Int)) (by rw [h'.len]; omega)
    rw [Int.toNat_natCast] at g1 g2
    rw [g1, g2, e]
  · rw [List.getElem?_eq_none (by rw [h.len]; omega), List.getElem?_eq_none (by rw [h'.len]; omega)]
open Classical in
/-- The least costs, wherever there are any. -/
noncomputable def distC (nodes : Nat) (l : List Lk) (to : Int) : List Int := if h : ∃ far, Dist nodes l to far then h.choose else []
theorem distC_eq {nodes : Nat} {l : List Lk} {to : Int} {far : List Int} (hl : ArcsOk nodes l) (h : Dist nodes l to far) : distC nodes l to = far := by
  unfold distC
  rw [dif_pos ⟨far, h⟩]
  exact dist_unique hl (Exists.choose_spec (⟨far, h⟩ : ∃ far, Dist nodes l to far)) h
end Go.Rt

/- Walks: first. -/
namespace Go.Proofs.YtleldppdflgmgaaGreat
open Go.RowKit Go.Eng Go.Nw Go.Rt

/-- A list of nodes in memory; nothing is nil. -/
def WayV (A : Option Addr) (l : List Int) : Prop := l = [] → A = none
structure Fz where
  at_ : Int
  pre : List Int
  A : Option Addr
  cap : Nat
theorem follow_step {l : List Lk} {far : List Int} {to : Int} {nodes : Nat} (hl : ArcsOk nodes l) (hd : Dist nodes l to far) {v : Int} (h0 : 0 ≤ v) (h1 : v < nodes) (hne : v ≠ to) (hlt : farAt far v < noneC) : ∀ k j : Nat, (farAt far v).toNat ≤ k → (farAt far v).toNat ≤ j → followF l far to k v = followF l far to j v := by
  intro k
  induction k generalizing v with
  | zero =>
    intro j hk hj
    have := (best_next hl hd h0 h1 hne hlt).2
    omega
  | succ k ih =>
    intro j hk hj
    obtain ⟨b1, b2, b3, _⟩ := best_next hl hd h0 h1 hne hlt
    cases j with
    | zero => omega
    | succ j =>
      unfold followF
      rw [if_neg hne, if_neg hne]
      by_cases hb : bestOf l far v = to
      · cases k <;> cases j <;> simp [followF, hb]
      · rw [ih b1.1 b1.2 hb (by omega) j (by omega) (by omega)]
set_option maxRecDepth 10000 in
set_option maxHeartbeats 1000000 in
theorem first_spec (nodes : Nat) (l : List Lk) (s to : Int) (hn : nodes ≤ 40) (hl : l.length ≤ 1000000) (hok : ArcsOk nodes l) (hs : 0 ≤ s ∧ s < nodes) (hto : 0 ≤ to ∧ to < nodes) {AL : Option Addr} {capL B : Nat} {w0 : World} {H : List HP} {w : World} (hr : Rd B w0 H AL (l.flatMap lkF)) (hw : St B w0 H w) :
    Calls Tryz.prog 22 [.int .i64 nodes, .slice AL l.length capL, .int .i64 s, .int .i64 to].toArray w (Post B w0 fun v K => ∃ A cap, v = .slice A (wayF l (distC nodes l to) s to).length cap ∧ WayV A (wayF l (distC nodes l to) s to) ∧ (distC nodes l to).length = nodes ∧ Dist nodes l to (distC nodes l to) ∧ K = ints A cap (wayF l (distC nodes l to) s to) :: H) := by
  refine Calls_of_VC Tryz.func22 Tryz.ntmps22 rfl rfl hw ?_
  repeat' (first | apply (zs1 ?_) | apply (zs2 ?_) | apply (zs65 ?_) | apply (zs68 ?_) | apply (zs69 ?_) | apply (zs70 ?_) | fail)
  apply VL_call _ en43
  (repeat (first | exact args_nil | (apply args_cons; exact rfl)))
  exact rfl
  exact fun _ hw => (distances_spec nodes l to hn hl hok hto hr (hw))
  rintro _ _ ⟨gf, far, rfl, hd, rfl⟩
  rw [distC_eq hok hd]
  have hflen := hd.len
  have hgs := farAt_get (far := far) (i := s) (by omega)
  have hrs := hd.range s hs.1 hs.2
  have hne : noneC = 1073741824 := rfl
  unfold wayF
  by_cases hfar : noneC ≤ farAt far s
  · rw [if_pos hfar]
    rw [hne] at hfar
    repeat' (first | apply (zs1 ?_) | apply (zs2 ?_) | (apply zg3; refine zs60 ?_) | (apply zg5; refine zs10 ?_) | (apply (zs20 ?_ ?_) <;> intro _ <;> try (exfalso; omega)) | apply (zs65 ?_) | apply (zs68 ?_) | apply (zs69 ?_) | apply (zs70 ?_) | (apply zg27; refine zs71 ?_) | apply (zs74 ?_) | apply (zs77 ?_) | fail)
    apply VQ_st (ints none 0 [] :: H)
    · exact fun w hw => hw.tail.nilSlice _ _
    apply VQ_ret1; exact rfl; exact rfl
    exact ⟨none, 0, rfl, fun _ => rfl, hflen, hd, rfl⟩
  rw [if_neg hfar]
  rw [hne] at hfar
  repeat' (first | apply (zs1 ?_) | apply (zs2 ?_) | (apply zg3; refine zs60 ?_) | (apply zg5; refine zs10 ?_) | (apply (zs20 ?_ ?_) <;> intro _ <;> try (exfalso; omega)) | (apply zg26; (refine zs56 ?_; intro _)) | apply (zs65 ?_) | apply (zs68 ?_) | apply (zs69 ?_) | apply (zs70 ?_) | (apply zg27; refine zs72 ?_) | apply (zs73 ?_) | apply (zs76 ?_) | fail)
  rename_i g1
  have hf0 : 0 ≤ farAt far s := hrs.1
  refine VC_loop1 (fun (z : Fz) => [(11, .int .i64 z.at_), (10, .slice z.A z.pre.length z.cap), (9, .slice (some ⟨gf, 0, none⟩) far.length nodes), (1, .slice AL l.length capL), (3, .int .i64 to)])
    (fun z => ints z.A z.cap z.pre :: ints (some ⟨gf, 0, none⟩) nodes far :: H) (fun z => (0 ≤ z.at_ ∧ z.at_ < nodes) ∧ (0 ≤ farAt far z.at_ ∧ farAt far z.at_ < 1073741824) ∧ z.pre ++ followF l far to (farAt far z.at_).toNat z.at_ = s :: followF l far to (farAt far s).toNat s ∧ 1 ≤ z.pre.length ∧ z.pre.length + (farAt far z.at_).toNat ≤ 1073741830) (fun z => (farAt far z.at_).toNat) ⟨s, [s], some ⟨g1, 0, none⟩, 1⟩ ⟨hs, ⟨by omega, by omega⟩, rfl, by simp, by simp only [List.length_singleton]; omega⟩ ?_ (fun w hw => hw.blk_sl (cs := numF s) (len := 1) (size := 1) rfl (by omega)) ?_
  · (repeat (first | exact sub_nil _ | (apply sub_cons; first | exact rfl | exact congrArg (fun z : Int => some (Value.int .i64 z)) (by omega))))
  rintro ⟨v, pre, A, cap⟩ ⟨⟨v0, v1⟩, ⟨d0, d1⟩, hpre, hpl, hpm⟩ K hK
  simp only at v0 v1 d0 d1 hpre hpl hpm ⊢
  have hgv := farAt_get (far := far) (i := v) (by omega)
  by_cases hvt : v = to
  · have hfl : followF l far to (farAt far v).toNat v = [] := by
      rw [hvt, hd.to0]; rfl
    rw [hfl, List.append_nil] at hpre
    clear hK
    repeat' (first | apply (zs1 ?_) | apply (zs2 ?_) | (apply zg8; (refine zs16 ?_ ?_ <;> intro _ <;> try (exfalso; omega))) | apply (zs65 ?_) | apply (zs68 ?_) | apply (zs69 ?_) | apply (zs70 ?_) | (apply zg27; refine zs72 ?_) | apply (zs74 ?_) | apply (zs75 ?_) | apply (zs80 ?_) | apply (zs81 ?_) | fail)
    apply VQ_st (ints A cap pre :: H)
    · (intro w hw; refine hw.perm ?_; focus repeat (first | with_reducible exact Perm.refl _ | (with_reducible apply perm_take; focus ((repeat (first | with_reducible exact rem_here | with_reducible apply rem_there)); done)) | with_reducible apply Perm.dropK))
    apply VQ_ret1; exact rfl; exact rfl
    rw [← hpre]
    exact ⟨A, cap, rfl, fun h => by rw [h] at hpl; simp at hpl, hflen, hd, rfl⟩
  obtain ⟨b1, b2, b3, _⟩ := best_next hok hd v0 v1 hvt (by rw [hne]; omega)
  obtain ⟨bb, hbb⟩ : ∃ bb, bestOf l far v = bb := ⟨_, rfl⟩
  repeat' (first | apply (zs1 ?_) | apply (zs2 ?_) | (apply zg4; refine zs9 ?_) | (apply zg8; (refine zs16 ?_ ?_ <;> intro _ <;> try (exfalso; omega))) | apply (zs65 ?_) | apply (zs68 ?_) | apply (zs69 ?_) | apply (zs70 ?_) | (apply zg27; refine zs71 ?_) | apply (zs73 ?_) | apply (zs76 ?_) | fail)
  refine VC_loop1 (fun (k : Nat) => [(32, .int .i64 k), (31, .int .i64 l.length), (30, .slice AL l.length capL), (12, .int .i64 (bestOf (l.take k) far v)), (11, .int .i64 v), (10, .slice A pre.length cap), (9, .slice (some ⟨gf, 0, none⟩) far.length nodes), (1, .slice AL l.length capL), (3, .int .i64 to)])
    (fun _ => ints A cap pre :: ints (some ⟨gf, 0, none⟩) nodes far :: H) (fun k => k ≤ l.length) (fun k => l.length - k) 0 (Nat.zero_le _) ?_ (fun w hw => hw) ?_
  · (repeat (first | exact sub_nil _ | (apply sub_cons; first | exact rfl | exact congrArg (fun z : Int => some (Value.int .i64 z)) (by omega))))
  intro k hk K2 hK2
  have hrl : Rd B w0 (ints A cap pre :: ints (some ⟨gf, 0, none⟩) nodes far :: H) AL (l.flatMap lkF) := (hr.cons).cons
  by_cases hlt : k < l.length
  · obtain ⟨a, ha⟩ : ∃ a, l[k]? = some a := ⟨_, List.getElem?_eq_getElem hlt⟩
    obtain ⟨⟨a1, a2⟩, ⟨a3, a4⟩, ⟨a5, a6⟩⟩ := hok a (List.mem_of_getElem? ha)
    have hga := farAt_get (far := far) (i := a.2.1) (by omega)
    have hra := hd.range a.2.1 a3 a4
    rw [hne] at hra
    have hst : bestOf (l.take (k + 1)) far v = bestStep far v (bestOf (l.take k) far v) a := by
      rw [List.take_add_one, ha]; exact best_snoc _ _ _ _
    obtain ⟨bk, hbk⟩ : ∃ bk, bestOf (l.take k) far v = bk := ⟨_, rfl⟩
    rw [hbk] at hst
    rw [hbk]
    unfold bestStep at hst
    by_cases hc : a.1 = v ∧ a.2.2 + farAt far a.2.1 = farAt far v ∧ (bk < 0 ∨ a.2.1 < bk)
    · rw [if_pos hc] at hst
      repeat' (first | apply (zs1 ?_) | apply (zs2 ?_) | (apply zg1; first | refine zs3 ?_ | refine zs4 ?_) | (apply zg2; refine zs6 ?_) | (apply zg3; first | refine zs7 ?_ | refine zs60 ?_ | refine zs61 ?_) | (apply zg5; first | refine zs10 ?_ | refine zs57 ?_) | (apply zg6; first | refine zs11 ?_ | refine zs12 ?_) | (apply zg7; (refine zs15 ?_ ?_ <;> intro _ <;> try (exfalso; omega))) | (apply (zs17 ?_ ?_) <;> intro _ <;> try (exfalso; omega)) | (apply zg13; refine zs30 ?_) | (apply zg22; refine zs51 ?_) | (apply zg24; (refine zs54 ?_; intro _)) | apply (zs65 ?_) | apply (zs66 ?_) | apply (zs68 ?_) | apply (zs69 ?_) | apply (zs70 ?_) | (apply zg27; refine zs71 ?_) | apply (zs73 ?_) | apply (zs76 ?_) | apply (zs79 ?_) | (apply zg28; refine zs83 ?_) | fail)
      all_goals (
        apply hK2 (k + 1)
        · omega
        · omega
        · rw [hst]; (repeat (first | exact sub_nil _ | (apply sub_cons; first | exact rfl | exact congrArg (fun z : Int => some (Value.int .i64 z)) (by omega))))
        · exact fun w hw => hw.tail)
    · rw [if_neg hc] at hst
      repeat' (first | apply (zs1 ?_) | (apply zg1; first | refine zs3 ?_ | refine zs4 ?_) | (apply zg2; refine zs6 ?_) | (apply zg3; first | refine zs7 ?_ | refine zs60 ?_ | refine zs61 ?_) | (apply zg5; first | refine zs10 ?_ | refine zs57 ?_) | (apply zg6; first | refine zs11 ?_ | refine zs12 ?_) | (apply zg7; (refine zs15 ?_ ?_ <;> intro _ <;> try (exfalso; omega))) | (apply (zs17 ?_ ?_) <;> intro _ <;> try (exfalso; omega)) | (apply zg13; refine zs30 ?_) | (apply zg22; refine zs51 ?_) | (apply zg24; (refine zs54 ?_; intro _)) | apply (zs65 ?_) | apply (zs66 ?_) | apply (zs68 ?_) | apply (zs69 ?_) | apply (zs70 ?_) | (apply zg27; first | refine zs71 ?_ | refine zs72 ?_) | apply (zs73 ?_) | apply (zs76 ?_) | apply (zs79 ?_) | (apply zg28; refine zs83 ?_) | fail)
      all_goals (
        apply hK2 (k + 1)
        · omega
        · omega
        · rw [hst]; (repeat (first | exact sub_nil _ | (apply sub_cons; first | exact rfl | exact congrArg (fun z : Int => some (Value.int .i64 z)) (by omega))))
        · exact fun w hw => hw.tail)
  · obtain rfl : k = l.length := by omega
    clear hK2
    rw [List.take_length, hbb]
    rw [hbb] at b1 b2 b3
    have hfs : followF l far to (farAt far v).toNat v = bb :: followF l far to (farAt far bb).toNat bb := by
      obtain ⟨j, hj⟩ : ∃ j, (farAt far v).toNat = j + 1 := ⟨(farAt far v).toNat - 1, by omega⟩
      rw [hj, show followF l far to (j + 1) v = if v = to then [] else bestOf l far v :: followF l far to j (bestOf l far v) from rfl, if_neg hvt, hbb]
      by_cases hbt : bb = to
      · rw [hbt]
        cases j <;> simp [followF, hd.to0]
      · rw [follow_step hok hd b1.1 b1.2 hbt (by rw [hne]; omega) j _ (by omega) (Nat.le_refl _)]
    repeat' (first | apply (zs1 ?_) | apply (zs2 ?_) | (apply (zs17 ?_ ?_) <;> intro _ <;> try (exfalso; omega)) | (apply zg21; (refine zs49 ?_; intro _ _)) | (apply zg26; (refine zs56 ?_; intro _)) | apply (zs65 ?_) | apply (zs68 ?_) | apply (zs69 ?_) | apply (zs70 ?_) | (apply zg27; refine zs72 ?_) | apply (zs75 ?_) | apply (zs79 ?_) | apply (zs80 ?_) | apply (zs81 ?_) | fail)
    rename_i A3 cap3
    apply hK ⟨bb, pre ++ [bb], A3, cap3⟩
    · refine ⟨b1, ⟨b3, by simp only; omega⟩, ?_, by simp, ?_⟩
      · simp only
        rw [List.append_assoc, List.singleton_append, ← hfs]; exact hpre
      · simp only [List.length_append, List.length_singleton]
        omega
    · simp only; omega
    · dsimp only
      rw [List.length_append, List.length_singleton]; (repeat (first | exact sub_nil _ | (apply sub_cons; first | exact rfl | exact congrArg (fun z : Int => some (Value.int .i64 z)) (by omega))))
    · dsimp only
      rw [← ints_snoc]
      (intro w hw; refine hw.perm ?_; focus repeat (first | with_reducible exact Perm.refl _ | (with_reducible apply perm_take; focus ((repeat (first | with_reducible exact rem_here | with_reducible apply rem_there)); done)) | with_reducible apply Perm.dropK))
end Go.Proofs.YtleldppdflgmgaaGreat

/- Walk: Shortest. -/
namespace Go.Proofs.YtleldppdflgmgaaGreat
open Go.RowKit Go.Eng Go.Nw Go.Rt

def dear (a : Lk) : Lk := (a.1, a.2.1, a.2.2 * 33 + 1)
noncomputable def shortR (n : Net) (s t : Int) : List Int := wayF ((arcsE n).map dear) (distC n.nodes.toNat ((arcsE n).map dear) t) s t
noncomputable def shortE (n : Net) (s t : Int) : List Int × Int :=
  if endsE n s t ≠ 0 then ([], endsE n s t) else if shortR n s t = [] then ([], 17) else if 9 < (shortR n s t).length then ([], 21) else (shortR n s t, 0)
theorem dear_ok {n : Net} (h : Ok n) : ArcsOk n.nodes.toNat ((arcsE n).map dear) := by
  intro a ha
  obtain ⟨b, hb, rfl⟩ := List.mem_map.1 ha
  obtain ⟨i, hi, _, rfl⟩ := mem_arcs.1 hb
  have hl := h.lk i hi
  have h1 := hl.f0; have h2 := hl.f1; have h3 := hl.t0; have h4 := hl.t1; have h5 := hl.l0; have h6 := hl.l1
  unfold dear arcAt
  simp only
  omega
theorem ends_ok {n : Net} {s t : Int} (h : endsE n s t = 0) : checkE n = 0 ∧ (0 ≤ s ∧ s < n.nodes) ∧ (0 ≤ t ∧ t < n.nodes) ∧ s ≠ t := by
  unfold endsE offE at h
  by_cases h0 : checkE n = 0
  · rw [if_neg (fun h => h h0)] at h
    simp only [decide_eq_true_eq] at h
    by_cases h1 : (s < 0 ∨ n.nodes ≤ s) ∨ (t < 0 ∨ n.nodes ≤ t) ∨ s = t
    · rw [if_pos h1] at h; cases h
    · exact ⟨h0, by omega, by omega, by omega⟩
  · rw [if_pos h0] at h; cases h
theorem mix_get {l : List Lk} {k : Nat} {a : Lk} (h : l[k]? = some a) : ((l.take k).map dear ++ l.drop k)[k]? = some a := by
  have hk := (List.getElem?_eq_some_iff.1 h).1
  rw [List.getElem?_append_right (by simp; omega), List.length_map, List.length_take, Nat.min_eq_left (by omega), Nat.sub_self, List.getElem?_drop, Nat.add_zero]
  exact h
theorem mix_set {l : List Lk} {k : Nat} {a : Lk} (h : l[k]? = some a) : ((l.take k).map dear ++ l.drop k).set k (dear a) = (l.take (k + 1)).map dear ++ l.drop (k + 1) := by
  obtain ⟨hk, rfl⟩ := List.getElem?_eq_some_iff.1 h
  have hl : ((l.take k).map dear).length = k := by simp; omega
  rw [List.set_append_right _ _ (by omega), hl, Nat.sub_self, List.drop_eq_getElem_cons hk, List.set_cons_zero, List.take_add_one, List.getElem?_eq_getElem hk, List.map_append, List.append_assoc]
  rfl

set_option maxRecDepth 10000 in
set_option maxHeartbeats 1000000 in
theorem shortest_spec (n : NetM) (s t : Int) {B : Nat} {w0 : World} {H : List HP} {w : World} (hin : n.In B w0 H) (hw : St B w0 H w) :
    Calls Tryz.prog 7 [n.val, .int .i64 s, .int .i64 t].toArray w (Post B w0 fun v K => ∃ A cap, v = .tuple #[.slice A (shortE n.net s t).1.length cap, .int .i64 (shortE n.net s t).2] ∧ WayV A (shortE n.net s t).1 ∧ (endsE n.net s t = 0 → Dist n.net.nodes.toNat ((arcsE n.net).map dear) t (distC n.net.nodes.toNat ((arcsE n.net).map dear) t)) ∧ K = ints A cap (shortE n.net s t).1 :: H) := by
  refine Calls_of_VC Tryz.func7 Tryz.ntmps7 rfl rfl hw ?_
  (apply VC_seq; apply VC_region; apply VL_box_agg; exact rfl; exact rfl; intro g)
  unfold shortE
  by_cases he : endsE n.net s t = 0
  rotate_left
  · rw [if_pos he]
    repeat' (first | ((first | apply VL_callt en20 | apply VL_callq en20); (repeat (first | exact args_nil | (apply args_cons; exact rfl))); exact rfl; exact fun _ hw => (ends_spec n s t hin.cons hw)) | apply (zs1 ?_) | apply (zs2 ?_) | (apply zg3; refine zs8 ?_) | (apply zg8; (refine zs16 ?_ ?_ <;> intro _ <;> try (exfalso; omega))) | apply (zs65 ?_) | apply (zs68 ?_) | apply (zs69 ?_) | apply (zs70 ?_) | (apply zg27; refine zs71 ?_) | apply (zs74 ?_) | apply (zs77 ?_) | fail)
    (repeat apply VQ_tail)
    apply VQ_nilSlice 3 1
    apply VQ_ret2; exact rfl; exact rfl; exact rfl
    exact ⟨none, 0, rfl, fun _ => rfl, fun h => absurd h he, rfl⟩
  rw [if_neg (fun h => h he)]
  obtain ⟨hck, ⟨s0, s1⟩, ⟨t0, t1⟩, hst⟩ := ends_ok he
  have hen := fun {H : List HP} {w : World} (hin : n.In B w0 H) (hw : St B w0 H w) => ends_spec n s t hin hw
  rw [he] at hen
  have hok := check_ok hck
  have hn0 := hok.n0
  have hn1 := hok.n1
  have hnn : ((n.net.nodes.toNat : Nat) : Int) = n.net.nodes := by omega
  have hnn2 : n.net.nodes = n.nodes := rfl
  have hal : (arcsE n.net).length ≤ 128 := Nat.le_trans (arcsTo_len _ _) hok.k0
  have hdo := dear_ok hok
  obtain ⟨L, hL⟩ : ∃ L, arcsE n.net = L := ⟨_, rfl⟩
  rw [hL] at hal
  have hLo := arcs_ok hok hnn.symm
  rw [hL] at hLo
  repeat' (first | ((first | apply VL_callt en20 | apply VL_callq en20); (repeat (first | exact args_nil | (apply args_cons; exact rfl))); exact rfl; exact fun _ hw => (hen hin.cons hw)) | apply (zs1 ?_) | apply (zs2 ?_) | (apply zg3; refine zs8 ?_) | (apply zg8; (refine zs16 ?_ ?_ <;> intro _ <;> try (exfalso; omega))) | apply (zs65 ?_) | apply (zs68 ?_) | apply (zs69 ?_) | apply (zs70 ?_) | (apply zg27; refine zs72 ?_) | apply (zs76 ?_) | fail)
  apply VL_call _ en21
  (repeat (first | exact args_nil | (apply args_cons; exact rfl)))
  exact rfl
  exact fun _ hw => (arcs_spec n hin.cons hck (hw))
  rintro _ _ ⟨A, cap, rfl, rfl⟩
  rw [hL]
  repeat' (first | apply (zs1 ?_) | apply (zs2 ?_) | (apply zg4; refine zs9 ?_) | apply (zs65 ?_) | apply (zs68 ?_) | apply (zs69 ?_) | apply (zs70 ?_) | apply (zs73 ?_) | fail)
  refine VC_loop1 (fun (k : Nat) => [(24, .int .i64 k), (23, .int .i64 L.length), (9, .slice A L.length cap), (3, .pointer (some ⟨g, 0, none⟩)), (1, .int .i64 s), (2, .int .i64 t)])
    (fun k => sl 55 3 A L.length cap (((L.take k).map dear ++ L.drop k).flatMap lkF) :: netB g n :: H) (fun k => k ≤ L.length) (fun k => L.length - k) 0 (Nat.zero_le _) ?_ (fun w hw => hw) ?_
  · (repeat (first | exact sub_nil _ | (apply sub_cons; first | exact rfl | exact congrArg (fun z : Int => some (Value.int .i64 z)) (by omega))))
  intro k hk K hK
  have hml : ((L.take k).map dear ++ L.drop k).length = L.length := by simp; omega
  by_cases hlt : k < L.length
  · obtain ⟨a, ha⟩ : ∃ a, L[k]? = some a := ⟨_, List.getElem?_eq_getElem hlt⟩
    obtain ⟨_, _, ⟨a5, a6⟩⟩ := hLo a (List.mem_of_getElem? ha)
    have hmg := mix_get ha
    have hms := mix_set ha
    rw [← hml]
    repeat' (first | (apply VL_store_field T (f := lkF) (l := (L.take k).map dear ++ L.drop k) (i := k) (q := 3) (o := 2) (b := a) (b' := dear a); exact rfl; exact rfl; exact rfl; (repeat (first | with_reducible exact Upd.here _ | with_reducible apply Upd.there)); exact hmg; exact rfl; exact fun _ => rfl; exact rfl; exact rfl) | apply (zs1 ?_) | apply (zs2 ?_) | (apply zg2; refine zs58 ?_) | (apply zg3; refine zs59 ?_) | (apply zg5; refine zs10 ?_) | (apply (zs17 ?_ ?_) <;> intro _ <;> try (exfalso; omega)) | (apply zg13; refine zs30 ?_) | (apply zg15; refine zs32 ?_) | apply (zs65 ?_) | apply (zs68 ?_) | apply (zs69 ?_) | apply (zs70 ?_) | (apply zg27; refine zs71 ?_) | apply (zs73 ?_) | apply (zs76 ?_) | apply (zs79 ?_) | fail)
    rw [hml, hms]
    apply hK (k + 1)
    · omega
    · omega
    · (repeat (first | exact sub_nil _ | (apply sub_cons; first | exact rfl | exact congrArg (fun z : Int => some (Value.int .i64 z)) (by omega))))
    · exact fun w hw => hw
  · obtain rfl : k = L.length := by omega
    clear hK
    rw [List.take_length, List.drop_length, List.append_nil]
    have hLl : (L.map dear).length = L.length := List.length_map _
    rw [← hLl]
    repeat' (first | apply (zs1 ?_) | (apply zg2; refine zs6 ?_) | (apply zg3; refine zs7 ?_) | (apply (zs17 ?_ ?_) <;> intro _ <;> try (exfalso; omega)) | apply (zs65 ?_) | apply (zs68 ?_) | apply (zs69 ?_) | apply (zs70 ?_) | (apply zg27; refine zs72 ?_) | apply (zs75 ?_) | apply (zs80 ?_) | apply (zs81 ?_) | fail)
    rw [show (Value.int .i64 n.nodes) = .int .i64 ((n.net.nodes.toNat : Nat) : Int) by rw [hnn]; rfl]
    rw [hL] at hdo
    apply VL_call _ en22
    (repeat (first | exact args_nil | (apply args_cons; exact rfl)))
    exact rfl
    exact fun _ hw => (first_spec n.net.nodes.toNat (L.map dear) s t (by omega) (by omega) hdo ⟨s0, by omega⟩ ⟨t0, by omega⟩ (.sl (by (focus repeat (first | with_reducible exact List.mem_cons_self | with_reducible apply List.mem_cons_of_mem | assumption)))) (hw))
    rintro _ _ ⟨A2, cap2, rfl, hway, hdl, hdd, rfl⟩
    have hsr : wayF (L.map dear) (distC n.net.nodes.toNat (L.map dear) t) s t = shortR n.net s t := by rw [← hL]; rfl
    rw [hL] at *
    rw [hsr] at hway ⊢
    obtain ⟨R, hR⟩ : ∃ R, shortR n.net s t = R := ⟨_, rfl⟩
    rw [hR] at hway ⊢
    by_cases hnil : R = []
    · rw [if_pos hnil]
      have hA := hway hnil
      subst hA
      repeat' (first | (apply VL_sleql0; exact rfl; exact rfl; exact rfl) | apply (zs1 ?_) | apply (zs2 ?_) | apply (zs65 ?_) | apply (zs68 ?_) | apply (zs69 ?_) | apply (zs70 ?_) | (apply zg27; refine zs71 ?_) | apply (zs74 ?_) | apply (zs77 ?_) | fail)
      apply VQ_st (ints none 0 [] :: H)
      · exact fun w hw => (hw.front 2).tail.tail.tail.nilSlice _ _
      apply VQ_ret2; exact rfl; exact rfl; exact rfl
      exact ⟨none, 0, rfl, fun _ => rfl, fun _ => hdd, rfl⟩
    · rw [if_neg hnil]
      have hRl : R.length ≤ 1073741824 := by rw [← hR]; exact way_len _ _ _ _
      have hpos : 0 < R.length := List.length_pos_iff.2 hnil
      refine VL_some (e := 3) (size := 1) (k := R.length) (cap := cap2) (A := A2) (xs := R.flatMap numF) List.mem_cons_self hpos ?_
      rintro ga rfl
      by_cases h9 : 9 < R.length
      · rw [if_pos h9]
        have hsh := fun {H : List HP} {w : World} (hw : St B w0 H w) => short_spec R.length (A := some ⟨ga, 0, none⟩) (cap := cap2) (by omega) hw
        rw [if_pos h9] at hsh
        repeat' (first | (apply VL_sleql0; exact rfl; exact rfl; exact rfl) | ((first | apply VL_callt en23 | apply VL_callq en23); (repeat (first | exact args_nil | (apply args_cons; exact rfl))); exact rfl; exact fun _ hw => (hsh hw)) | apply (zs1 ?_) | apply (zs2 ?_) | (apply zg8; (refine zs16 ?_ ?_ <;> intro _ <;> try (exfalso; omega))) | apply (zs65 ?_) | apply (zs68 ?_) | apply (zs69 ?_) | apply (zs70 ?_) | (apply zg27; first | refine zs71 ?_ | refine zs72 ?_) | apply (zs74 ?_) | apply (zs76 ?_) | apply (zs77 ?_) | fail)
        apply VQ_st (ints none 0 [] :: H)
        · exact fun w hw => (hw.front 2).tail.tail.tail.nilSlice _ _
        apply VQ_ret2; exact rfl; exact rfl; exact rfl
        exact ⟨none, 0, rfl, fun _ => rfl, fun _ => hdd, rfl⟩
      · rw [if_neg h9]
        have hsh := fun {H : List HP} {w : World} (hw : St B w0 H w) => short_spec R.length (A := some ⟨ga, 0, none⟩) (cap := cap2) (by omega) hw
        rw [if_neg h9] at hsh
        repeat' (first | (apply VL_sleql0; exact rfl; exact rfl; exact rfl) | ((first | apply VL_callt en23 | apply VL_callq en23); (repeat (first | exact args_nil | (apply args_cons; exact rfl))); exact rfl; exact fun _ hw => (hsh hw)) | apply (zs1 ?_) | apply (zs2 ?_) | (apply zg8; (refine zs16 ?_ ?_ <;> intro _ <;> try (exfalso; omega))) | apply (zs65 ?_) | apply (zs68 ?_) | apply (zs69 ?_) | apply (zs70 ?_) | (apply zg27; refine zs72 ?_) | apply (zs74 ?_) | apply (zs76 ?_) | fail)
        apply VQ_st (ints (some ⟨ga, 0, none⟩) cap2 R :: H)
        · exact fun w hw => hw.perm (.cons _ (.dropK (.drop _ _)))
        apply VQ_ret2; exact rfl; exact rfl; exact rfl
        exact ⟨some ⟨ga, 0, none⟩, cap2, rfl, fun h => absurd h hnil, fun _ => hdd, rfl⟩
end Go.Proofs.YtleldppdflgmgaaGreat
