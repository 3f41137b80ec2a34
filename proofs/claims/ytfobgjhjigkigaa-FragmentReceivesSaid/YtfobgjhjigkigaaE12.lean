/- An engine for walks, part 12: rows that are cut, copied, moved and cleared. -/
import Derived.Test.YtfobgjhjigkigaaE11
import Derived.Laws.CopyRow
namespace Go.Eng
open Go.RowKit
section
variable {P : Program} {m : Mode} {n B : Nat} {w0 : World} {ops : Array Oper} {Q : Exit → Act → World → Prop} {rest : List Oper} {env : Env} {H : List HP} {d : Nat} {ty : TypeId} {pos : String} {after : Array Edge} {x y : Operand}

theorem flat_take {α : Type} {f : α → List Value} {q : Nat} (hq : ∀ a, (f a).length = q) : ∀ (l : List α) (k : Nat), (l.take k).flatMap f = (l.flatMap f).take (k * q)
  | [], k => by simp
  | a :: l, 0 => by simp
  | a :: l, k + 1 => by
    have e1 : (k + 1) * q = q + k * q := by rw [Nat.add_mul]; omega
    have h1 : (f a).take (q + k * q) = f a := List.take_of_length_le (by rw [hq]; omega)
    rw [List.take_succ_cons, List.flatMap_cons, List.flatMap_cons, flat_take hq l k, e1, List.take_append, hq, h1, Nat.add_sub_cancel_left]
theorem flat_drop {α : Type} {f : α → List Value} {q : Nat} (hq : ∀ a, (f a).length = q) : ∀ (l : List α) (k : Nat), (l.drop k).flatMap f = (l.flatMap f).drop (k * q)
  | [], k => by simp
  | a :: l, 0 => by simp
  | a :: l, k + 1 => by
    have e1 : (k + 1) * q = q + k * q := by rw [Nat.add_mul]; omega
    have h1 : (f a).drop (q + k * q) = [] := List.drop_eq_nil_of_le (by rw [hq]; omega)
    rw [List.drop_succ_cons, List.flatMap_cons, flat_drop hq l k, e1, List.drop_append, hq, h1, Nat.add_sub_cancel_left, List.nil_append]
theorem flat_set {α : Type} {f : α → List Value} {q : Nat} (hq : ∀ a, (f a).length = q) {v : Value} {o : Nat} (ho : o < q) : ∀ (l : List α) (i : Nat) (b b' : α), l[i]? = some b → f b' = (f b).set o v → (l.flatMap f).set (i * q + o) v = (l.set i b').flatMap f
  | [], i, b, b', h, _ => by simp at h
  | a :: l, 0, b, b', h, hv => by
    obtain rfl : a = b := by simpa using h
    rw [List.flatMap_cons, List.set_cons_zero, List.flatMap_cons, hv, Nat.zero_mul, Nat.zero_add, List.set_append_left _ _ (by rw [hq]; exact ho)]
  | a :: l, i + 1, b, b', h, hv => by
    have h1 := hq a
    rw [List.flatMap_cons, List.set_cons_succ, List.flatMap_cons, List.set_append_right _ _ (by rw [h1, Nat.add_mul]; omega), h1, ← flat_set hq ho l i b b' (by simpa using h) hv]
    congr 2
    rw [Nat.add_mul]; omega
theorem flat_one_cells {α : Type} {f : α → List Value} (h1 : ∀ a, allOne (f a) = true) (l : List α) : ∀ v ∈ l.flatMap f, v.oneCell' = true := by
  intro v hv
  obtain ⟨a, _, ha⟩ := List.mem_flatMap.1 hv
  exact allOne_spec (h1 a) v ha

/-- Where the part of a slice from element o on lies. -/
def subA (A : Option Addr) (o cap size : Nat) : Option Addr := if cap = o then A else A.map fun a => a.add (o * size)

theorem Rd.sub {α : Type} {f : α → List Value} {q : Nat} {l : List α} {A : Option Addr} {cap o k : Nat} (hq : ∀ a, (f a).length = q) (hr : Rd B w0 H A (l.flatMap f)) (hc : l.length ≤ cap) : Rd B w0 H (subA A o cap q) (((l.drop o).take k).flatMap f) := by
  intro w hw j v hv
  rw [flat_take hq, flat_drop hq] at hv
  have hv2 : ((l.flatMap f).drop (o * q))[j]? = some v := by
    rw [List.getElem?_take] at hv
    by_cases hj : j < k * q
    · rw [if_pos hj] at hv; exact hv
    · rw [if_neg hj] at hv; cases hv
  rw [List.getElem?_drop] at hv2
  obtain ⟨g, oo, rfl, h2⟩ := hr w hw _ _ hv2
  unfold subA
  by_cases hco : cap = o
  · exfalso
    have h3 := (List.getElem?_eq_some_iff.1 hv2).1
    rw [length_flat hq] at h3
    have h4 : l.length * q ≤ o * q := Nat.mul_le_mul_right q (by omega)
    omega
  · rw [if_neg hco]
    exact ⟨g, oo + o * q, by rw [Option.map_some, Addr.add_lit], by rw [Nat.add_assoc]; exact h2⟩
theorem Rd.take {α : Type} {f : α → List Value} {q : Nat} {l : List α} {A : Option Addr} (k : Nat) (hq : ∀ a, (f a).length = q) (hr : Rd B w0 H A (l.flatMap f)) : Rd B w0 H A ((l.take k).flatMap f) := by
  intro w hw j v hv
  rw [flat_take hq, List.getElem?_take] at hv
  by_cases hj : j < k * q
  · rw [if_pos hj] at hv; exact hr w hw j v hv
  · rw [if_neg hj] at hv; cases hv

/-! ### Slices of slices -/

theorem run_sliceT (T : Tab P) {w : World} {t e size bytes : Nat} {A : Option Addr} {k cap : Nat} {lo hi mx : Option Value} {l h mm : Nat} (ht : look T.sl t = some (e, size, bytes)) (hb : (Instr.sliceBounds true k cap lo hi mx).run P w = .ok (l, h, mm) w) :
    (Instr.slice t (.slice A k cap) lo hi mx).run P w = .ok (.slice (if mm = l then A else A.map (·.add (l * size))) (h - l) (mm - l)) w := by
  obtain ⟨hut, inf, z', hinf, _, _, hsi, _⟩ := sliceT_spec (T.slic ht)
  simp [Instr.slice, run_underlying hut, hb, sizeOf, typeInfo, hinf, hsi]

theorem run_sliceAtT (T : Tab P) {w : World} {t e size bytes : Nat} {A : Option Addr} {k cap : Nat} {lo hi mx : Option Value} {l h mm : Nat} (ht : look T.sl t = some (e, size, bytes)) (hb : (Instr.sliceBounds true k cap lo hi mx).run P w = .ok (l, h, mm) w) :
    (Instr.sliceAt t (.slice A k cap) lo hi mx).run P w = .ok (.slice (if mm = l then A else A.map (·.add (l * size))) (h - l) (mm - l)) w := by
  obtain ⟨hut, _⟩ := sliceT_spec (T.slic ht)
  simp [Instr.sliceAt, run_underlying hut, run_sliceT T (A := A) ht hb]

theorem VL_slice_lo (T : Tab P) {t e size bytes k cap n' : Nat} {A : Option Addr} {lo : Operand} {ki : IntKind} {z : Int} (hx : evo env x = some (.slice A k cap)) (hl : evo env lo = some (.int ki z)) (ht : look T.sl t = some (e, size, bytes)) (hn : Nat.ble (d + 1) n = true) (hb : 0 ≤ z ∧ z ≤ k) (hn' : k - z.toNat = n')
    (h : VL P m n B w0 ops Q rest ((d, .slice (subA A z.toNat cap size) n' (cap - z.toNat)) :: env) H) : VL P m n B w0 ops Q (⟨some d, .slice t x (some lo) none none, ty, pos, after, none⟩ :: rest) env H := by
  subst hn'
  refine VL_pure rfl rfl hn rfl (fun f w ha _ => ?_) h
  have hb2 : (Instr.sliceBounds true k cap (some (.int ki z)) none none).run P w = .ok (z.toNat, k, cap) w := by simp [Instr.sliceBounds, Instr.sliceBound, asIntOf, hb]
  have hr := run_sliceAtT T (A := A) ht hb2
  simp only [execOp, ha.eval hx, Option.map_some, ha.eval hl, Option.map_none]
  simp [hr, subA]

theorem VL_slice_hi (T : Tab P) {t e size bytes k cap : Nat} {A : Option Addr} {hi : Operand} {ki : IntKind} {z : Int} {xs : List Value} (hx : evo env x = some (.slice A k cap)) (hl : evo env hi = some (.int ki z)) (hm : sl e size A k cap xs ∈ H) (ht : look T.sl t = some (e, size, bytes)) (hn : Nat.ble (d + 1) n = true) (hb : 0 ≤ z ∧ z ≤ k)
    (h : VL P m n B w0 ops Q rest ((d, .slice A z.toNat cap) :: env) H) : VL P m n B w0 ops Q (⟨some d, .slice t x none (some hi) none, ty, pos, after, none⟩ :: rest) env H := by
  refine VL_pure rfl rfl hn rfl (fun f w ha hw => ?_) h
  have hown := hw.sl hm
  have hkc : k ≤ cap := by
    rcases hown.2 with ⟨e1, e2⟩ | ⟨g, c, cur, e1, _, _, e4, _⟩
    · omega
    · injection e1 with _ _ e3; omega
  have hA : (if cap = 0 then A else A.map (·.add (0 * size))) = A := by
    rcases hown.2 with ⟨e1, e2⟩ | ⟨g, c, cur, e1, _⟩
    · injection e1 with e1 _ _; subst e1; simp
    · injection e1 with e1 _ _; subst e1; simp [Addr.add_lit]
  have hb2 : (Instr.sliceBounds true k cap none (some (.int ki z)) none).run P w = .ok (0, z.toNat, cap) w := by
    have : z ≤ cap := by omega
    simp [Instr.sliceBounds, Instr.sliceBound, asIntOf, hb.1, this]
  have hr := run_sliceAtT T (A := A) ht hb2
  rw [hA] at hr
  simp only [execOp, ha.eval hx, Option.map_some, ha.eval hl, Option.map_none]
  simp [hr]

/-- The same of a row that is only read. -/
theorem VL_slice_hi_rd (T : Tab P) {α : Type} {l : List α} {t e size bytes cap n' : Nat} {A : Option Addr} {hi : Operand} {ki : IntKind} {z : Int} (hx : evo env x = some (.slice A l.length cap)) (hl : evo env hi = some (.int ki z)) (ht : look T.sl t = some (e, size, bytes)) (hn : Nat.ble (d + 1) n = true) (hb : 0 ≤ z ∧ z ≤ l.length) (hc : l.length ≤ cap) (hn' : z.toNat = n')
    (h : VL P m n B w0 ops Q rest ((d, .slice (subA A 0 cap size) n' cap) :: env) H) : VL P m n B w0 ops Q (⟨some d, .slice t x none (some hi) none, ty, pos, after, none⟩ :: rest) env H := by
  subst hn'
  refine VL_pure rfl rfl hn rfl (fun f w ha hw => ?_) h
  have hb2 : (Instr.sliceBounds true l.length cap none (some (.int ki z)) none).run P w = .ok (0, z.toNat, cap) w := by
    have : z ≤ cap := by omega
    simp [Instr.sliceBounds, Instr.sliceBound, asIntOf, hb.1, this]
  have hr := run_sliceAtT T (A := A) ht hb2
  simp only [execOp, ha.eval hx, Option.map_some, ha.eval hl, Option.map_none]
  simp [hr, subA]

theorem VL_slice_lh (T : Tab P) {t e size bytes k cap n' : Nat} {A : Option Addr} {lo hi : Operand} {ki kj : IntKind} {z u : Int} (hx : evo env x = some (.slice A k cap)) (hl : evo env lo = some (.int ki z)) (hh : evo env hi = some (.int kj u)) (ht : look T.sl t = some (e, size, bytes)) (hn : Nat.ble (d + 1) n = true) (hb : 0 ≤ z ∧ z ≤ u ∧ u ≤ cap) (hn' : u.toNat - z.toNat = n')
    (h : VL P m n B w0 ops Q rest ((d, .slice (subA A z.toNat cap size) n' (cap - z.toNat)) :: env) H) : VL P m n B w0 ops Q (⟨some d, .slice t x (some lo) (some hi) none, ty, pos, after, none⟩ :: rest) env H := by
  subst hn'
  refine VL_pure rfl rfl hn rfl (fun f w ha _ => ?_) h
  have hb2 : (Instr.sliceBounds true k cap (some (.int ki z)) (some (.int kj u)) none).run P w = .ok (z.toNat, u.toNat, cap) w := by
    have h1 : 0 ≤ u := by omega
    have h3 : z ≤ max u 0 := by omega
    simp [Instr.sliceBounds, Instr.sliceBound, asIntOf, hb.1, hb.2.2, h1, h3]
  have hr := run_sliceAtT T (A := A) ht hb2
  simp only [execOp, ha.eval hx, Option.map_some, ha.eval hl, ha.eval hh, Option.map_none]
  simp [hr, subA]

/-- A slice whose bounds are looked at, and which nobody uses. -/
theorem VL_slice3 (T : Tab P) {t e size bytes k cap : Nat} {A : Option Addr} {lo hi mx : Operand} {ki kj kk : IntKind} {z u v : Int} (hx : evo env x = some (.slice A k cap)) (hl : evo env lo = some (.int ki z)) (hh : evo env hi = some (.int kj u)) (hv : evo env mx = some (.int kk v)) (ht : look T.sl t = some (e, size, bytes)) (hn : Nat.ble (d + 1) n = true) (hb : 0 ≤ z ∧ z ≤ u ∧ u ≤ v ∧ v ≤ cap)
    (h : VL P m n B w0 ops Q rest ((d, .slice (if v.toNat = z.toNat then A else A.map (·.add (z.toNat * size))) (u.toNat - z.toNat) (v.toNat - z.toNat)) :: env) H) : VL P m n B w0 ops Q (⟨some d, .slice t x (some lo) (some hi) (some mx), ty, pos, after, none⟩ :: rest) env H := by
  refine VL_pure rfl rfl hn rfl (fun f w ha _ => ?_) h
  have hb2 : (Instr.sliceBounds true k cap (some (.int ki z)) (some (.int kj u)) (some (.int kk v))).run P w = .ok (z.toNat, u.toNat, v.toNat) w := by
    have h1 : 0 ≤ u := by omega
    have h3 : z ≤ max u 0 := by omega
    have h4 : 0 ≤ v := by omega
    have h6 : u ≤ max v 0 := by omega
    simp [Instr.sliceBounds, Instr.sliceBound, asIntOf, hb.1, hb.2.2, h1, h3, h4, h6]
  have hr := run_sliceAtT T (A := A) ht hb2
  simp only [execOp, ha.eval hx, Option.map_some, ha.eval hl, ha.eval hh, ha.eval hv]
  simp [hr]

/-! ### Rows of one's own that are written in pieces -/

theorem setRow_other {w : World} {g b : Nat} {cs : Array Value} (h : b ≠ g) : (w.setRow g cs).heap[b]? = w.heap[b]? := by
  simp [World.setRow, Array.getElem?_modify, Ne.symm h]

theorem St.storeRow {w : World} {K : List HP} {e size k k' cap g o : Nat} {A : Option Addr} {xs xs' vs : List Value} {cur : Array Value} (hw : St B w0 H w) (hu : Upd (Eng.sl e size A k cap xs) (Eng.sl e size A k' cap xs') H K) (hA : A = some ⟨g, 0, none⟩)
    (hb : w.heap[g]? = some (.cells cur e (0, 0))) (hcur : cur.size = cap * size) (hk' : k' ≤ cap) (hcm : cap ≤ maxLen) (hov : o + vs.length ≤ cur.size) (hx' : (cur.toList.take o ++ vs ++ cur.toList.drop (o + vs.length)).take (k' * size) = xs') (hxl : xs'.length = k' * size) :
    St B w0 K (w.setRow g (cur.toList.take o ++ vs ++ cur.toList.drop (o + vs.length)).toArray) := by
  refine hw.upd hu rfl rfl rfl (by simp [World.setRow]) fun S1 ⟨hown, hS⟩ => ⟨⟨⟨hxl, .inr ⟨g, cap, _, by rw [hA], Nat.zero_le _, setRow_heap w g cur _ e _ hb, hk', hcm, ?_, by simpa using hx'⟩⟩, hS⟩, fun b hb' _ => setRow_other fun e => hb' (by rw [e]; exact hS _ hA)⟩
  simp only [List.size_toArray, List.length_append, List.length_take, List.length_drop, Array.length_toList]
  omega

/-- What a piece says of memory. -/
theorem sl_open {w : World} {e size k cap : Nat} {A : Option Addr} {xs : List Value} (h : w.ownsRow 0 e size (.slice A k cap) k xs) : (A = none ∧ k = 0 ∧ cap = 0 ∧ xs = []) ∨ ∃ g cur, A = some ⟨g, 0, none⟩ ∧ w.heap[g]? = some (.cells cur e (0, 0)) ∧ k ≤ cap ∧ cap ≤ maxLen ∧ cur.size = cap * size ∧ cur.toList.take (k * size) = xs ∧ xs.length = k * size := by
  obtain ⟨h1, h2⟩ := h
  rcases h2 with ⟨e1, e2⟩ | ⟨g, c, cur, e1, _, e3, e4, e5, e6, e7⟩
  · injection e1 with a1 a2 a3
    exact .inl ⟨a1, e2, a3, List.eq_nil_of_length_eq_zero (by rw [h1, e2]; simp)⟩
  · injection e1 with a1 a2 a3
    subst a3
    exact .inr ⟨g, cur, a1, e3, e4, e5, e6, e7, h1⟩

/-- A piece of which only the first elements are looked at any more. -/
theorem St.shrink {w : World} {K : List HP} {e size k k' cap : Nat} {A : Option Addr} {xs : List Value} (hw : St B w0 H w) (hk : k' ≤ k) (hu : Upd (Eng.sl e size A k cap xs) (Eng.sl e size A k' cap (xs.take (k' * size))) H K) : St B w0 K w := by
  refine hw.upd hu rfl rfl rfl (Nat.le_refl _) fun S1 ⟨hown, hS⟩ => ⟨⟨?_, hS⟩, fun _ _ _ => rfl⟩
  rcases sl_open hown with ⟨rfl, rfl, rfl, rfl⟩ | ⟨g, cur, rfl, h1, h2, h3, h4, h5, h6⟩
  · obtain rfl : k' = 0 := by omega
    exact ⟨by simp, .inl ⟨rfl, rfl⟩⟩
  · have hm : k' * size ≤ k * size := Nat.mul_le_mul_right _ hk
    refine ⟨by rw [List.length_take, h6]; omega, .inr ⟨g, cap, cur, rfl, Nat.zero_le _, h1, by omega, h3, h4, ?_⟩⟩
    rw [← h5, List.take_take, Nat.min_eq_left hm]

theorem VL_append_rd (T : Tab P) {α : Type} {f : α → List Value} {l2 : List α} {t : Nat} {A A2 : Option Addr} {k cap c : Nat} {xs : List Value} {e size bytes : Nat} {K : Option Addr → Nat → List HP}
    (hx : evo env x = some (.slice A k cap)) (ht : look T.sl t = some (e, size, bytes)) (hy : evo env y = some (.slice A2 l2.length c)) (hr : Rd B w0 H A2 (l2.flatMap f)) (hq : ∀ a, (f a).length = size) (h1 : ∀ a, allOne (f a) = true) (hn : Nat.ble (d + 1) n = true)
    (hu : ∀ A' cap', Upd (sl e size A k cap xs) (sl e size A' (k + l2.length) cap' (xs ++ l2.flatMap f)) H (K A' cap')) (hby : (k + l2.length) * bytes ≤ 140737488355328)
    (h : ∀ A' cap', VL P none n B w0 ops Q rest ((d, .slice A' (k + l2.length) cap') :: env) (K A' cap')) :
    VL P none n B w0 ops Q (⟨some d, .call ⟨.builtin .append, #[x, y], #[t, t]⟩, ty, pos, after, none⟩ :: rest) env H := by
  obtain ⟨hut, i, z, hi, hz, hzs, hsi, hbi, hs0, hb0⟩ := sliceT_spec (T.slic ht)
  refine VL_opE (fun v K' => ∃ A' cap', v = .slice A' (k + l2.length) cap' ∧ K' = K A' cap') rfl rfl hn (fun a w ha hw => ?_) (by rintro _ _ ⟨A', cap', rfl, rfl⟩; exact h A' cap')
  have hmem : sl e size A k cap xs ∈ H := by
    obtain ⟨L1, L2, rfl, _⟩ := hu none 0
    simp
  have hown := hw.sl hmem
  have h63 : k + l2.length ≤ maxLen := by
    have : k + l2.length ≤ (k + l2.length) * bytes := Nat.le_mul_of_pos_right _ hb0
    simp only [maxLen]; omega
  cases A2 with
  | none =>
    have hl0 : l2 = [] := by
      cases l2 with
      | nil => rfl
      | cons b l =>
        have hb := hq b
        obtain ⟨v, hv⟩ : ∃ v, (f b)[0]? = some v := ⟨_, List.getElem?_eq_getElem (by omega)⟩
        obtain ⟨g, o, e1, _⟩ := hr w hw 0 v (by rw [List.flatMap_cons, List.getElem?_append_left (by omega)]; exact hv)
        cases e1
    subst hl0
    have hkc : k ≤ cap := by
      rcases sl_open hown with ⟨_, e1, e2, _⟩ | ⟨_, _, _, _, e1, _⟩ <;> omega
    refine ⟨.slice A k cap, K A cap, w, ?_, ?_, A, cap, by simp, rfl⟩
    · cases A with
      | none => simp [execOp, resolve, invoke, builtin, ha.eval hx, ha.eval hy, Builtin.append_, run_underlying hut, sizeOf, typeInfo, hi, Builtin.lenOf, hkc, Builtin.firstCells]
      | some a0 => simp [execOp, resolve, invoke, builtin, ha.eval hx, ha.eval hy, Builtin.append_, run_underlying hut, sizeOf, typeInfo, hi, Builtin.lenOf, hkc, Builtin.firstCells, storeCells]
    · have := hu A cap
      simp only [List.length_nil, Nat.add_zero, List.flatMap_nil, List.append_nil] at this
      exact hw.upd this rfl rfl rfl (Nat.le_refl _) fun S1 hS => ⟨hS, fun _ _ _ => rfl⟩
  | some a2 =>
    obtain ⟨v', w', hrun, hown', hgrow, _, hat⟩ := run_append_own_at (P := P) w 0 t ty e i z size bytes hut hi hz hsi hbi hzs hs0 (.slice A k cap) k xs hown a2 l2.length c (l2.flatMap f) (length_flat hq l2)
      (fun j u hj => by
        obtain ⟨g, o, e1, e2⟩ := hr w hw j u hj
        injection e1 with e1
        rw [e1, Addr.add_lit]; exact e2) (flat_one_cells h1 l2) h63 hby (Nat.zero_le _)
    have hshape : ∃ A' cap', v' = .slice A' (k + l2.length) cap' := by
      rcases hown'.2 with ⟨e1, e2⟩ | ⟨g', c', _, e1, _⟩
      · exact ⟨none, 0, by rw [e1, e2]⟩
      · exact ⟨_, _, e1⟩
    obtain ⟨A', cap', rfl⟩ := hshape
    refine ⟨_, K A' cap', w', by simp [execOp, resolve, invoke, builtin, ha.eval hx, ha.eval hy, hrun], ?_, A', cap', rfl, rfl⟩
    refine hw.updN (hu A' cap') hgrow.os hgrow.tape hgrow.output hgrow.size fun S1 ⟨_, hS⟩ => ⟨⟨fun b => Value.ownBlock (.slice A' (k + l2.length) cap') = some b, ⟨hown', ?_⟩, fun b hb => ?_⟩, fun b hb hlt => hgrow.block b hlt (fun e => hb ?_)⟩
    · rintro a rfl; rfl
    · rcases hat with e | e
      · rw [e] at hb
        cases A with
        | none => cases hb
        | some a => left; have := hS a rfl; simp only [Value.ownBlock, Option.some.injEq] at hb; rwa [← hb]
      · rw [e] at hb
        right
        simp only [Option.some.injEq] at hb
        subst hb
        refine ⟨Nat.le_refl _, ?_⟩
        rcases sl_open hown' with ⟨rfl, _⟩ | ⟨g', cur', rfl, h5, _⟩
        · simp [Value.ownBlock] at e
        · simp only [Value.ownBlock, Option.some.injEq] at e
          rw [← e]
          exact (Array.getElem?_eq_some_iff.1 h5).1
    · cases A with
      | none => simp [Value.ownBlock] at e
      | some a => have := hS a rfl; simp only [Value.ownBlock, Option.some.injEq] at e; rwa [e]

/-- The part of a row behind what is looked at is cleared. -/
theorem VL_clear (T : Tab P) (T2 : Tab2 P) {t e size bytes k cap o mm c : Nat} {A : Option Addr} {xs : List Value} {z : Value} (hx : evo env x = some (.slice (subA A o cap size) mm c)) (hm : sl e size A k cap xs ∈ H) (ht : look T.sl t = some (e, size, bytes)) (hz : look T2.zt e = some z) (hz1 : allOne z.cells.toList = true) (hb : k ≤ o ∧ o + mm ≤ cap)
    (h : VL P none n B w0 ops Q rest env H) : VL P none n B w0 ops Q (⟨none, .call ⟨.builtin .clear, #[x], #[t]⟩, ty, pos, after, none⟩ :: rest) env H := by
  obtain ⟨hut, i, z', hi, hz', hzs, hsi, hbi, hs0, hb0⟩ := sliceT_spec (T.slic ht)
  have hzz : z' = z := by
    have h2 := look_map T2.zt_ok hz
    unfold zeroT at h2
    rw [hi] at h2
    exact Option.some.inj (hz'.symm.trans h2)
  subst hzz
  refine VL_opU (v := .tuple #[]) rfl rfl (fun a w ha hw => ?_) h
  rcases sl_open (hw.sl hm) with ⟨rfl, rfl, rfl, rfl⟩ | ⟨g, cur, rfl, h1, h2, h3, h4, h5, h6⟩
  · obtain rfl : mm = 0 := by omega
    refine ⟨w, ?_, hw⟩
    have : subA none o 0 size = none := by unfold subA; split <;> rfl
    rw [this] at hx
    simp [execOp, resolve, invoke, builtin, ha.eval hx, Builtin.clear_, run_underlying hut]
  · by_cases hm0 : mm = 0
    · subst hm0
      refine ⟨w, ?_, hw⟩
      cases hsa : subA (some ⟨g, 0, none⟩) o cap size with
      | none => rw [hsa] at hx; simp [execOp, resolve, invoke, builtin, ha.eval hx, Builtin.clear_, run_underlying hut]
      | some b => rw [hsa] at hx; simp [execOp, resolve, invoke, builtin, ha.eval hx, Builtin.clear_, run_underlying hut]
    · have hsa : subA (some ⟨g, 0, none⟩) o cap size = some ⟨g, o * size, none⟩ := by
        unfold subA
        rw [if_neg (by omega), Option.map_some, Addr.add_lit, Nat.zero_add]
      rw [hsa] at hx
      have hlen : (Builtin.zeroCells z'.cells mm).toList.length = mm * size := by simp [Builtin.zeroCells, hzs]
      have hone : ∀ v ∈ (Builtin.zeroCells z'.cells mm).toList, v.oneCell' = true := by
        intro v hv
        simp only [Builtin.zeroCells, Array.toList_map, List.mem_map] at hv
        obtain ⟨j, _, rfl⟩ := hv
        have hlt : j % z'.cells.size < z'.cells.size := Nat.mod_lt _ (by omega)
        rw [getElem!_pos z'.cells (j % z'.cells.size) hlt]
        exact allOne_spec hz1 _ (by simp)
      have hov : o * size + (Builtin.zeroCells z'.cells mm).toList.length ≤ cur.size := by
        rw [hlen, h4, ← Nat.add_mul]; exact Nat.mul_le_mul_right _ hb.2
      have hrun := run_storeCells_at (P := P) g (o * size) e (Builtin.zeroCells z'.cells mm).toList 0 cur w h1 (by rw [Nat.add_zero]; exact hov) hone
      rw [Nat.add_zero] at hrun
      obtain ⟨L1, L2, hL⟩ : ∃ L1 L2, H = L1 ++ sl e size (some ⟨g, 0, none⟩) k cap xs :: L2 := List.append_of_mem hm
      refine ⟨_, ?_, hw.storeRow (k' := k) (xs' := xs) ⟨L1, L2, hL, hL⟩ rfl h1 h4 h2 h3 hov ?_ h6⟩
      · have hzv : (zeroValue e).run P w = .ok z' w := zero_run (by unfold zeroT; rw [hi]; exact hz') w
        obtain ⟨m', rfl⟩ : ∃ m', mm = m' + 1 := ⟨mm - 1, by omega⟩
        simp [execOp, resolve, invoke, builtin, ha.eval hx, Builtin.clear_, run_underlying hut, hzv, hrun]
      · have hko : k * size ≤ o * size := Nat.mul_le_mul_right _ hb.1
        have hoc : o * size ≤ cur.toList.length := by simp; omega
        rw [List.append_assoc, List.take_append_of_le_length (by rw [List.length_take]; omega), List.take_take, Nat.min_eq_left hko]
        exact h5

/-- What lies behind is moved forward within one row: append(s[:i], s[j:]...). -/
theorem VL_append_in (T : Tab P) {t e size bytes i j mm k cap c : Nat} {A : Option Addr} {xs : List Value} {K : List HP} (hx : evo env x = some (.slice A i cap)) (hy : evo env y = some (.slice (subA A j cap size) mm c)) (ht : look T.sl t = some (e, size, bytes)) (hn : Nat.ble (d + 1) n = true)
    (hu : Upd (sl e size A k cap xs) (sl e size A (i + mm) cap (xs.take (i * size) ++ xs.drop (j * size))) H K) (h1 : ∀ v ∈ xs, v.oneCell' = true) (hb : i ≤ j ∧ j ≤ k ∧ mm = k - j ∧ 0 < k)
    (h : VL P none n B w0 ops Q rest ((d, .slice A (i + mm) cap) :: env) K) :
    VL P none n B w0 ops Q (⟨some d, .call ⟨.builtin .append, #[x, y], #[t, t]⟩, ty, pos, after, none⟩ :: rest) env H := by
  obtain ⟨hut, inf, z, hi, hz, hzs, hsi, hbi, hs0, hb0⟩ := sliceT_spec (T.slic ht)
  refine VL_opE (fun v K' => v = .slice A (i + mm) cap ∧ K' = K) rfl rfl hn (fun a w ha hw => ?_) (by rintro _ _ ⟨rfl, rfl⟩; exact h)
  have hmem : sl e size A k cap xs ∈ H := by
    obtain ⟨L1, L2, rfl, _⟩ := hu
    simp
  rcases sl_open (hw.sl hmem) with ⟨rfl, e1, _⟩ | ⟨g, cur, rfl, g1, g2, g3, g4, g5, g6⟩
  · omega
  have hdl : (xs.drop (j * size)).length = mm * size := by rw [List.length_drop, g6, hb.2.2.1, Nat.sub_mul]
  have hij : i * size ≤ j * size := Nat.mul_le_mul_right _ hb.1
  have hjk : j * size ≤ k * size := Nat.mul_le_mul_right _ hb.2.1
  have hkc : k * size ≤ cap * size := Nat.mul_le_mul_right _ g2
  have hov : i * size + (xs.drop (j * size)).length ≤ cur.size := by rw [List.length_drop, g6, g4]; omega
  have hrun := run_storeCells_at (P := P) g (i * size) e (xs.drop (j * size)) 0 cur w g1 (by rw [Nat.add_zero]; exact hov) (fun v hv => h1 v (List.mem_of_mem_drop hv))
  rw [Nat.add_zero] at hrun
  refine ⟨_, K, _, ?_, hw.storeRow (k' := i + mm) (o := i * size) (vs := xs.drop (j * size)) hu rfl g1 g4 (by omega) g3 hov ?_ ?_, rfl, rfl⟩
  · have hf : (Builtin.firstCells size mm (.slice (subA (some ⟨g, 0, none⟩) j cap size) mm c)).run P w = .ok (xs.drop (j * size)).toArray w := by
      by_cases hcj : cap = j
      · have hm0 : mm = 0 := by omega
        have hnil : xs.drop (j * size) = [] := List.eq_nil_of_length_eq_zero (by rw [hdl, hm0]; simp)
        unfold subA
        rw [if_pos hcj, hnil]
        exact run_firstCells_some (P := P) (w := w) size mm _ mm c [] (by simp [hm0]) (by simp)
      · unfold subA
        rw [if_neg hcj, Option.map_some, Addr.add_lit, Nat.zero_add]
        refine run_firstCells_some (P := P) (w := w) size mm _ mm c _ hdl fun q v hq => ?_
        rw [List.getElem?_drop] at hq
        have h7 := (List.getElem?_eq_some_iff.1 hq).1
        rw [Addr.add_lit]
        simp only [World.cell?, g1]
        rw [← g5, List.getElem?_take] at hq
        by_cases hlt : j * size + q < k * size
        · rw [if_pos hlt] at hq
          simpa using hq
        · rw [if_neg hlt] at hq; cases hq
    have hneed : i + mm ≤ cap := by omega
    have hadd : (⟨g, 0, none⟩ : Addr).add (i * size) = ⟨g, i * size, none⟩ := by rw [Addr.add_lit, Nat.zero_add]
    simp [execOp, resolve, invoke, builtin, ha.eval hx, ha.eval hy, Builtin.append_, run_underlying hut, sizeOf, typeInfo, hi, hsi, Builtin.lenOf, hneed, hf, hadd, hrun]
  · have hxt : xs.take (i * size) = cur.toList.take (i * size) := by rw [← g5, List.take_take, Nat.min_eq_left (by omega)]
    rw [hxt]
    apply List.take_left'
    rw [List.length_append, List.length_take, Array.length_toList, hdl, Nat.add_mul]
    omega
  · rw [List.length_append, List.length_take, hdl, Nat.add_mul, g6]
    omega

/-! ### Elements of more cells -/

theorem VL_store_field (T : Tab P) {α : Type} {f : α → List Value} {l : List α} {t i q o e k cap : Nat} {b b' : α} {v : Value} {A : Option Addr} {K : List HP} (hx : evo env x = some (sptr A (i * q + o))) (hy : evo env y = some v) (h1 : v.oneCell' = true)
    (hu : Upd (sl e q A k cap (l.flatMap f)) (sl e q A k cap ((l.set i b').flatMap f)) H K) (hb : l[i]? = some b) (hv : f b' = (f b).set o v) (hq : ∀ a, (f a).length = q) (ho : Nat.blt o q = true) (ht : look T.sc t = some ())
    (h : VL P none n B w0 ops Q rest env K) : VL P none n B w0 ops Q (⟨none, .store t x y, ty, pos, after, none⟩ :: rest) env H := by
  have ho' : o < q := by simpa using ho
  have hi := (List.getElem?_eq_some_iff.1 hb).1
  refine VL_store_sl (xs := l.flatMap f) (e := e) (size := q) (k := k) (cap := cap) T hx hy h1 ?_ ht ?_ h
  · rw [flat_set hq ho' l i b b' hb hv]; exact hu
  · rw [length_flat hq]
    have : (i + 1) * q ≤ l.length * q := Nat.mul_le_mul_right _ hi
    rw [Nat.add_mul] at this
    omega
end
end Go.Eng
