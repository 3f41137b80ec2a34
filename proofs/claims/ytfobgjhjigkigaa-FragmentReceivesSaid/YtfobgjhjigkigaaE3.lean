/- The engine, part 3: slices, strings. -/
import Derived.Test.YtfobgjhjigkigaaE2
import Derived.Maps.AppendAt
namespace Go.Eng
open Go.RowKit

/-! ### A slice of the call's own (nil let in): its first cells are xs -/

def sl (e size : Nat) (A : Option Addr) (k cap : Nat) (xs : List Value) : HP :=
  ⟨fun S w => w.ownsRow 0 e size (.slice A k cap) k xs ∧ ∀ a, A = some a → S a.block, by
    rintro S w w' hs ⟨⟨h1, h2⟩, h3⟩
    refine ⟨⟨h1, ?_⟩, h3⟩
    rcases h2 with h2 | ⟨g, c, cur, e1, e2, e3, e4⟩
    · exact .inl h2
    · refine .inr ⟨g, c, cur, e1, e2, ?_, e4⟩
      injection e1 with e1
      rw [hs g (h3 _ e1)]
      exact e3⟩

theorem sl_nil {e size : Nat} (S : Nat → Prop) (w : World) : (sl e size none 0 0 []).holds S w := ⟨⟨by simp, .inl ⟨rfl, rfl⟩⟩, fun a h => by cases h⟩

/-- A nil slice is a piece without memory. -/
theorem St.nilSlice {B : Nat} {w0 w : World} {H : List HP} (h : St B w0 H w) (e size : Nat) : St B w0 (sl e size none 0 0 [] :: H) w :=
  ⟨h.below, h.le, fun _ => False, fun b => B ≤ b ∧ b < w.heap.size, fun _ hb => hb.elim, fun _ hb => hb, fun _ hb => hb.elim, sl_nil _ _, h.sep⟩

theorem St.sl {B : Nat} {w0 w : World} {H : List HP} {e size : Nat} {A : Option Addr} {k cap : Nat} {xs : List Value} (h : St B w0 H w) (hm : Eng.sl e size A k cap xs ∈ H) :
    w.ownsRow 0 e size (.slice A k cap) k xs := by
  obtain ⟨S, _, h2, _⟩ := h.at_ hm
  exact h2

theorem sl_cell {w : World} {e size : Nat} {A : Option Addr} {k cap : Nat} {xs : List Value} (h : w.ownsRow 0 e size (.slice A k cap) k xs) {j : Nat} {v : Value} (hv : xs[j]? = some v) :
    ∃ g, A = some ⟨g, 0, none⟩ ∧ w.cell? ⟨g, j, none⟩ = some v ∧ ∃ cur, w.heap[g]? = some (.cells cur e (0, 0)) ∧ cur[j]? = some v := by
  rcases h.2 with ⟨e1, e2⟩ | ⟨g, c, cur, e1, _, e3, _, _, _, e4⟩
  · exfalso
    have := h.1
    rw [e2, Nat.zero_mul] at this
    rw [List.eq_nil_of_length_eq_zero this] at hv
    cases hv
  · injection e1 with e1
    have hc : cur[j]? = some v := by
      rw [← e4] at hv
      rw [List.getElem?_take] at hv
      split at hv
      · simpa using hv
      · cases hv
    exact ⟨g, e1, by rw [cell_of_blk e3]; exact hc, cur, e3, hc⟩

theorem sliceT_spec {P : Program} {t e size bytes : Nat} (h : sliceT P t = some (e, size, bytes)) :
    P.underlying t = some (.slice e) ∧ ∃ i z, P.info? e = some i ∧ i.zero = some z ∧ z.cells.size = size ∧ i.size = size ∧ i.bytes = bytes ∧ 0 < size ∧ 0 < bytes := by
  unfold sliceT at h
  split at h
  · rename_i e' hu
    cases hi : P.info? e' with
    | none => rw [hi] at h; cases h
    | some i =>
      rw [hi] at h
      simp only [Option.bind_some] at h
      cases hz : i.zero with
      | none => rw [hz] at h; cases h
      | some z =>
        rw [hz] at h
        simp only [Option.bind_some] at h
        split at h
        · rename_i hc
          simp only [Option.some.injEq, Prod.mk.injEq] at h
          obtain ⟨rfl, rfl, rfl⟩ := h
          exact ⟨hu, i, z, hi, hz, hc.1, rfl, rfl, hc.2⟩
        · cases h
  · cases h

def allOne : List Value → Bool
  | [] => true
  | v :: l => v.oneCell' && allOne l
theorem allOne_spec : ∀ {l : List Value}, allOne l = true → ∀ u ∈ l, u.oneCell' = true
  | [], _, u, hu => by cases hu
  | v :: l, h, u, hu => by
    simp only [allOne, Bool.and_eq_true] at h
    rcases List.mem_cons.1 hu with e | e
    · rw [e]; exact h.1
    · exact allOne_spec h.2 u e

/-- A pointer to the j-th cell of a slice's memory. -/
def sptr (A : Option Addr) (j : Nat) : Value := .pointer (A.map fun a => a.add j)

section
variable {P : Program} {m : Mode} {n B : Nat} {w0 : World} {Q : Exit → Act → World → Prop} {env : Env} {H : List HP} {ops : Array Oper} {rest : List Oper}
variable {d : Nat} {ty : TypeId} {pos : String} {after : Array Edge}

theorem VC_nilSlice (e size : Nat) {c : Code} (h : VC P n B w0 c Q env (sl e size none 0 0 [] :: H)) : VC P n B w0 c Q env H := ⟨fun a w ha hw => h.run a w ha (hw.nilSlice e size)⟩

theorem VL_len (T : Tab P) {tx : Nat} {x : Operand} {A : Option Addr} {k cap : Nat} {es : Nat × Nat × Nat} (hx : evo env x = some (.slice A k cap)) (ht : look T.sl tx = some es) (hn : Nat.ble (d + 1) n = true) (h : VL P m n B w0 ops Q rest ((d, .int .i64 k) :: env) H) :
    VL P m n B w0 ops Q (⟨some d, .call ⟨.builtin .len, #[x], #[tx]⟩, ty, pos, after, none⟩ :: rest) env H := by
  obtain ⟨e, size, bytes⟩ := es
  obtain ⟨hu, _⟩ := sliceT_spec (T.slic ht)
  exact VL_pure rfl rfl hn rfl (fun f w ha _ => by simp [execOp, resolve, invoke, builtin, ha.eval hx, Builtin.len_, run_underlying hu, goInt]) h

theorem VL_append (T : Tab P) {t tt : Nat} {x y : Operand} {A : Option Addr} {k cap : Nat} {xs : List Value} {g mm c : Nat} {cs : Array Value} {fr : Nat × Nat} {e size bytes : Nat} {K : Option Addr → Nat → List HP}
    (hx : evo env x = some (.slice A k cap)) (ht : look T.sl t = some (e, size, bytes))
    (hy : evo env y = some (.slice (some ⟨g, 0, none⟩) mm c)) (hb : blk g (.cells cs tt fr) ∈ H) (hk : cs.size = mm * size) (h1 : allOne cs.toList = true) (hn : Nat.ble (d + 1) n = true)
    (hu : ∀ A' cap', Upd (sl e size A k cap xs) (sl e size A' (k + mm) cap' (xs ++ cs.toList)) H (K A' cap')) (hby : (k + mm) * bytes ≤ 140737488355328)
    (h : ∀ A' cap', VL P none n B w0 ops Q rest ((d, .slice A' (k + mm) cap') :: env) (K A' cap')) :
    VL P none n B w0 ops Q (⟨some d, .call ⟨.builtin .append, #[x, y], #[t, t]⟩, ty, pos, after, none⟩ :: rest) env H := by
  obtain ⟨hut, i, z, hi, hz, hzs, hsi, hbi, hs0, hb0⟩ := sliceT_spec (T.slic ht)
  refine VL_opE (fun v K' => ∃ A' cap', v = .slice A' (k + mm) cap' ∧ K' = K A' cap') rfl rfl hn (fun a w ha hw => ?_) (by rintro _ _ ⟨A', cap', rfl, rfl⟩; exact h A' cap')
  have hmem : sl e size A k cap xs ∈ H := by
    obtain ⟨L1, L2, rfl, _⟩ := hu none 0
    simp
  have hown := hw.sl hmem
  have hblk := (hw.blk hb).1
  have h63 : k + mm ≤ maxLen := by
    have : k + mm ≤ (k + mm) * bytes := Nat.le_mul_of_pos_right _ hb0
    simp only [maxLen]; omega
  obtain ⟨v', w', hrun, hown', hgrow, _, hat⟩ := run_append_own_at (P := P) w 0 t ty e i z size bytes hut hi hz hsi hbi hzs hs0 (.slice A k cap) k xs hown ⟨g, 0, none⟩ mm c cs.toList (by simpa using hk)
    (fun j u hj => by rw [Addr.add_lit, cell_of_blk hblk, Nat.zero_add]; simpa using hj) (allOne_spec h1) h63 hby (Nat.zero_le _)
  have hshape : ∃ A' cap', v' = .slice A' (k + mm) cap' := by
    rcases hown'.2 with ⟨e1, e2⟩ | ⟨g', c', _, e1, _⟩
    · exact ⟨none, 0, by rw [e1, e2]⟩
    · exact ⟨_, _, e1⟩
  obtain ⟨A', cap', rfl⟩ := hshape
  refine ⟨_, K A' cap', w', by simp [execOp, resolve, invoke, builtin, ha.eval hx, ha.eval hy, hrun], ?_, A', cap', rfl, rfl⟩
  refine hw.updN (hu A' cap') hgrow.os hgrow.tape hgrow.output hgrow.size fun S1 ⟨_, hS⟩ => ⟨⟨fun b => Value.ownBlock (.slice A' (k + mm) cap') = some b, ⟨hown', ?_⟩, fun b hb => ?_⟩, fun b hb hlt => hgrow.block b hlt (fun e => hb ?_)⟩
  · rintro a rfl; rfl
  · rcases hat with e | e
    · rw [e] at hb
      cases A with
      | none => cases hb
      | some a => left; have := hS a rfl; simp only [Value.ownBlock, Option.some.injEq] at hb; rwa [← hb]
    · rw [e] at hb
      right
      simp only [Option.some.injEq] at hb
      subst hb
      refine ⟨Nat.le_refl _, ?_⟩
      rcases hown'.2 with ⟨e1, _⟩ | ⟨g', _, _, e1, _, e3, _⟩
      · rw [e1] at e; cases e
      · rw [e1] at e
        simp only [Value.ownBlock, Option.some.injEq] at e
        subst e
        rcases Nat.lt_or_ge w.heap.size w'.heap.size with h | h
        · exact h
        · rw [Array.getElem?_eq_none h] at e3; cases e3
  · cases A with
    | none => cases e
    | some a => simp only [Value.ownBlock, Option.some.injEq] at e; rw [e]; exact hS a rfl

/-- The address of an element. -/
theorem VL_index_sl (T : Tab P) {t : Nat} {x y : Operand} {A : Option Addr} {k cap : Nat} {xs : List Value} {e size bytes : Nat} {ki : IntKind} {i : Int} (hx : evo env x = some (.slice A k cap)) (hm : sl e size A k cap xs ∈ H) (hy : evo env y = some (.int ki i))
    (ht : look T.sl t = some (e, size, bytes)) (hn : Nat.ble (d + 1) n = true) (hi : 0 ≤ i ∧ i < k) (h : VL P m n B w0 ops Q rest ((d, sptr A (i.toNat * size)) :: env) H) :
    VL P m n B w0 ops Q (⟨some d, .indexAddr t x y, ty, pos, after, none⟩ :: rest) env H := by
  obtain ⟨hut, inf, z, hinf, _, _, hsi, _, _, _⟩ := sliceT_spec (T.slic ht)
  refine VL_pure rfl rfl hn rfl (fun a w ha hw => ?_) h
  have hown := hw.sl hm
  rcases hown.2 with ⟨_, e2⟩ | ⟨g, c, cur, e1, _⟩
  · exfalso; omega
  · injection e1 with e1
    subst e1
    simp [execOp, ha.eval hx, ha.eval hy, Instr.indexAt, asIntOf, run_underlying hut, hi, sizeOf, typeInfo, hinf, hsi, sptr]

theorem VL_field_sl (T : Tab P) {s f k j : Nat} {x : Operand} {A : Option Addr} {kk cap : Nat} {xs : List Value} {e size : Nat} (hx : evo env x = some (sptr A j)) (hm : sl e size A kk cap xs ∈ H) (hj : j < xs.length) (hf : look2 T.fo s f = some k) (hn : Nat.ble (d + 1) n = true)
    (h : VL P m n B w0 ops Q rest ((d, sptr A (j + k)) :: env) H) : VL P m n B w0 ops Q (⟨some d, .fieldAddr s x f, ty, pos, after, none⟩ :: rest) env H := by
  refine VL_pure rfl rfl hn rfl (fun a w ha hw => ?_) h
  obtain ⟨g, rfl, _⟩ := sl_cell (hw.sl hm) (List.getElem?_eq_getElem hj)
  have h1 := T.offs hf
  unfold fieldOff at h1
  split at h1
  · rename_i fs hu
    cases hfl : fs[f]? with
    | none => rw [hfl] at h1; cases h1
    | some fld =>
      rw [hfl] at h1
      simp only [Option.bind_some] at h1
      cases hi : P.info? fld.type with
      | none => rw [hi] at h1; cases h1
      | some inf =>
        rw [hi] at h1
        simp only [Option.bind_some] at h1
        by_cases hz : inf.size = 0
        · rw [if_pos hz] at h1; cases h1
        · rw [if_neg hz] at h1
          have h2 : fld.offset = k := by simpa using h1
          subst h2
          simp [execOp, ha.eval hx, sptr, Instr.fieldAt, run_underlying hu, hfl, Instr.sureAddr, fieldPlace, sizeOf, typeInfo, hi, hz, Addr.add_lit]
  · cases h1

theorem VL_load_sl (T : Tab P) {t j : Nat} {x : Operand} {A : Option Addr} {k cap : Nat} {xs : List Value} {e size : Nat} {v : Value} (hx : evo env x = some (sptr A j)) (hm : sl e size A k cap xs ∈ H) (ht : look T.sc t = some ()) (hn : Nat.ble (d + 1) n = true) (hv : xs[j]? = some v)
    (h : VL P m n B w0 ops Q rest ((d, v) :: env) H) : VL P m n B w0 ops Q (⟨some d, .load t x, ty, pos, after, none⟩ :: rest) env H := by
  refine VL_pure rfl rfl hn rfl (fun a w ha hw => ?_) h
  obtain ⟨g, rfl, hc, _⟩ := sl_cell (hw.sl hm) hv
  simp [execOp, ha.eval hx, sptr, Instr.loadAt, Instr.sureAddr, loadVar, run_isAgg_false (T.scal ht).1, Addr.add_lit, hc]

theorem VL_load_agg_sl (T : Tab P) {t j q : Nat} {x : Operand} {A : Option Addr} {k cap : Nat} {xs vs : List Value} {e size : Nat} (hx : evo env x = some (sptr A j)) (hm : sl e size A k cap xs ∈ H) (ht : look T.ag t = some q) (hn : Nat.ble (d + 1) n = true) (hq : vs.length = q) (hq0 : 0 < q)
    (hv : ∀ i v, vs[i]? = some v → xs[j + i]? = some v) (h : VL P m n B w0 ops Q rest ((d, .agg vs.toArray) :: env) H) : VL P m n B w0 ops Q (⟨some d, .load t x, ty, pos, after, none⟩ :: rest) env H := by
  refine VL_pure rfl rfl hn rfl (fun a w ha hw => ?_) h
  have h0 : vs[0]? = some (vs[0]'(by omega)) := List.getElem?_eq_getElem (by omega)
  obtain ⟨g, rfl, _⟩ := sl_cell (hw.sl hm) (hv 0 _ h0)
  have hl := run_loadCells_list (P := P) w ⟨g, j, none⟩ vs (fun i v hi => by
    obtain ⟨g', e1, hc, _⟩ := sl_cell (hw.sl hm) (hv i v hi)
    injection e1 with e1
    injection e1 with e1
    subst e1
    rw [Addr.add_lit]; exact hc)
  rw [hq] at hl
  simp [execOp, ha.eval hx, sptr, Instr.loadAt, Instr.sureAddr, loadVar, run_isAgg_true (T.aggs ht), run_sizeOf (aggT_size (T.aggs ht)), Addr.add_lit, hl]

theorem VL_store_sl (T : Tab P) {t j : Nat} {x y : Operand} {A : Option Addr} {k cap : Nat} {xs : List Value} {e size : Nat} {v : Value} {K : List HP} (hx : evo env x = some (sptr A j)) (hy : evo env y = some v) (h1 : v.oneCell' = true)
    (hu : Upd (sl e size A k cap xs) (sl e size A k cap (xs.set j v)) H K) (ht : look T.sc t = some ()) (hj : j < xs.length)
    (h : VL P none n B w0 ops Q rest env K) : VL P none n B w0 ops Q (⟨none, .store t x y, ty, pos, after, none⟩ :: rest) env H := by
  have hmem : sl e size A k cap xs ∈ H := by
    obtain ⟨L1, L2, rfl, _⟩ := hu
    simp
  refine VL_skip rfl rfl (fun a w ha hw => ?_) h
  obtain ⟨g, rfl, hc, cur, hb, hcj⟩ := sl_cell (hw.sl hmem) (List.getElem?_eq_getElem hj)
  refine ⟨w.setCell ⟨g, j, none⟩ v, ?_, ?_⟩
  · have hcs : v.cells = #[v] := by cases v <;> first | rfl | simp [Value.oneCell'] at h1
    have hz : w.frozen? ⟨g, j, none⟩ = false := by simp [World.frozen?, hb]
    simp [execOp, ha.eval hx, ha.eval hy, sptr, Instr.storeAt, Instr.sureAddr, storeVar, hcs, run_sizeOf (T.scal ht).2, storeCells, run_store _ _ _ _ _ h1, Addr.add_lit, hc, hz]
  · refine hw.upd hu rfl rfl rfl (by simp) fun S1 ⟨hown, hS⟩ => ⟨⟨⟨?_, ?_⟩, hS⟩, fun b hb' _ => Below.heap_setCell w _ v b (fun e => hb' (by rw [e]; exact hS ⟨g, 0, none⟩ rfl))⟩
    · simpa using hown.1
    · rcases hown.2 with ⟨e1, _⟩ | ⟨g', c', cur', e1, e2, e3, e4, e5, e6, e7⟩
      · cases e1
      · injection e1 with e1 e8 e9
        injection e1 with e1
        injection e1 with e1
        subst e1
        refine .inr ⟨g, c', cur'.setIfInBounds j v, by rw [e9], e2, ?_, e4, e5, by simpa using e6, ?_⟩
        · simp [World.setCell, Array.getElem?_modify, e3]
        · rw [← e7]
          simp only [Array.toList_setIfInBounds]
          rw [List.take_set]

/-! ### Strings -/

theorem size_empty {s : ByteArray} (h : s = ⟨#[]⟩) : s.size = 0 := by rw [h]; rfl
theorem size_nonempty {s : ByteArray} (h : s ≠ ⟨#[]⟩) : 1 ≤ s.size := by
  rcases Nat.eq_zero_or_pos s.size with e | e
  · exfalso; apply h; cases s; rename_i b; simp only [ByteArray.size, Array.size_eq_zero_iff] at e; rw [e]
  · exact e
theorem VL_seql0 {xt yt : TypeId} {x : Operand} {s : ByteArray} (hx : evo env x = some (.string s)) (hn : Nat.ble (d + 1) n = true) (h1 : s = ⟨#[]⟩ → s.size = 0 → VL P m n B w0 ops Q rest ((d, .bool true) :: env) H) (h2 : s ≠ ⟨#[]⟩ → 1 ≤ s.size → VL P m n B w0 ops Q rest ((d, .bool false) :: env) H) :
    VL P m n B w0 ops Q (⟨some d, .binOp .eql xt x (.const (.string ⟨#[]⟩)) yt, ty, pos, after, none⟩ :: rest) env H :=
  VL_seql hx rfl hn (fun e => h1 e (size_empty e)) (fun e => h2 e (size_nonempty e))
theorem VL_sneq0 {xt yt : TypeId} {x : Operand} {s : ByteArray} (hx : evo env x = some (.string s)) (hn : Nat.ble (d + 1) n = true) (h1 : s ≠ ⟨#[]⟩ → 1 ≤ s.size → VL P m n B w0 ops Q rest ((d, .bool true) :: env) H) (h2 : s = ⟨#[]⟩ → s.size = 0 → VL P m n B w0 ops Q rest ((d, .bool false) :: env) H) :
    VL P m n B w0 ops Q (⟨some d, .binOp .neq xt x (.const (.string ⟨#[]⟩)) yt, ty, pos, after, none⟩ :: rest) env H :=
  VL_sneq hx rfl hn (fun e => h1 e (size_nonempty e)) (fun e => h2 e (size_empty e))

theorem VL_substr (T : Tab P) {t : Nat} {x lo hi : Operand} {s : ByteArray} {k1 k2 : IntKind} {i j : Int} (hx : evo env x = some (.string s)) (hl : evo env lo = some (.int k1 i)) (hh : evo env hi = some (.int k2 j)) (ht : look T.st t = some ()) (hn : Nat.ble (d + 1) n = true)
    (hb : 0 ≤ i ∧ i ≤ j ∧ j ≤ s.size) (h : VL P m n B w0 ops Q rest ((d, .string (s.extract i.toNat j.toNat)) :: env) H) : VL P m n B w0 ops Q (⟨some d, .slice t x (some lo) (some hi) none, ty, pos, after, none⟩ :: rest) env H := by
  refine VL_pure rfl rfl hn rfl (fun a w ha _ => ?_) h
  have hu := T.strs ht
  simp [execOp, ha.eval hx, ha.eval hl, ha.eval hh, Instr.sliceAt, run_underlying hu, run_slice_string w t s k1 k2 i j hu hb.1 hb.2.1 hb.2.2]

theorem VL_substr_lo (T : Tab P) {t : Nat} {x lo : Operand} {s : ByteArray} {k1 : IntKind} {i : Int} (hx : evo env x = some (.string s)) (hl : evo env lo = some (.int k1 i)) (ht : look T.st t = some ()) (hn : Nat.ble (d + 1) n = true)
    (hb : 0 ≤ i ∧ i ≤ s.size) (h : VL P m n B w0 ops Q rest ((d, .string (s.extract i.toNat s.size)) :: env) H) : VL P m n B w0 ops Q (⟨some d, .slice t x (some lo) none none, ty, pos, after, none⟩ :: rest) env H := by
  refine VL_pure rfl rfl hn rfl (fun a w ha _ => ?_) h
  have hu := T.strs ht
  simp [execOp, ha.eval hx, ha.eval hl, Instr.sliceAt, run_underlying hu, Instr.slice, Instr.sliceBounds, Instr.sliceBound, asIntOf, hb]

theorem VL_substr_hi (T : Tab P) {t : Nat} {x hi : Operand} {s : ByteArray} {k2 : IntKind} {j : Int} (hx : evo env x = some (.string s)) (hh : evo env hi = some (.int k2 j)) (ht : look T.st t = some ()) (hn : Nat.ble (d + 1) n = true)
    (hb : 0 ≤ j ∧ j ≤ s.size) (h : VL P m n B w0 ops Q rest ((d, .string (s.extract 0 j.toNat)) :: env) H) : VL P m n B w0 ops Q (⟨some d, .slice t x none (some hi) none, ty, pos, after, none⟩ :: rest) env H := by
  refine VL_pure rfl rfl hn rfl (fun a w ha _ => ?_) h
  have hu := T.strs ht
  simp [execOp, ha.eval hx, ha.eval hh, Instr.sliceAt, run_underlying hu, Instr.slice, Instr.sliceBounds, Instr.sliceBound, asIntOf, hb]

theorem VL_index_str (T : Tab P) {t : Nat} {x y : Operand} {s : ByteArray} {k : IntKind} {i : Int} (hx : evo env x = some (.string s)) (hy : evo env y = some (.int k i)) (ht : look T.st t = some ()) (hn : Nat.ble (d + 1) n = true)
    (hi : 0 ≤ i ∧ i < s.size) (h : ∀ b : UInt8, s[i.toNat]? = some b → VL P m n B w0 ops Q rest ((d, .int .u8 b.toNat) :: env) H) : VL P m n B w0 ops Q (⟨some d, .index t x y, ty, pos, after, none⟩ :: rest) env H := by
  have hlt : i.toNat < s.size := by omega
  refine VL_pure (v := .int .u8 (s[i.toNat]'hlt).toNat) rfl rfl hn rfl (fun a w ha _ => ?_) (h _ (by simp [hlt]))
  have hu := T.strs ht
  simp [execOp, ha.eval hx, ha.eval hy, Instr.index, asIntOf, run_underlying hu, hi.1, hlt]

/-- A constant table of bytes. -/
def tabOK (s : ByteArray) (N : Nat) (f : Nat → Nat) : Bool := s.size == N && (List.range N).all fun i => (s.data.toList.getD i 0).toNat == f i
theorem VL_index_tab (T : Tab P) (N : Nat) (f : Nat → Nat) {t : Nat} {y : Operand} {s : ByteArray} {k : IntKind} {i : Int} (hf : tabOK s N f = true) (hy : evo env y = some (.int k i)) (ht : look T.st t = some ()) (hn : Nat.ble (d + 1) n = true)
    (hi : 0 ≤ i ∧ i < N) (h : VL P m n B w0 ops Q rest ((d, .int .u8 (f i.toNat)) :: env) H) : VL P m n B w0 ops Q (⟨some d, .index t (.const (.string s)) y, ty, pos, after, none⟩ :: rest) env H := by
  simp only [tabOK, Bool.and_eq_true, beq_iff_eq] at hf
  refine VL_index_str T rfl hy ht hn (by omega) fun b hb => ?_
  have h1 := List.all_eq_true.1 hf.2 i.toNat (List.mem_range.2 (by omega))
  simp only [beq_iff_eq] at h1
  have h2 : s.data.toList.getD i.toNat 0 = b := by
    have h3 : i.toNat < s.size := by omega
    have h4 : s[i.toNat]? = some (s[i.toNat]'h3) := by simp [h3]
    rw [h4] at hb
    have h5 : s.data.toList.getD i.toNat 0 = s[i.toNat]'h3 := by
      have h6 : i.toNat < s.data.size := h3
      rw [List.getD, List.getElem?_eq_getElem (by simpa using h6)]
      rfl
    rw [h5]; exact Option.some.inj hb
  rw [h2] at h1
  rw [h1]
  exact h

theorem VL_min2 {x y : Operand} {k : IntKind} {a b : Int} {tys : Array TypeId} (hx : evo env x = some (.int k a)) (hy : evo env y = some (.int k b)) (hn : Nat.ble (d + 1) n = true) (h1 : b < a → VL P m n B w0 ops Q rest ((d, .int k b) :: env) H) (h2 : a ≤ b → VL P m n B w0 ops Q rest ((d, .int k a) :: env) H) :
    VL P m n B w0 ops Q (⟨some d, .call ⟨.builtin .min, #[x, y], tys⟩, ty, pos, after, none⟩ :: rest) env H := by
  by_cases hc : b < a
  · exact VL_pure rfl rfl hn rfl (fun f w ha _ => by simp [execOp, resolve, invoke, builtin, ha.eval hx, ha.eval hy, run_min_int2, hc]) (h1 hc)
  · exact VL_pure rfl rfl hn rfl (fun f w ha _ => by simp [execOp, resolve, invoke, builtin, ha.eval hx, ha.eval hy, run_min_int2, hc]) (h2 (by omega))

/-- A slice literal: the cells by a closed fact. -/
theorem VL_buildSlice {t e len : Nat} {parts : List (Nat × Operand)} {ps : List (Nat × Value)} {cs : Array Value} (hp : Parts env parts ps) (hb : ∀ w, (Instr.buildSlice t len ps.toArray).run P w = .ok (.slice (some ⟨w.heap.size, 0, none⟩) len len) (w.alloc (.cells cs e (0, 0)))) (hn : Nat.ble (d + 1) n = true)
    (h : ∀ g, VL P none n B w0 ops Q rest ((d, .slice (some ⟨g, 0, none⟩) len len) :: env) (blk g (.cells cs e (0, 0)) :: H)) : VL P none n B w0 ops Q (⟨some d, .buildSlice t len parts.toArray, ty, pos, after, none⟩ :: rest) env H := by
  refine VL_opE (fun v K => ∃ g, v = .slice (some ⟨g, 0, none⟩) len len ∧ K = blk g (.cells cs e (0, 0)) :: H) rfl rfl hn (fun a w ha hw => ?_) (by rintro _ _ ⟨g, rfl, rfl⟩; exact h g)
  have hm : (parts.toArray.map fun (i, x) => (i, a.eval x)) = ps.toArray := by rw [List.map_toArray]; exact congrArg List.toArray (map_parts ha _ _ hp)
  refine ⟨_, _, w.alloc (.cells cs e (0, 0)), ?_, hw.alloc _, w.heap.size, rfl, rfl⟩
  simp only [execOp, hm]
  simp [hb]

theorem VL_buildSlice_sl (T : Tab P) {t e len size bytes : Nat} {parts : List (Nat × Operand)} {ps : List (Nat × Value)} {cs : Array Value} (hp : Parts env parts ps) (hb : ∀ w, (Instr.buildSlice t len ps.toArray).run P w = .ok (.slice (some ⟨w.heap.size, 0, none⟩) len len) (w.alloc (.cells cs e (0, 0)))) (hn : Nat.ble (d + 1) n = true)
    (_ht : look T.sl t = some (e, size, bytes)) (hk : cs.size = len * size) (hl : Nat.ble len 1000000 = true)
    (h : ∀ g, VL P none n B w0 ops Q rest ((d, .slice (some ⟨g, 0, none⟩) len len) :: env) (sl e size (some ⟨g, 0, none⟩) len len cs.toList :: H)) : VL P none n B w0 ops Q (⟨some d, .buildSlice t len parts.toArray, ty, pos, after, none⟩ :: rest) env H := by
  refine VL_buildSlice hp hb hn fun g => VL_st _ (fun w hw => ?_) (h g)
  refine hw.upd (Upd.here _) rfl rfl rfl (Nat.le_refl _) fun S1 ⟨h1, h2⟩ => ⟨⟨⟨by simpa using hk, .inr ⟨g, len, cs, rfl, Nat.zero_le _, h2, Nat.le_refl _, ?_, hk, ?_⟩⟩, fun a ha => by cases ha; exact h1⟩, fun _ _ _ => rfl⟩
  · have := Nat.le_of_ble_eq_true hl; simp only [maxLen]; omega
  · rw [List.take_of_length_le (by simp [hk])]

theorem VQ_nilSlice (e size : Nat) {ex : Exit} (h : VQ n B w0 Q ex env (sl e size none 0 0 [] :: H)) : VQ n B w0 Q ex env H := ⟨fun a w ha hw => h.run a w ha (hw.nilSlice e size)⟩

/-! ### Bytes -/

/-- Bytes as cells; as a string. -/
def u8n (l : List Nat) : List Value := l.map fun b : Nat => Value.int .u8 (b : Int)
theorem u8n_get {l : List Nat} {i : Nat} (h : i < l.length) : (u8n l)[i]? = some (.int .u8 (l.getD i 0 : Nat)) := by simp [u8n, h, List.getD]
theorem u8n_snoc (l : List Nat) : u8n l ++ #[Value.int .u8 0].toList = u8n (l ++ [0]) := by simp [u8n]
theorem u8n_append (l m : List Nat) : u8n l ++ u8n m = u8n (l ++ m) := by simp [u8n]
theorem u8n_set (l : List Nat) (i b : Nat) : (u8n l).set i (.int .u8 (b : Int)) = u8n (l.set i b) := by simp [u8n, List.map_set]
theorem length_u8n (l : List Nat) : (u8n l).length = l.length := by simp [u8n]
def strOf (l : List Nat) : ByteArray := ⟨(l.map UInt8.ofNat).toArray⟩
theorem size_strOf (l : List Nat) : (strOf l).size = l.length := by simp [strOf, ByteArray.size]
theorem strOf_fold (l : List Nat) (s : ByteArray) : (l.map fun b : Nat => (b : Int)).foldl (fun r n => r.push (UInt8.ofNat n.toNat)) s = ⟨s.data ++ (l.map UInt8.ofNat).toArray⟩ := by
  induction l generalizing s with
  | nil => simp
  | cons b l ih =>
    simp only [List.map_cons, List.foldl_cons]
    rw [ih]
    simp [ByteArray.push]

theorem VL_b2s (T : Tab P) {t s e size bytes : Nat} {x : Operand} {A : Option Addr} {k cap : Nat} {l : List Nat} (hx : evo env x = some (.slice A k cap)) (hm : sl e 1 A k cap (u8n l) ∈ H) (ht : look T.sl t = some (e, size, bytes)) (he : look T.ik e = some .u8) (hs : look T.st s = some ()) (hn : Nat.ble (d + 1) n = true)
    (h : VL P m n B w0 ops Q rest ((d, .string (strOf l)) :: env) H) : VL P m n B w0 ops Q (⟨some d, .convert t s x, ty, pos, after, none⟩ :: rest) env H := by
  obtain ⟨hu, _⟩ := sliceT_spec (T.slic ht)
  refine VL_pure rfl rfl hn rfl (fun a w ha hw => ?_) h
  have hown := hw.sl hm
  have hlen : l.length = k := by have := hown.1; rw [length_u8n, Nat.mul_one] at this; exact this
  have hr : (Conv.bytesToString (.slice A k cap)).run P w = .ok (.string (strOf l)) w := by
    rcases hown.2 with ⟨e1, e2⟩ | ⟨g, c, cur, e1, _, e3, _, _, _, e4⟩
    · injection e1 with e1
      subst e1
      have : l = [] := List.eq_nil_of_length_eq_zero (by omega)
      subst this
      rfl
    · injection e1 with e1
      subst e1
      have hl := run_loadCells_list (P := P) w ⟨g, 0, none⟩ (u8n l) (fun j v hj => by
        obtain ⟨g', e5, hc, _⟩ := sl_cell hown hj
        injection e5 with e5
        injection e5 with e5
        subst e5
        rw [Addr.add_lit, Nat.zero_add]; exact hc)
      rw [length_u8n, hlen] at hl
      have e6 : u8n l = (l.map fun b : Nat => (b : Int)).map (Value.int .u8) := by simp [u8n]
      rw [e6] at hl
      rw [run_bytesToString w ⟨g, 0, none⟩ k cap _ hl, strOf_fold]
      have e7 : ByteArray.empty.data = #[] := rfl
      rw [e7]
      simp [strOf]
  simp [execOp, ha.eval hx, run_convert_bytes_string w t s e A k cap hu (intT_spec (T.ints he)) (T.strs hs), hr]

/-- make of a slice whose elements have one cell. -/
theorem VL_make1 (T : Tab P) {t e bytes : Nat} {x y : Operand} {c : Int} {z : Value} (hx : evo env x = some (.int .i64 c)) (hy : evo env y = some (.int .i64 c)) (ht : look T.sl t = some (e, 1, bytes)) (hz : ((P.info? e).bind (·.zero)) = some z) (hz1 : z.cells = #[z]) (hn : Nat.ble (d + 1) n = true) (hb : Nat.ble bytes 1000 = true) (hc : 0 ≤ c ∧ c ≤ 1000000)
    (h : ∀ g, VL P none n B w0 ops Q rest ((d, .slice (some ⟨g, 0, none⟩) c.toNat c.toNat) :: env) (sl e 1 (some ⟨g, 0, none⟩) c.toNat c.toNat (List.replicate c.toNat z) :: H)) : VL P none n B w0 ops Q (⟨some d, .makeSlice t x y, ty, pos, after, none⟩ :: rest) env H := by
  obtain ⟨hu, i, z', hi, hz', _, hsi, hbi, _, _⟩ := sliceT_spec (T.slic ht)
  obtain rfl : z' = z := by rw [hi] at hz; simp only [Option.bind_some, hz', Option.some.injEq] at hz; exact hz
  have hb' := Nat.le_of_ble_eq_true hb
  refine VL_opE (fun v K => ∃ g, v = .slice (some ⟨g, 0, none⟩) c.toNat c.toNat ∧ K = sl e 1 (some ⟨g, 0, none⟩) c.toNat c.toNat (List.replicate c.toNat z') :: H) rfl rfl hn (fun a w ha hw => ?_) (by rintro _ _ ⟨g, rfl, rfl⟩; exact h g)
  have hbytes : (i.bytes : Int) * c ≤ 281474976710656 := by
    have h1 : (i.bytes : Int) * c ≤ 1000 * c := Int.mul_le_mul_of_nonneg_right (by omega) hc.1
    omega
  have hrun := run_make (P := P) w t e i z' hu hi hz' .i64 .i64 c c hc.1 (Int.le_refl _) hbytes (by omega)
  rw [hsi, Nat.mul_one, hz1] at hrun
  refine ⟨_, _, w.alloc (.cells (madeCells #[z'] c.toNat) e), by simp only [execOp, ha.eval hx, ha.eval hy, Sem.run_bind, hrun, Result.andThen_ok, Sem.run_pure], ?_, w.heap.size, rfl, rfl⟩
  have h2 := hw.alloc (.cells (madeCells #[z'] c.toNat) e)
  refine h2.upd (Upd.here _) rfl rfl rfl (Nat.le_refl _) fun S1 ⟨h3, h4⟩ => ⟨⟨⟨by simp, .inr ⟨w.heap.size, c.toNat, madeCells #[z'] c.toNat, rfl, Nat.zero_le _, h4, Nat.le_refl _, by simp only [maxLen]; omega, by simp [size_madeCells], ?_⟩⟩, fun a ha => by cases ha; exact h3⟩, fun _ _ _ => rfl⟩
  rw [toList_madeCells_one, Nat.mul_one, List.take_of_length_le (by simp)]

/-! ### Loops with several things that change -/

theorem VC_loop2 {α β : Type} (E : α → β → Env) (HH : α → β → List HP) (I : α → β → Prop) (μ : α → β → Nat) {c : Code} (x0 : α) (y0 : β) (h0 : I x0 y0)
    (he : ∀ t v, get (E x0 y0) t = some v → get env t = some v) (hH : ∀ w, St B w0 H w → St B w0 (HH x0 y0) w)
    (round : ∀ x y, I x y → ∀ K : Act → World → Prop, (∀ x' y', I x' y' → μ x' y' < μ x y → ∀ env' H', (∀ t v, get (E x' y') t = some v → get env' t = some v) → (∀ w, St B w0 H' w → St B w0 (HH x' y') w) → VQ n B w0 (Exit.then K Q) .normal env' H') →
      VC P n B w0 c (Exit.then K Q) (E x y) (HH x y)) : VC P n B w0 (.loop c) Q env H :=
  VC_loop (α := α × β) (fun p => E p.1 p.2) (fun p => HH p.1 p.2) (fun p => I p.1 p.2) (fun p => μ p.1 p.2) (x0, y0) h0 he hH fun p hp =>
    round p.1 p.2 hp _ fun x' y' hI hμ _ _ he' hH' => VQ_round (x', y') hI hμ he' hH'

theorem VC_loop1 {α : Type} (E : α → Env) (HH : α → List HP) (I : α → Prop) (μ : α → Nat) {c : Code} (x0 : α) (h0 : I x0)
    (he : ∀ t v, get (E x0) t = some v → get env t = some v) (hH : ∀ w, St B w0 H w → St B w0 (HH x0) w)
    (round : ∀ x, I x → ∀ K : Act → World → Prop, (∀ x', I x' → μ x' < μ x → ∀ env' H', (∀ t v, get (E x') t = some v → get env' t = some v) → (∀ w, St B w0 H' w → St B w0 (HH x') w) → VQ n B w0 (Exit.then K Q) .normal env' H') →
      VC P n B w0 c (Exit.then K Q) (E x) (HH x)) : VC P n B w0 (.loop c) Q env H :=
  VC_loop E HH I μ x0 h0 he hH fun p hp => round p hp _ fun x' hI hμ _ _ he' hH' => VQ_round x' hI hμ he' hH'

theorem VC_loop3 {α β γ : Type} (E : α → β → γ → Env) (HH : α → β → γ → List HP) (I : α → β → γ → Prop) (μ : α → β → γ → Nat) {c : Code} (x0 : α) (y0 : β) (z0 : γ) (h0 : I x0 y0 z0)
    (he : ∀ t v, get (E x0 y0 z0) t = some v → get env t = some v) (hH : ∀ w, St B w0 H w → St B w0 (HH x0 y0 z0) w)
    (round : ∀ x y z, I x y z → ∀ K : Act → World → Prop, (∀ x' y' z', I x' y' z' → μ x' y' z' < μ x y z → ∀ env' H', (∀ t v, get (E x' y' z') t = some v → get env' t = some v) → (∀ w, St B w0 H' w → St B w0 (HH x' y' z') w) → VQ n B w0 (Exit.then K Q) .normal env' H') →
      VC P n B w0 c (Exit.then K Q) (E x y z) (HH x y z)) : VC P n B w0 (.loop c) Q env H :=
  VC_loop (α := α × β × γ) (fun p => E p.1 p.2.1 p.2.2) (fun p => HH p.1 p.2.1 p.2.2) (fun p => I p.1 p.2.1 p.2.2) (fun p => μ p.1 p.2.1 p.2.2) (x0, y0, z0) h0 he hH fun p hp =>
    round p.1 p.2.1 p.2.2 hp _ fun x' y' z' hI hμ _ _ he' hH' => VQ_round (x', y', z') hI hμ he' hH'
end
end Go.Eng
