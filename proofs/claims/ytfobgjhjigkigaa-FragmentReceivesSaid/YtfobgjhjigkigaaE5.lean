/- An engine for walks, part 5: storing structs whole, results that lie in memory. -/
import Derived.Test.YtfobgjhjigkigaaE4
import Derived.Laws.IdiomCopy
import Derived.Laws.ResultCell
namespace Go.Eng
open Go.RowKit

/-- l' is l with the values vs from the place o on. -/
inductive PutAt : List Value → Nat → List Value → List Value → Prop
  | nil {l : List Value} {o : Nat} : PutAt l o [] l
  | cons {l l1 l' r : List Value} {o : Nat} {v : Value} (h : SetAt l o v l1) (h2 : PutAt l1 (o + 1) r l') : PutAt l o (v :: r) l'

section
variable {P : Program} {m : Mode} {n B : Nat} {w0 : World} {ops : Array Oper} {Q : Exit → Act → World → Prop} {rest : List Oper} {env : Env} {H : List HP} {d : Nat} {ty : TypeId} {pos : String} {after : Array Edge}

theorem heap_setCells {g : Nat} {tt : TypeId} {fr : Nat × Nat} : ∀ {vs cs cs' : List Value} {o : Nat} {w : World}, PutAt cs o vs cs' → w.heap[g]? = some (.cells cs.toArray tt fr) → (w.setCells g o vs).heap[g]? = some (.cells cs'.toArray tt fr)
  | [], _, _, _, _, h, hb => by cases h; exact hb
  | v :: vs, cs, cs', o, w, h, hb => by
    cases h with
    | cons h1 h2 =>
      rw [World.setCells]
      refine heap_setCells h2 ?_
      obtain ⟨_, rfl⟩ := h1
      simp [World.setCell, Array.getElem?_modify, hb]
theorem heap_setCells_other {g b : Nat} (hne : b ≠ g) : ∀ (vs : List Value) (o : Nat) (w : World), (w.setCells g o vs).heap[b]? = w.heap[b]?
  | [], _, _ => rfl
  | v :: vs, o, w => by rw [World.setCells, heap_setCells_other hne vs (o + 1)]; exact Below.heap_setCell w _ v b hne
theorem setCells_rest {g : Nat} : ∀ (vs : List Value) (o : Nat) (w : World), (w.setCells g o vs).os = w.os ∧ (w.setCells g o vs).tape = w.tape ∧ (w.setCells g o vs).output = w.output ∧ (w.setCells g o vs).heap.size = w.heap.size
  | [], _, _ => ⟨rfl, rfl, rfl, rfl⟩
  | v :: vs, o, w => by
    obtain ⟨h1, h2, h3, h4⟩ := setCells_rest (g := g) vs (o + 1) (w.setCell ⟨g, o, none⟩ v)
    exact ⟨h1, h2, h3, h4.trans (by simp)⟩
theorem St.setCells {w : World} {K : List HP} {g o : Nat} {cs cs' vs : List Value} {tt : TypeId} {fr : Nat × Nat} (h : St B w0 H w) (hp : PutAt cs o vs cs')
    (u : Upd (Eng.blk g (.cells cs.toArray tt fr)) (Eng.blk g (.cells cs'.toArray tt fr)) H K) : St B w0 K (w.setCells g o vs) := by
  obtain ⟨h1, h2, h3, h4⟩ := setCells_rest (g := g) vs o w
  refine h.upd u h1 h2 h3 (Nat.le_of_eq h4.symm) fun S1 ⟨hs, hb⟩ => ⟨⟨hs, heap_setCells hp hb⟩, fun b hnb _ => heap_setCells_other (fun e : b = g => hnb (by rw [e]; exact hs)) vs o w⟩
theorem putAt_lt : ∀ {vs l l' : List Value} {o : Nat}, PutAt l o vs l' → ∀ j, j < vs.length → o + j < l.length
  | [], _, _, _, _, j, hj => by simp at hj
  | v :: vs, l, l', o, h, j, hj => by
    cases h with
    | cons h1 h2 =>
      obtain ⟨h0, rfl⟩ := h1
      cases j with
      | zero => exact h0
      | succ j => have := putAt_lt h2 j (by simpa using hj); simp at this; omega

/-- A struct is stored into a block's cells. -/
theorem VL_store_agg (T : Tab P) {t g i k : Nat} {cs vs cs' : List Value} {tt : TypeId} {x y : Operand} {K : List HP} (hx : evo env x = some (.pointer (some ⟨g, i, none⟩))) (hy : evo env y = some (.agg vs.toArray)) (h1 : allOne vs = true)
    (hu : Upd (blk g (.cells cs.toArray tt (0, 0))) (blk g (.cells cs'.toArray tt (0, 0))) H K) (hs : PutAt cs i vs cs')
    (ht : look T.ag t = some k) (hk : vs.length = k) (h : VL P none n B w0 ops Q rest env K) : VL P none n B w0 ops Q (⟨none, .store t x y, ty, pos, after, none⟩ :: rest) env H := by
  refine VL_skip rfl rfl (fun a w ha hw => ⟨w.setCells g i vs, ?_, hw.setCells hs hu⟩) h
  have hb : w.heap[g]? = some (.cells cs.toArray tt (0, 0)) := by
    obtain ⟨L1, L2, rfl, _⟩ := hu
    exact (hw.blk (by simp)).1
  have hr := run_storeCells_cells (P := P) g i vs 0 w (fun j hj => by
      rw [Nat.add_zero, cell_of_blk hb]; have := putAt_lt hs j hj; simp [this]) (fun j hj => by simp [World.frozen?, hb]) (allOne_spec h1)
  simp [execOp, ha.eval hx, ha.eval hy, Instr.storeAt, Instr.sureAddr, storeVar, Value.cells, run_sizeOf (aggT_size (T.aggs ht)), hk, hr]

theorem run_load_blk (T : Tab P) {w : World} {t g k : Nat} {cs : Array Value} {tt : TypeId} {fr : Nat × Nat} (hb : w.heap[g]? = some (.cells cs tt fr)) (ht : look T.ag t = some k) (hk : cs.size = k) : (loadVar t ⟨g, 0, none⟩).run P w = .ok (.agg cs) w := by
  have hl := run_loadCells_list (P := P) w ⟨g, 0, none⟩ cs.toList (fun j v hj => by rw [Addr.add_lit, cell_of_blk hb, Nat.zero_add]; simpa using hj)
  rw [show cs.toList.length = k by simpa using hk] at hl
  simp [loadVar, run_isAgg_true (T.aggs ht), run_sizeOf (aggT_size (T.aggs ht)), hl]

/-- Results: a struct that lies in memory; beside it a slot, two slots. -/
theorem VQ_retc1 (T : Tab P) {fn : Func} {Φ : Value → List HP → Prop} {p g k rt : Nat} {cs : Array Value} {tt : TypeId} {fr : Nat × Nat} (hr : fn.results = #[.cell p rt]) (hp : get env p = some (.pointer (some ⟨g, 0, none⟩)))
    (hm : blk g (.cells cs tt fr) ∈ H) (ht : look T.ag rt = some k) (hk : cs.size = k) {H2 : List HP} (hH : ∀ w, St B w0 H w → St B w0 H2 w) (h : Φ (.agg cs) H2) : VQ n B w0 (bodyPost P fn (Post B w0 Φ)) .ret env H := by
  refine ⟨fun a w ha hw => bodyPost_ret (v := .agg cs) ?_ ha.defers ⟨_, H2, rfl, hH w hw, h⟩⟩
  have hp' := ha.slot p _ hp
  simp [results, hr, Array.getD_eq_getD_getElem?, hp', asAddr, run_load_blk T (hw.blk hm).1 ht hk]
theorem VQ_retc2 (T : Tab P) {fn : Func} {Φ : Value → List HP → Prop} {p g k u rt : Nat} {x : Value} {cs : Array Value} {tt : TypeId} {fr : Nat × Nat} (hr : fn.results = #[.cell p rt, .tmp u]) (hp : get env p = some (.pointer (some ⟨g, 0, none⟩))) (hu : get env u = some x)
    (hm : blk g (.cells cs tt fr) ∈ H) (ht : look T.ag rt = some k) (hk : cs.size = k) {H2 : List HP} (hH : ∀ w, St B w0 H w → St B w0 H2 w) (h : Φ (.tuple #[.agg cs, x]) H2) : VQ n B w0 (bodyPost P fn (Post B w0 Φ)) .ret env H := by
  refine ⟨fun a w ha hw => bodyPost_ret (v := .tuple #[.agg cs, x]) ?_ ha.defers ⟨_, H2, rfl, hH w hw, h⟩⟩
  have hp' := ha.slot p _ hp
  simp [results, hr, Array.getD_eq_getD_getElem?, hp', ha.slot u _ hu, asAddr, run_load_blk T (hw.blk hm).1 ht hk]
end
end Go.Eng
