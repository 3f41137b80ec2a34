/- The engine, part 4: equality of structs, maps with integer keys, function values, arrays behind pointers. -/
import Derived.Test.YtfobgjhjigkigaaE3
import Derived.Laws.StructEq
import Derived.ChangeKeysEq
import Derived.MapKept
import Derived.Maps.RangeRun
namespace Go.Eng
open Go.RowKit
open Go.ChangeMaps (setBlock)

/-! ### Equality of structs whose fields are cells -/

/-- Two cells that Go's '==' compares at once. -/
def likeAt (P : Program) (t : TypeId) : Option Value → Option Value → Bool
  | some (.int k _), some (.int k' _) => decide (k = k') && (match P.underlying t with | some (.int _) => true | _ => false)
  | some (.string _), some (.string _) => match P.underlying t with | some .string => true | _ => false
  | some (.bool _), some (.bool _) => match P.underlying t with | some .bool => true | _ => false
  | _, _ => false

def aggLike (P : Program) (t : TypeId) (xs ys : List Value) : Bool :=
  match P.underlying t with
  | some (.struct fs) => !P.stoodInHeld t && (fs.toList.map (·.offset) == List.range xs.length) && (xs.length == ys.length) && fs.toList.all (fun f => f.name != "_" && likeAt P f.type xs[f.offset]? ys[f.offset]?)
  | _ => false

section
variable {P : Program}

theorem run_field_eq (w : World) (d : Nat) {t : TypeId} {x y : Value} (h : likeAt P t (some x) (some y) = true) : ∃ r : Bool, (Op.equalIn (d + 1) t x y).run P w = .ok r w ∧ (r = true ↔ x = y) := by
  unfold likeAt at h
  split at h
  · rename_i k a k' b e1 e2
    injection e1 with e1; injection e2 with e2
    subst e1; subst e2
    simp only [Bool.and_eq_true, decide_eq_true_eq] at h
    obtain ⟨rfl, h⟩ := h
    split at h
    · rename_i q hu
      exact ⟨a == b, run_equalIn_int w d t k q a b hu, by simp⟩
    · cases h
  · rename_i a b e1 e2
    injection e1 with e1; injection e2 with e2
    subst e1; subst e2
    split at h
    · rename_i hu
      exact ⟨a.toList == b.toList, run_equalIn_string w d t a b hu, by rw [bytes_eq_iff]; simp⟩
    · cases h
  · rename_i a b e1 e2
    injection e1 with e1; injection e2 with e2
    subst e1; subst e2
    split at h
    · rename_i hu
      exact ⟨a == b, run_equalIn_bool w d t a b hu, by simp⟩
    · cases h
  · cases h

theorem like_plain {t : TypeId} {x y : Option Value} (h : likeAt P t x y = true) : P.plainKey t = true ∧ ∃ a b, x = some a ∧ y = some b := by
  unfold likeAt at h
  split at h
  · simp only [Bool.and_eq_true] at h
    obtain ⟨_, h⟩ := h
    split at h
    · rename_i hu; exact ⟨by simp [Program.plainKey, hu], _, _, rfl, rfl⟩
    · cases h
  · split at h
    · rename_i hu; exact ⟨by simp [Program.plainKey, hu], _, _, rfl, rfl⟩
    · cases h
  · split at h
    · rename_i hu; exact ⟨by simp [Program.plainKey, hu], _, _, rfl, rfl⟩
    · cases h
  · cases h

theorem run_fields_eq (w : World) (d : Nat) (xs ys : List Value) : ∀ fs : List Field, (∀ f ∈ fs, f.name ≠ "_" ∧ likeAt P f.type xs[f.offset]? ys[f.offset]? = true) →
    ∃ r : Bool, (Op.eqFields (d + 1) xs.toArray ys.toArray fs).run P w = .ok r w ∧ (r = true ↔ ∀ f ∈ fs, xs[f.offset]? = ys[f.offset]?)
  | [], _ => ⟨true, by simp [Op.eqFields], by simp⟩
  | f :: fs, hall => by
    obtain ⟨hn, hl⟩ := hall f (by simp)
    obtain ⟨hp, a, b, hx, hy⟩ := like_plain hl
    rw [hx, hy] at hl
    obtain ⟨r, hr, hiff⟩ := run_field_eq w d hl
    obtain ⟨r', hr', hiff'⟩ := run_fields_eq w d xs ys fs (fun g hg => hall g (by simp [hg]))
    have p1 := run_part_plain (P := P) (w := w) hp (xs := xs.toArray) (off := f.offset) (v := a) (by simpa using hx)
    have p2 := run_part_plain (P := P) (w := w) hp (xs := ys.toArray) (off := f.offset) (v := b) (by simpa using hy)
    simp only [Op.eqFields, hn, ne_eq, not_false_eq_true, if_true, Sem.run_bind, p1, p2, hr, Result.andThen_ok]
    cases r
    · refine ⟨false, by simp, ?_⟩
      simp only [Bool.false_eq_true, false_iff]
      intro h
      have h1 := h f (by simp)
      rw [hx, hy] at h1
      injection h1 with h1
      exact absurd (hiff.2 h1) (by simp)
    · refine ⟨r', by simpa using hr', ?_⟩
      rw [hiff']
      have h1 : a = b := hiff.1 rfl
      constructor
      · intro h g hg
        rcases List.mem_cons.1 hg with rfl | hg
        · rw [hx, hy, h1]
        · exact h g hg
      · exact fun h g hg => h g (by simp [hg])

theorem run_agg_eq (w : World) {t : TypeId} {xs ys : List Value} (h : aggLike P t xs ys = true) : ∃ r : Bool, (Op.equal t (.agg xs.toArray) (.agg ys.toArray)).run P w = .ok r w ∧ (r = true ↔ xs = ys) := by
  unfold aggLike at h
  split at h
  · rename_i fs hu
    simp only [Bool.and_eq_true, Bool.not_eq_true', beq_iff_eq, List.all_eq_true, bne_iff_ne, ne_eq] at h
    obtain ⟨⟨⟨h1, h2⟩, h3⟩, h4⟩ := h
    have hfs : P.fieldsOf t = fs := by simp [Program.fieldsOf, hu]
    obtain ⟨r, hr, hiff⟩ := run_fields_eq w 9998 xs ys fs.toList h4
    refine ⟨r, ?_, ?_⟩
    · unfold Op.equal
      rw [show Op.maxDepth = 9999 + 1 from rfl, run_equalIn_struct w 9999 t _ _ (by rw [hfs]; exact hu) h1, hfs]
      exact hr
    · rw [hiff]
      constructor
      · intro h
        apply List.ext_getElem?
        intro i
        by_cases hi : i < xs.length
        · have : i ∈ fs.toList.map (·.offset) := by rw [h2]; exact List.mem_range.2 hi
          obtain ⟨f, hf, rfl⟩ := List.mem_map.1 this
          exact h f hf
        · rw [List.getElem?_eq_none (by omega), List.getElem?_eq_none (by omega)]
      · rintro rfl f _; rfl
  · cases h

end

section
variable {P : Program} {n B : Nat} {w0 : World} {Q : Exit → Act → World → Prop} {env : Env} {H : List HP} {m : Mode} {ops : Array Oper} {rest : List Oper} {d : Nat} {ty : TypeId} {pos : String} {after : Array Edge}

theorem run_eqGuard_agg (w : World) {op : BinOp} {t : TypeId} {x y : Operand} {xs ys : Array Value} (hg : P.eqGuardType P.depth t = false) : (eqGuard op t x y (.agg xs) (.agg ys)).run P w = .ok () w := by
  unfold eqGuard
  cases op <;> simp [program, Sem.run, hg, Result.andThen]

theorem VL_aeql {xt yt : TypeId} {x y : Operand} {xs ys : List Value} (hx : evo env x = some (.agg xs.toArray)) (hy : evo env y = some (.agg ys.toArray)) (hn : Nat.ble (d + 1) n = true) (hg : P.eqGuardType P.depth xt = false) (hl : aggLike P xt xs ys = true)
    (h1 : xs = ys → VL P m n B w0 ops Q rest ((d, .bool true) :: env) H) (h2 : xs ≠ ys → VL P m n B w0 ops Q rest ((d, .bool false) :: env) H) :
    VL P m n B w0 ops Q (⟨some d, .binOp .eql xt x y yt, ty, pos, after, none⟩ :: rest) env H := by
  by_cases hc : xs = ys
  · refine VL_bin hx hy hn (fun w => run_eqGuard_agg w hg) (fun w => ?_) (h1 hc)
    obtain ⟨r, hr, hiff⟩ := run_agg_eq w hl
    simp [binOp, hr, hiff.2 hc]
  · refine VL_bin hx hy hn (fun w => run_eqGuard_agg w hg) (fun w => ?_) (h2 hc)
    obtain ⟨r, hr, hiff⟩ := run_agg_eq w hl
    have : r = false := by rw [Bool.eq_false_iff]; exact fun e => hc (hiff.1 e)
    simp [binOp, hr, this]
theorem VL_aneq {xt yt : TypeId} {x y : Operand} {xs ys : List Value} (hx : evo env x = some (.agg xs.toArray)) (hy : evo env y = some (.agg ys.toArray)) (hn : Nat.ble (d + 1) n = true) (hg : P.eqGuardType P.depth xt = false) (hl : aggLike P xt xs ys = true)
    (h1 : xs ≠ ys → VL P m n B w0 ops Q rest ((d, .bool true) :: env) H) (h2 : xs = ys → VL P m n B w0 ops Q rest ((d, .bool false) :: env) H) :
    VL P m n B w0 ops Q (⟨some d, .binOp .neq xt x y yt, ty, pos, after, none⟩ :: rest) env H := by
  by_cases hc : xs = ys
  · refine VL_bin hx hy hn (fun w => run_eqGuard_agg w hg) (fun w => ?_) (h2 hc)
    obtain ⟨r, hr, hiff⟩ := run_agg_eq w hl
    simp [binOp, hr, hiff.2 hc]
  · refine VL_bin hx hy hn (fun w => run_eqGuard_agg w hg) (fun w => ?_) (h1 hc)
    obtain ⟨r, hr, hiff⟩ := run_agg_eq w hl
    have : r = false := by rw [Bool.eq_false_iff]; exact fun e => hc (hiff.1 e)
    simp [binOp, hr, this]

/-! ### Pointers against nil -/
theorem run_equalIn_ptr0 (w : World) (k : Nat) {t e : TypeId} (a : Option Addr) (hu : P.underlying t = some (.pointer e)) : (Op.equalIn (k + 1) t (.pointer a) (.pointer none)).run P w = .ok a.isNone w := by
  unfold Op.equalIn
  cases a <;> simp [run_underlying hu]
def isPtr (P : Program) (t : TypeId) : Bool := match P.underlying t with | some (.pointer _) => true | _ => false
theorem isPtr_spec {t : TypeId} (h : isPtr P t = true) : ∃ e, P.underlying t = some (.pointer e) := by
  unfold isPtr at h
  split at h
  · rename_i e hu; exact ⟨e, hu⟩
  · cases h
theorem VL_peql0 {xt yt : TypeId} {x : Operand} {a : Option Addr} (hx : evo env x = some (.pointer a)) (hn : Nat.ble (d + 1) n = true) (hu : isPtr P xt = true)
    (h : VL P m n B w0 ops Q rest ((d, .bool a.isNone) :: env) H) : VL P m n B w0 ops Q (⟨some d, .binOp .eql xt x (.const (.pointer none)) yt, ty, pos, after, none⟩ :: rest) env H := by
  obtain ⟨e, hu⟩ := isPtr_spec hu
  refine VL_bin hx (y := .const (.pointer none)) rfl hn (fun w => by simp [eqGuard]) (fun w => ?_) h
  simp only [binOp, Op.equal]
  rw [Sem.run_bind, show Op.maxDepth = 9999 + 1 from rfl, run_equalIn_ptr0 w 9999 a hu]
  simp
theorem VL_pneq0 {xt yt : TypeId} {x : Operand} {a : Option Addr} (hx : evo env x = some (.pointer a)) (hn : Nat.ble (d + 1) n = true) (hu : isPtr P xt = true)
    (h : VL P m n B w0 ops Q rest ((d, .bool (!a.isNone)) :: env) H) : VL P m n B w0 ops Q (⟨some d, .binOp .neq xt x (.const (.pointer none)) yt, ty, pos, after, none⟩ :: rest) env H := by
  obtain ⟨e, hu⟩ := isPtr_spec hu
  refine VL_bin hx (y := .const (.pointer none)) rfl hn (fun w => by simp [eqGuard]) (fun w => ?_) h
  simp only [binOp, Op.equal]
  rw [Sem.run_bind, show Op.maxDepth = 9999 + 1 from rfl, run_equalIn_ptr0 w 9999 a hu]
  simp

/-! ### Arrays behind pointers -/
theorem arrayT_spec {t k e size : Nat} (h : arrayT P t = some (k, e, size)) : ∃ i, P.underlying t = some (.array k e) ∧ P.info? e = some i ∧ i.size = size := by
  unfold arrayT at h
  split at h
  · rename_i k' e' hu
    cases hi : P.info? e' with
    | none => rw [hi] at h; cases h
    | some i =>
      rw [hi] at h
      simp only [Option.map_some, Option.some.injEq, Prod.mk.injEq] at h
      obtain ⟨rfl, rfl, rfl⟩ := h
      exact ⟨i, hu, hi, rfl⟩
  · cases h
theorem VL_index_arr (T : Tab P) {t g o k e size : Nat} {x y : Operand} {ki : IntKind} {i : Int} (hx : evo env x = some (.pointer (some ⟨g, o, none⟩))) (hy : evo env y = some (.int ki i)) (ht : look T.ar t = some (k, e, size)) (hn : Nat.ble (d + 1) n = true) (hi : 0 ≤ i ∧ i < k)
    (h : VL P m n B w0 ops Q rest ((d, .pointer (some ⟨g, o + i.toNat * size, none⟩)) :: env) H) :
    VL P m n B w0 ops Q (⟨some d, .indexAddr t x y, ty, pos, after, none⟩ :: rest) env H := by
  obtain ⟨inf, hu, hinf, hs⟩ := arrayT_spec (T.arra ht)
  refine VL_pure rfl rfl hn rfl (fun a w ha hw => ?_) h
  simp [execOp, ha.eval hx, ha.eval hy, Instr.indexAt, Instr.sureAddr, asIntOf, run_underlying hu, hi, sizeOf, typeInfo, hinf, hs, Addr.add_lit]

/-- The first elements of an array, as a slice. -/
theorem VL_slice_arr (T : Tab P) {t g o k e size : Nat} {x y : Operand} {ki : IntKind} {i : Int} (hx : evo env x = some (.pointer (some ⟨g, o, none⟩))) (hy : evo env y = some (.int ki i)) (ht : look T.ar t = some (k, e, size)) (hn : Nat.ble (d + 1) n = true) (hi : 0 ≤ i ∧ i ≤ k)
    (h : VL P m n B w0 ops Q rest ((d, .slice (some ⟨g, o, none⟩) i.toNat k) :: env) H) :
    VL P m n B w0 ops Q (⟨some d, .slice t x none (some y) none, ty, pos, after, none⟩ :: rest) env H := by
  obtain ⟨inf, hu, hinf, hs⟩ := arrayT_spec (T.arra ht)
  refine VL_pure rfl rfl hn rfl (fun a w ha hw => ?_) h
  simp [execOp, ha.eval hx, ha.eval hy, Instr.sliceAt, Instr.sliceBounds, Instr.sliceBound, Instr.sureAddr, asIntOf, run_underlying hu, hi, sizeOf, typeInfo, hinf, Addr.add_lit]

theorem VL_store_at (T : Tab P) {t g i : Nat} {cs : Array Value} {tt : TypeId} {v : Value} {x y : Operand} {K : List HP} (hx : evo env x = some (.pointer (some ⟨g, i, none⟩))) (hy : evo env y = some v) (h1 : v.oneCell' = true)
    (hu : Upd (blk g (.cells cs tt (0, 0))) (blk g (.cells (cs.setIfInBounds i v) tt (0, 0))) H K) (hi : i < cs.size)
    (ht : look T.sc t = some ()) (h : VL P none n B w0 ops Q rest env K) : VL P none n B w0 ops Q (⟨none, .store t x y, ty, pos, after, none⟩ :: rest) env H := by
  refine VL_skip rfl rfl (fun a w ha hw => ⟨w.setCell ⟨g, i, none⟩ v, ?_, hw.setCell hu⟩) h
  have hb : w.heap[g]? = some (.cells cs tt (0, 0)) := by
    obtain ⟨L1, L2, rfl, _⟩ := hu
    exact (hw.blk (by simp)).1
  have hc := cell_of_blk (i := i) hb
  have hcs : v.cells = #[v] := by cases v <;> first | rfl | simp [Value.oneCell'] at h1
  have hz : w.frozen? ⟨g, i, none⟩ = false := by simp [World.frozen?, hb]
  have hv : cs[i]? = some cs[i] := by simp [hi]
  rw [hv] at hc
  simp [execOp, ha.eval hx, ha.eval hy, Instr.storeAt, Instr.sureAddr, storeVar, hcs, run_sizeOf (T.scal ht).2, storeCells, run_store _ _ _ _ _ h1, Addr.add_zero', hc, hz]

/-! ### Maps with integer keys -/

/-- The entries of a map: key, value, stamp. -/
abbrev Ents := List (Int × Value × Nat)
def toE (e : Int × Value × Nat) : MapEntry := ⟨.int .i64 e.1, e.2.1, e.2.2⟩
def mobj (es : Ents) (clock : Nat) : Obj := .map (es.map toE).toArray clock
def mget (es : Ents) (k : Int) : Option Value := (es.find? fun e => e.1 == k).map (·.2.1)
def mset (es : Ents) (k : Int) (v : Value) : Ents := es.map fun e => if e.1 == k then (k, v, e.2.2) else e
def mdel (es : Ents) (k : Int) : Ents := es.filter fun e => !(e.1 == k)

def mapT (P : Program) (t kt et : TypeId) : Bool := (match P.underlying t with | some (.map a b) => a == kt && b == et | _ => false) && (match P.underlying kt with | some (.int .i64) => true | _ => false)
theorem mapT_spec {t kt et : TypeId} (h : mapT P t kt et = true) : P.underlying t = some (.map kt et) ∧ P.underlying kt = some (.int .i64) := by
  unfold mapT at h
  rw [Bool.and_eq_true] at h
  obtain ⟨h1, h2⟩ := h
  constructor
  · split at h1
    · rename_i a b hu
      simp only [Bool.and_eq_true, beq_iff_eq] at h1
      rw [hu, h1.1, h1.2]
    · cases h1
  · split at h2
    · rename_i hu; exact hu
    · cases h2

theorem findNow_none {es : Ents} {k : Int} (i : Nat) (h : mget es k = none) : Instr.findNow (.int .i64) (.int .i64 k) (es.map toE) i = some none := by
  induction es generalizing i with
  | nil => rfl
  | cons e es ih =>
    simp only [mget, List.find?_cons] at h
    by_cases hk : e.1 = k
    · simp [hk] at h
    · have hk' : (e.1 == k) = false := by simpa using hk
      rw [hk'] at h
      have : (k == e.1) = false := by simpa using fun e => hk e.symm
      simp only [List.map_cons, Instr.findNow, toE, Instr.sameNow, if_true, this]
      exact ih (i + 1) h
theorem findNow_some {es : Ents} {k : Int} {v : Value} (i : Nat) (h : mget es k = some v) : ∃ l1 b l2, es = l1 ++ (k, v, b) :: l2 ∧ (∀ e ∈ l1, e.1 ≠ k) ∧ Instr.findNow (.int .i64) (.int .i64 k) (es.map toE) i = some (some (i + l1.length, v)) := by
  induction es generalizing i with
  | nil => simp [mget] at h
  | cons e es ih =>
    simp only [mget, List.find?_cons] at h
    by_cases hk : e.1 = k
    · have hk' : (e.1 == k) = true := by simpa using hk
      rw [hk'] at h
      simp only [Option.map_some, Option.some.injEq] at h
      refine ⟨[], e.2.2, es, by rw [← h, ← hk]; rfl, by simp, ?_⟩
      have : (k == e.1) = true := by simpa using hk.symm
      simp only [List.map_cons, Instr.findNow, toE, Instr.sameNow, if_true, this]
      simp [h]
    · have hk' : (e.1 == k) = false := by simpa using hk
      rw [hk'] at h
      have : (k == e.1) = false := by simpa using fun e => hk e.symm
      obtain ⟨l1, b, l2, e1, e2, e3⟩ := ih (i + 1) h
      refine ⟨e :: l1, b, l2, by rw [e1]; rfl, ?_, ?_⟩
      · intro x hx
        rcases List.mem_cons.1 hx with rfl | hx
        · exact hk
        · exact e2 x hx
      · simp only [List.map_cons, Instr.findNow, toE, Instr.sameNow, if_true, this]
        rw [e3]
        simp; omega

theorem findNow_at {l1 l2 : Ents} {k : Int} {v0 : Value} {b : Nat} (hk : ∀ e ∈ l1, e.1 ≠ k) : Instr.findNow (.int .i64) (.int .i64 k) ((l1 ++ (k, v0, b) :: l2).map toE) 0 = some (some (l1.length, v0)) := by
  have : ∀ i, Instr.findNow (.int .i64) (.int .i64 k) ((l1 ++ (k, v0, b) :: l2).map toE) i = some (some (i + l1.length, v0)) := by
    induction l1 with
    | nil => intro i; simp [Instr.findNow, toE, Instr.sameNow]
    | cons e l ih =>
      intro i
      have : (k == e.1) = false := by simpa using fun e' => hk e (by simp) e'.symm
      simp only [List.cons_append, List.map_cons, Instr.findNow]
      rw [show Instr.sameNow (.int .i64) (.int .i64 k) (toE e).key = some (k == e.1) by simp [toE, Instr.sameNow], this]
      simp only []
      rw [ih (fun x hx => hk x (by simp [hx])) (i + 1)]
      simp; omega
  simpa using this 0
theorem modify_mid {α : Type} (f : α → α) (xs : List α) (y : α) (zs : List α) : (xs ++ y :: zs).modify xs.length f = xs ++ f y :: zs := by
  induction xs with
  | nil => rfl
  | cons x xs ih => simp only [List.cons_append, List.length_cons, List.modify_succ_cons, ih]
theorem erase_mid {α : Type} (xs : List α) (y : α) (zs : List α) : (xs ++ y :: zs).eraseIdx xs.length = xs ++ zs := by
  induction xs with
  | nil => rfl
  | cons x xs ih => simp only [List.cons_append, List.length_cons, List.eraseIdx_cons_succ, ih]

theorem run_checkInt (w : World) {kt : TypeId} (hk : P.underlying kt = some (.int .i64)) (k : Int) (b : Bool) : (Instr.checkKey b 10000 kt (.int .i64 k)).run P w = .ok () w := by
  rw [show 10000 = 9999 + 1 from rfl]
  unfold Instr.checkKey
  simp [run_underlying hk]

theorem St.setBlock {w : World} {K : List HP} {g : Nat} {o o' : Obj} (h : St B w0 H w) (u : Upd (Eng.blk g o) (Eng.blk g o') H K) : St B w0 K (ChangeMaps.setBlock w g o') := by
  refine h.upd u rfl rfl rfl (by simp [ChangeMaps.setBlock]) fun S1 ⟨h1, h2⟩ => ⟨⟨h1, ?_⟩, fun b hb _ => ?_⟩
  · have : g < w.heap.size := (Array.getElem?_eq_some_iff.1 h2).1
    simp [ChangeMaps.setBlock, this]
  · have : g ≠ b := fun e => hb (e ▸ h1)
    simp [ChangeMaps.setBlock, this]

theorem VL_makeMap {t : TypeId} (hn : Nat.ble (d + 1) n = true) (h : ∀ g, VL P none n B w0 ops Q rest ((d, .map (some g)) :: env) (blk g (mobj [] 0) :: H)) : VL P none n B w0 ops Q (⟨some d, .makeMap t none, ty, pos, after, none⟩ :: rest) env H :=
  VL_opE (fun v K => ∃ g, v = .map (some g) ∧ K = blk g (mobj [] 0) :: H) rfl rfl hn
    (fun a w _ hw => ⟨_, _, w.alloc (mobj [] 0), by simp [execOp, Instr.makeMap, newObj, Sem.run, mobj], hw.alloc _, w.heap.size, rfl, rfl⟩)
    (by rintro _ _ ⟨g, rfl, rfl⟩; exact h g)

theorem VL_mlen {t kt et g clock : Nat} {es : Ents} {x : Operand} (hx : evo env x = some (.map (some g))) (hm : blk g (mobj es clock) ∈ H) (ht : mapT P t kt et = true) (hn : Nat.ble (d + 1) n = true)
    (h : VL P m n B w0 ops Q rest ((d, .int .i64 es.length) :: env) H) : VL P m n B w0 ops Q (⟨some d, .call ⟨.builtin .len, #[x], #[t]⟩, ty, pos, after, none⟩ :: rest) env H := by
  obtain ⟨h1, h2⟩ := mapT_spec ht
  refine VL_pure rfl rfl hn rfl (fun a w ha hw => ?_) h
  have hb := (hw.blk hm).1
  unfold mobj at hb
  simp [execOp, resolve, ha.eval hx, invoke, builtin, Builtin.len_, run_underlying h1, getObj, Sem.run, hb, goInt]

theorem VL_lookup1 {t kt et g clock : Nat} {es : Ents} {x y : Operand} {k : Int} {v : Value} (hx : evo env x = some (.map (some g))) (hy : evo env y = some (.int .i64 k)) (hm : blk g (mobj es clock) ∈ H) (ht : mapT P t kt et = true) (hn : Nat.ble (d + 1) n = true) (hk : mget es k = some v)
    (h : VL P m n B w0 ops Q rest ((d, v) :: env) H) : VL P m n B w0 ops Q (⟨some d, .lookup t x y false, ty, pos, after, none⟩ :: rest) env H := by
  obtain ⟨h1, h2⟩ := mapT_spec ht
  refine VL_pure rfl rfl hn rfl (fun a w ha hw => ?_) h
  have hb := (hw.blk hm).1
  unfold mobj at hb
  obtain ⟨l1, b, l2, _, _, e3⟩ := findNow_some 0 hk
  simp [execOp, ha.eval hx, ha.eval hy, Instr.lookup, run_underlying h1, getObj, Sem.run, hb, run_checkInt _ h2, MapKept.run_findKey h2 e3]
theorem VL_lookup0 {t kt et g clock : Nat} {es : Ents} {x y : Operand} {k : Int} {z : Value} (hx : evo env x = some (.map (some g))) (hy : evo env y = some (.int .i64 k)) (hm : blk g (mobj es clock) ∈ H) (ht : mapT P t kt et = true) (hn : Nat.ble (d + 1) n = true) (hk : mget es k = none) (hz : ∀ w, (zeroValue et).run P w = .ok z w)
    (h : VL P m n B w0 ops Q rest ((d, z) :: env) H) : VL P m n B w0 ops Q (⟨some d, .lookup t x y false, ty, pos, after, none⟩ :: rest) env H := by
  obtain ⟨h1, h2⟩ := mapT_spec ht
  refine VL_pure rfl rfl hn rfl (fun a w ha hw => ?_) h
  have hb := (hw.blk hm).1
  unfold mobj at hb
  simp [execOp, ha.eval hx, ha.eval hy, Instr.lookup, run_underlying h1, getObj, Sem.run, hb, run_checkInt _ h2, MapKept.run_findKey h2 (findNow_none 0 hk), hz]
theorem VL_lookup1ok {t kt et g clock : Nat} {es : Ents} {x y : Operand} {k : Int} {v : Value} (hx : evo env x = some (.map (some g))) (hy : evo env y = some (.int .i64 k)) (hm : blk g (mobj es clock) ∈ H) (ht : mapT P t kt et = true) (hn : Nat.ble (d + 1) n = true) (hk : mget es k = some v)
    (h : VL P m n B w0 ops Q rest ((d, .tuple #[v, .bool true]) :: env) H) : VL P m n B w0 ops Q (⟨some d, .lookup t x y true, ty, pos, after, none⟩ :: rest) env H := by
  obtain ⟨h1, h2⟩ := mapT_spec ht
  refine VL_pure rfl rfl hn rfl (fun a w ha hw => ?_) h
  have hb := (hw.blk hm).1
  unfold mobj at hb
  obtain ⟨l1, b, l2, _, _, e3⟩ := findNow_some 0 hk
  simp [execOp, ha.eval hx, ha.eval hy, Instr.lookup, run_underlying h1, getObj, Sem.run, hb, run_checkInt _ h2, MapKept.run_findKey h2 e3]
theorem VL_lookup0ok {t kt et g clock : Nat} {es : Ents} {x y : Operand} {k : Int} {z : Value} (hx : evo env x = some (.map (some g))) (hy : evo env y = some (.int .i64 k)) (hm : blk g (mobj es clock) ∈ H) (ht : mapT P t kt et = true) (hn : Nat.ble (d + 1) n = true) (hk : mget es k = none) (hz : ∀ w, (zeroValue et).run P w = .ok z w)
    (h : VL P m n B w0 ops Q rest ((d, .tuple #[z, .bool false]) :: env) H) : VL P m n B w0 ops Q (⟨some d, .lookup t x y true, ty, pos, after, none⟩ :: rest) env H := by
  obtain ⟨h1, h2⟩ := mapT_spec ht
  refine VL_pure rfl rfl hn rfl (fun a w ha hw => ?_) h
  have hb := (hw.blk hm).1
  unfold mobj at hb
  simp [execOp, ha.eval hx, ha.eval hy, Instr.lookup, run_underlying h1, getObj, Sem.run, hb, run_checkInt _ h2, MapKept.run_findKey h2 (findNow_none 0 hk), hz]

/-- A new entry. -/
theorem VL_mapNew {t kt et g clock : Nat} {es : Ents} {x y u : Operand} {k : Int} {v : Value} {K : List HP} (hx : evo env x = some (.map (some g))) (hy : evo env y = some (.int .i64 k)) (hv : evo env u = some v) (ht : mapT P t kt et = true)
    (hu : Upd (blk g (mobj es clock)) (blk g (mobj (es ++ [(k, v, clock)]) (clock + 1))) H K) (hk : mget es k = none)
    (h : VL P none n B w0 ops Q rest env K) : VL P none n B w0 ops Q (⟨none, .mapUpdate t x y u, ty, pos, after, none⟩ :: rest) env H := by
  obtain ⟨h1, h2⟩ := mapT_spec ht
  refine VL_skip rfl rfl (fun a w ha hw => ⟨setBlock w g (mobj (es ++ [(k, v, clock)]) (clock + 1)), ?_, hw.setBlock hu⟩) h
  have hb : w.heap[g]? = some (mobj es clock) := by
    obtain ⟨L1, L2, rfl, _⟩ := hu
    exact (hw.blk (by simp)).1
  have hb' := hb
  unfold mobj at hb
  simp [execOp, ha.eval hx, ha.eval hy, ha.eval hv, Instr.mapUpdate, run_underlying h1, getObj, Sem.run, hb, run_checkInt _ h2, MapKept.run_findKey h2 (findNow_none 0 hk), MapKept.run_setObj_map _ hb, setBlock, mobj, toE]

/-- An old one. -/
theorem VL_mapOld {t kt et g clock b : Nat} {l1 l2 : Ents} {x y u : Operand} {k : Int} {v v0 : Value} {K : List HP} (hx : evo env x = some (.map (some g))) (hy : evo env y = some (.int .i64 k)) (hv : evo env u = some v) (ht : mapT P t kt et = true)
    (hu : Upd (blk g (mobj (l1 ++ (k, v0, b) :: l2) clock)) (blk g (mobj (l1 ++ (k, v, b) :: l2) clock)) H K) (hk : ∀ e ∈ l1, e.1 ≠ k)
    (h : VL P none n B w0 ops Q rest env K) : VL P none n B w0 ops Q (⟨none, .mapUpdate t x y u, ty, pos, after, none⟩ :: rest) env H := by
  obtain ⟨h1, h2⟩ := mapT_spec ht
  refine VL_skip rfl rfl (fun a w ha hw => ⟨setBlock w g (mobj (l1 ++ (k, v, b) :: l2) clock), ?_, hw.setBlock hu⟩) h
  have hb : w.heap[g]? = some (mobj (l1 ++ (k, v0, b) :: l2) clock) := by
    obtain ⟨L1, L2, rfl, _⟩ := hu
    exact (hw.blk (by simp)).1
  unfold mobj at hb
  have hf := findNow_at (l2 := l2) (v0 := v0) (b := b) hk
  have hsz : (l1 ++ (k, v0, b) :: l2).map toE = l1.map toE ++ toE (k, v0, b) :: l2.map toE := by simp
  have hget : ((List.map toE (l1 ++ (k, v0, b) :: l2)).toArray)[l1.length]? = some (toE (k, v0, b)) := by rw [hsz]; simp
  have hmod : ((List.map toE (l1 ++ (k, v0, b) :: l2)).toArray).modify l1.length (fun e => { e with key := .int .i64 k, val := v }) = (List.map toE (l1 ++ (k, v, b) :: l2)).toArray := by
    rw [hsz, List.modify_toArray, show l1.length = (l1.map toE).length by simp, modify_mid]; simp [toE]
  have hks : (Instr.keyThatStays (.int .i64 k) (.int .i64 k)).run P w = .ok (.int .i64 k) w := by
    unfold Instr.keyThatStays; simp [Instr.sameBits]
  have hkey : (Option.map (fun x : MapEntry => x.key) (some (toE (k, v0, b)))).getD (.int .i64 k) = .int .i64 k := rfl
  have hrun : (Instr.mapUpdate t (.map (some g)) (.int .i64 k) v).run P w = .ok () (setBlock w g (mobj (l1 ++ (k, v, b) :: l2) clock)) := by
    simp only [Instr.mapUpdate, Sem.run_bind, run_underlying h1, getObj, Sem.run, hb, run_checkInt _ h2, MapKept.run_findKey h2 hf, hget, hkey, hks, hmod, Result.andThen, MapKept.run_setObj_map _ hb, setBlock, mobj]
  simp [execOp, ha.eval hx, ha.eval hy, ha.eval hv, hrun]

theorem VL_range {t kt et g clock : Nat} {es : Ents} {x : Operand} (hx : evo env x = some (.map (some g))) (hm : blk g (mobj es clock) ∈ H) (ht : mapT P t kt et = true) (hn : Nat.ble (d + 1) n = true)
    (h : ∀ r, VL P none n B w0 ops Q rest ((d, .pointer (some ⟨r, 0, none⟩)) :: env) (blk r (.mapIter (some g) clock #[] clock) :: H)) : VL P none n B w0 ops Q (⟨some d, .range t x, ty, pos, after, none⟩ :: rest) env H := by
  obtain ⟨h1, h2⟩ := mapT_spec ht
  refine VL_opE (fun v K => ∃ r, v = .pointer (some ⟨r, 0, none⟩) ∧ K = blk r (.mapIter (some g) clock #[] clock) :: H) rfl rfl hn (fun a w ha hw => ?_) (by rintro _ _ ⟨g, rfl, rfl⟩; exact h g)
  have hb := (hw.blk hm).1
  unfold mobj at hb
  refine ⟨_, _, w.alloc (.mapIter (some g) clock #[] clock), ?_, hw.alloc _, w.heap.size, rfl, rfl⟩
  simp [execOp, ha.eval hx, Instr.range, run_underlying h1, getObj, Sem.run, hb, newObj]

theorem VL_next {g r clock since c0 : Nat} {seen : Array Nat} {es : Ents} {x : Operand} {K : Nat → List HP} (hx : evo env x = some (.pointer (some ⟨r, 0, none⟩))) (hm : blk g (mobj es clock) ∈ H) (hn : Nat.ble (d + 1) n = true)
    (hu : ∀ b, Upd (blk r (.mapIter (some g) since seen c0)) (blk r (.mapIter (some g) since (seen.push b) clock)) H (K b)) (hold : ∀ e ∈ es, e.2.2 < since) (hsc : since ≤ c0)
    (h1 : (∀ e ∈ es, seen.contains e.2.2 = true) → VL P none n B w0 ops Q rest ((d, .tuple #[.bool false]) :: env) H)
    (h2 : ∀ e ∈ es, seen.contains e.2.2 = false → VL P none n B w0 ops Q rest ((d, .tuple #[.bool true, .int .i64 e.1, e.2.1]) :: env) (K e.2.2)) :
    VL P none n B w0 ops Q (⟨some d, .next x false, ty, pos, after, none⟩ :: rest) env H := by
  refine VL_opE (fun v K' => (v = .tuple #[.bool false] ∧ K' = H ∧ ∀ e ∈ es, seen.contains e.2.2 = true) ∨ ∃ e ∈ es, seen.contains e.2.2 = false ∧ v = .tuple #[.bool true, .int .i64 e.1, e.2.1] ∧ K' = K e.2.2) rfl rfl hn (fun a w ha hw => ?_) (by
    rintro _ _ (⟨rfl, rfl, hs⟩ | ⟨e, he, hs, rfl, rfl⟩)
    · exact h1 hs
    · exact h2 e he hs)
  have hb := (hw.blk hm).1
  unfold mobj at hb
  have hr : w.heap[r]? = some (.mapIter (some g) since seen c0) := by
    obtain ⟨L1, L2, e, _⟩ := hu 0
    exact (hw.blk (by rw [e]; simp)).1
  have hold' : ∀ x ∈ ((es.map toE).toArray).toList, x.born < since := by
    intro x hx
    obtain ⟨e, he, rfl⟩ := List.mem_map.1 hx
    exact hold e he
  have hx' : (execOp a.eval ⟨some d, .next x false, ty, pos, after, none⟩).run P w = ((Instr.next (.pointer (some ⟨r, 0, none⟩)) false ty).run P w).andThen fun v w' => .ok (.value v) w' := by
    simp [execOp, ha.eval hx]
  rcases run_next_at (P := P) w ty r g since c0 seen _ clock hr hb hold' hsc with ⟨hz, hrun⟩ | ⟨e, he, w1, hw1, hrun⟩
  · refine ⟨_, H, w, by rw [hx', hrun]; rfl, hw, .inl ⟨rfl, rfl, fun e he => ?_⟩⟩
    cases hs : seen.contains e.2.2 with
    | true => rfl
    | false =>
      exfalso
      have : toE e ∈ (leftOf (es.map toE).toArray seen).toList := by
        simp only [leftOf, Array.toList_filter, List.mem_filter, List.mem_map]
        exact ⟨⟨e, he, rfl⟩, by rw [show (toE e).born = e.2.2 from rfl, hs]; rfl⟩
      have h0 : (leftOf (es.map toE).toArray seen).toList = [] := by
        rw [Array.eq_empty_of_size_eq_zero hz]
      rw [h0] at this
      cases this
  · have hmem : e ∈ es.map toE ∧ seen.contains e.born = false := by
      have := he
      simp only [leftOf, Array.toList_filter, List.mem_filter] at this
      exact ⟨this.1, by simpa using this.2⟩
    obtain ⟨⟨e0, he0, rfl⟩, hs⟩ := (⟨List.mem_map.1 hmem.1, hmem.2⟩ : (∃ e0 ∈ es, toE e0 = e) ∧ _)
    have hw1' : St B w0 H w1 := by
      rcases hw1 with rfl | rfl
      · exact hw
      · exact hw.drew
    exact ⟨_, K e0.2.2, _, by rw [hx', hrun]; rfl, hw1'.setBlock (hu _), .inr ⟨e0, he0, hs, rfl, rfl⟩⟩

theorem VL_entry {g r clock since : Nat} {seen : Array Nat} {es : Ents} {x : Operand} {e : Int × Value × Nat} (hx : evo env x = some (.pointer (some ⟨r, 0, none⟩))) (hm : blk g (mobj es clock) ∈ H) (hr : blk r (.mapIter (some g) since (seen.push e.2.2) clock) ∈ H) (hn : Nat.ble (d + 1) n = true)
    (he : e ∈ es) (hnd : (es.map (·.2.2)).Nodup)
    (h : VL P none n B w0 ops Q rest ((d, .tuple #[.int .i64 e.1, e.2.1]) :: env) H) : VL P none n B w0 ops Q (⟨some d, .entry x, ty, pos, after, none⟩ :: rest) env H := by
  refine VL_op rfl rfl hn (fun a w ha hw => ⟨w, ?_, hw⟩) h
  have hb := (hw.blk hm).1
  unfold mobj at hb
  have hrun := run_entry_at (P := P) w r g since seen _ clock (toE e) (hw.blk hr).1 hb (List.mem_map.2 ⟨e, he, rfl⟩) (by simpa [Function.comp_def, toE] using hnd)
  simp [execOp, ha.eval hx, hrun, toE]

theorem VL_opU {o : Oper} {v : Value} {H' : List HP} (hg : o.guard = none) (hd : o.dst = none)
    (hr : ∀ a w, Fits n a env → St B w0 H w → ∃ w', (execOp a.eval o).run P w = .ok (.value v) w' ∧ St B w0 H' w')
    (h : VL P none n B w0 ops Q rest env H') : VL P none n B w0 ops Q (o :: rest) env H := by
  refine ⟨fun a ha w hw => wpList_plain hg fun K hK => ?_⟩
  obtain ⟨w', hrun, hst⟩ := hr a w ha hw
  unfold Oper.wp
  rw [hrun, Oper.upon_value, hd]
  exact hK _ _ (h.run _ ha _ hst)

theorem VL_delete {t kt et g clock b : Nat} {l1 l2 : Ents} {x y : Operand} {k : Int} {v0 : Value} {K : List HP} (hx : evo env x = some (.map (some g))) (hy : evo env y = some (.int .i64 k)) (ht : mapT P t kt et = true)
    (hu : Upd (blk g (mobj (l1 ++ (k, v0, b) :: l2) clock)) (blk g (mobj (l1 ++ l2) clock)) H K) (hk : ∀ e ∈ l1, e.1 ≠ k)
    (h : VL P none n B w0 ops Q rest env K) : VL P none n B w0 ops Q (⟨none, .call ⟨.builtin .delete, #[x, y], #[t, kt]⟩, ty, pos, after, none⟩ :: rest) env H := by
  obtain ⟨h1, h2⟩ := mapT_spec ht
  have hf := findNow_at (l2 := l2) (v0 := v0) (b := b) hk
  have hsz : (l1 ++ (k, v0, b) :: l2).map toE = l1.map toE ++ toE (k, v0, b) :: l2.map toE := by simp
  have her : (List.map toE (l1 ++ (k, v0, b) :: l2)).eraseIdx l1.length = List.map toE (l1 ++ l2) := by
    rw [hsz, show l1.length = (l1.map toE).length by simp, erase_mid]; simp
  refine VL_opU (v := .tuple #[]) rfl rfl (fun a w ha hw => ⟨setBlock w g (mobj (l1 ++ l2) clock), ?_, hw.setBlock hu⟩) h
  have hb : w.heap[g]? = some (mobj (l1 ++ (k, v0, b) :: l2) clock) := by
    obtain ⟨L1, L2, rfl, _⟩ := hu
    exact (hw.blk (by simp)).1
  unfold mobj at hb
  have hrun : (Builtin.delete_ #[t, kt] ty #[.map (some g), .int .i64 k]).run P w = .ok (.tuple #[]) (setBlock w g (mobj (l1 ++ l2) clock)) := by
    unfold mobj
    clear hsz hu hk
    generalize List.map toE (l1 ++ (k, v0, b) :: l2) = L at hf her hb
    generalize List.map toE (l1 ++ l2) = L2 at her
    simp [Builtin.delete_, run_underlying h1, getObj, Sem.run, hb, run_checkInt _ h2, MapKept.run_findKey h2 hf, her, MapKept.run_setObj_map _ hb, setBlock]
  simp [execOp, resolve, ha.eval hx, ha.eval hy, invoke, builtin, hrun]

/-! ### Function values -/
theorem VL_makeFunc {fn : Fn} {caps : List Operand} {cs : List Value} (hc : Args env caps cs) (hn : Nat.ble (d + 1) n = true) (h : VL P none n B w0 ops Q rest ((d, .func fn #[] cs.toArray) :: env) H) :
    VL P none n B w0 ops Q (⟨some d, .makeFunc fn #[] caps.toArray, ty, pos, after, none⟩ :: rest) env H := by
  refine VL_op rfl rfl hn (fun a w ha hw => ⟨w, ?_, hw⟩) h
  have hmap : caps.toArray.map a.eval = cs.toArray := by rw [List.map_toArray, map_evo ha _ _ hc]
  simp [execOp, Instr.makeFunc, hmap]

theorem VL_callv {f : Nat} {x : Operand} {args : List Operand} {tys : Array TypeId} {vs cs : List Value} (Φ : Value → List HP → Prop) (hx : evo env x = some (.func (.func f) #[] cs.toArray))
    (hc : ∀ xs w, (callFunc f xs).run P w = .ok (.enter f xs) w) (hargs : Args env args vs) (hn : Nat.ble (d + 1) n = true)
    (hcall : ∀ w, St B w0 H w → Calls P f (vs ++ cs).toArray w (Post B w0 Φ))
    (h : ∀ v H', Φ v H' → VL P none n B w0 ops Q rest ((d, v) :: env) H') :
    VL P none n B w0 ops Q (⟨some d, .call ⟨.value x, args.toArray, tys⟩, ty, pos, after, none⟩ :: rest) env H := by
  refine ⟨fun a ha w hw => wpList_plain rfl fun K hK => ?_⟩
  unfold Oper.wp
  have hmap : args.toArray.map a.eval = vs.toArray := by rw [List.map_toArray, map_evo ha _ _ hargs]
  have hrun : (execOp a.eval ⟨some d, .call ⟨.value x, args.toArray, tys⟩, ty, pos, after, none⟩).run P w = .ok (.enter f (vs ++ cs).toArray) w := by
    simp only [execOp, resolve, ha.eval hx, hmap, Deferred.ofValue, Sem.run_bind, Sem.run_pure, Result.andThen_ok, invoke]
    simpa using hc ((vs ++ cs).toArray) w
  rw [hrun, Oper.upon_enter]
  refine (hcall w hw).mono ?_
  rintro e w' ⟨v, H', rfl, hst, hΦ⟩
  exact hK _ _ ((h v H' hΦ).run _ (ha.put (Nat.le_of_ble_eq_true hn) v) _ hst)

/-! ### Many pieces as one -/
def many (L : List HP) : HP := ⟨fun S w => sepL L S w, fun h hs => sepL_loc hs h⟩

theorem sepL_split {M : List HP} {w : World} : ∀ {L : List HP} {S : Nat → Prop}, sepL (L ++ M) S w → ∃ S1 S2 : Nat → Prop, (∀ b, S1 b → S b) ∧ (∀ b, S2 b → S b) ∧ (∀ b, S1 b → ¬ S2 b) ∧ sepL L S1 w ∧ sepL M S2 w
  | [], S, h => ⟨fun _ => False, S, fun _ hb => hb.elim, fun _ hb => hb, fun _ hb => hb.elim, trivial, h⟩
  | A :: L, S, h => by
    obtain ⟨T1, T2, h1, h2, h3, h4, h5⟩ := h
    obtain ⟨U1, U2, k1, k2, k3, k4, k5⟩ := sepL_split h5
    refine ⟨fun b => T1 b ∨ U1 b, U2, fun b hb => hb.elim (h1 b) (fun hb => h2 b (k1 b hb)), fun b hb => h2 b (k2 b hb), fun b hb hc => ?_, ⟨T1, U1, fun b hb => .inl hb, fun b hb => .inr hb, fun b hb hc => h3 b hb (k1 b hc), h4, k4⟩, k5⟩
    rcases hb with hb | hb
    · exact h3 b hb (k2 b hc)
    · exact k3 b hb hc
theorem sepL_join {M : List HP} {w : World} : ∀ {L : List HP} {S S1 S2 : Nat → Prop}, (∀ b, S1 b → S b) → (∀ b, S2 b → S b) → (∀ b, S1 b → ¬ S2 b) → sepL L S1 w → sepL M S2 w → sepL (L ++ M) S w
  | [], _, _, _, _, h2, _, _, h => sepL_mono h h2
  | A :: L, S, S1, S2, h1, h2, h3, h4, h5 => by
    obtain ⟨T1, T2, k1, k2, k3, k4, k5⟩ := h4
    refine ⟨T1, fun b => T2 b ∨ S2 b, fun b hb => h1 b (k1 b hb), fun b hb => hb.elim (fun hb => h1 b (k2 b hb)) (h2 b), fun b hb hc => ?_, k4, sepL_join (fun b hb => .inl hb) (fun b hb => .inr hb) (fun b hb hc => h3 b (k2 b hb) hc) k5 h5⟩
    rcases hc with hc | hc
    · exact k3 b hb hc
    · exact h3 b (k1 b hb) hc

theorem Perm.open_ (L M : List HP) : Perm (many L :: M) (L ++ M) := ⟨fun _ _ ⟨_, _, h1, h2, h3, h4, h5⟩ => sepL_join h1 h2 h3 h4 h5⟩
theorem Perm.close (L M : List HP) : Perm (L ++ M) (many L :: M) := ⟨fun _ _ h => sepL_split h⟩
theorem Perm.mid (A : HP) : ∀ (L M : List HP), Perm (L ++ A :: M) (A :: (L ++ M))
  | [], _ => .refl _
  | B :: L, M => .trans (.cons B (.mid A L M)) (.swap B A (L ++ M))
theorem Perm.mid' (A : HP) : ∀ (L M : List HP), Perm (A :: (L ++ M)) (L ++ A :: M)
  | [], _ => .refl _
  | B :: L, M => .trans (.swap A B (L ++ M)) (.cons B (.mid' A L M))
theorem Perm.drop (A : HP) (L : List HP) : Perm (A :: L) L := ⟨fun _ _ h => sepL_tail h⟩
theorem Perm.pull (A : HP) (L1 L2 M : List HP) : Perm (many (L1 ++ A :: L2) :: M) (A :: many (L1 ++ L2) :: M) := by
  refine .trans (.open_ _ _) ?_
  rw [List.append_assoc, List.cons_append]
  refine .trans (.mid A L1 (L2 ++ M)) (.cons A ?_)
  rw [← List.append_assoc]
  exact .close _ _
theorem Perm.push (A : HP) (L1 L2 M : List HP) : Perm (A :: many (L1 ++ L2) :: M) (many (L1 ++ A :: L2) :: M) := by
  refine .trans (.cons A (.open_ _ _)) ?_
  rw [List.append_assoc]
  refine .trans (.mid' A L1 (L2 ++ M)) ?_
  rw [← List.cons_append, ← List.append_assoc]
  exact .close _ _
theorem Perm.noMany (M : List HP) : Perm M (many [] :: M) := .close [] M

end
end Go.Eng
