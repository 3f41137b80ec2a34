/- An engine for walks, part 8: zero values, structs and slices that are built, by a table; elements of rows that are read. -/
import Derived.Test.YtfobgjhjigkigaaE7
import Derived.Laws.Tables
import Derived.Great.BuildSlice
namespace Go.Eng
open Go.RowKit

def partsV (env : Env) : List (Nat × Operand) → Option (List (Nat × Value))
  | [] => some []
  | (i, x) :: l => match evo env x with
    | none => none
    | some v => match partsV env l with
      | none => none
      | some r => some ((i, v) :: r)
theorem partsV_spec {env : Env} : ∀ {l : List (Nat × Operand)} {ps : List (Nat × Value)}, partsV env l = some ps → Parts env l ps
  | [], ps, h => by simp [partsV] at h; subst h; exact parts_nil
  | (i, x) :: l, ps, h => by
    unfold partsV at h
    cases hx : evo env x with
    | none => rw [hx] at h; cases h
    | some v =>
      rw [hx] at h
      cases hl : partsV env l with
      | none => rw [hl] at h; cases h
      | some r =>
        rw [hl] at h
        simp only [Option.some.injEq] at h
        subst h
        exact parts_cons hx (partsV_spec hl)

def structPl (P : Program) (t : Nat) : Option (List (Nat × Nat)) :=
  match P.underlying t with
  | some (.struct fs) => fs.toList.mapM (fun f => (P.info? f.type).map fun i => (f.offset, i.size))
  | _ => none
def zeroT (P : Program) (t : Nat) : Option Value := (P.info? t).bind (·.zero)

/-- Zero values; the places of a struct's fields. -/
structure Tab2 (P : Program) where
  zt : List (Nat × Value)
  bt : List (Nat × List (Nat × Nat))
  zt_ok : (zt.map fun x => zeroT P x.1) = zt.map fun x => some x.2
  bt_ok : (bt.map fun x => structPl P x.1) = bt.map fun x => some x.2

theorem look_map {β : Type} {f : Nat → Option β} : ∀ {l : List (Nat × β)}, (l.map fun x => f x.1) = (l.map fun x => some x.2) → ∀ {t : Nat} {v : β}, look l t = some v → f t = some v := by
  intro l h t v hl
  have hm := look_mem hl
  clear hl
  induction l with
  | nil => cases hm
  | cons x l ih =>
    simp only [List.map_cons, List.cons.injEq] at h
    rcases List.mem_cons.1 hm with e | e
    · rw [← e] at h; exact h.1
    · exact ih h.2 e

theorem zero_run {P : Program} {t : Nat} {z : Value} (h : zeroT P t = some z) (w : World) : (zeroValue t).run P w = .ok z w := by
  unfold zeroT at h
  cases hi : P.info? t with
  | none => rw [hi] at h; cases h
  | some i =>
    rw [hi] at h
    have h2 : i.zero = some z := h
    simp [zeroValue, typeInfo, hi, h2]

def forceL {β : Type} : List Value → (List Value → Option β) → Option β
  | [], k => k []
  | a :: l, k => forceL l fun l' => k (a :: l')
theorem forceL_eq {β : Type} : ∀ (l : List Value) (k : List Value → Option β), forceL l k = k l
  | [], _ => rfl
  | a :: l, k => by rw [forceL, forceL_eq l]

def setMany : List Value → Nat → List Value → List Value
  | cs, _, [] => cs
  | cs, off, v :: vs => setMany (cs.set off v) (off + 1) vs
theorem setMany_length : ∀ (vs cs : List Value) (off : Nat), (setMany cs off vs).length = cs.length
  | [], _, _ => rfl
  | v :: vs, cs, off => by rw [setMany, setMany_length vs, List.length_set]

def fillL (place : Nat → Option (Nat × Nat)) (cs : List Value) : List (Nat × Value) → Option (List Value)
  | [] => some cs
  | (i, v) :: rest => match place i with
    | none => none
    | some (off, size) => match Nat.beq v.cells.toList.length size && Nat.ble (off + size) cs.length with
      | true => forceL (setMany cs off v.cells.toList) fun cs' => fillL place cs' rest
      | false => none

theorem fold_setMany (off : Nat) : ∀ (l : List Value) (k : Nat) (cs : Array Value), (l.zipIdx k).foldl (fun cs (c, j) => cs.setIfInBounds (off + j) c) cs = (setMany cs.toList (off + k) l).toArray
  | [], _, cs => by simp [setMany]
  | v :: l, k, cs => by
    rw [List.zipIdx_cons, List.foldl_cons, fold_setMany off l (k + 1)]
    simp [setMany, Nat.add_assoc]

theorem fillL_spec {place : Nat → Option (Nat × Nat)} : ∀ {ps : List (Nat × Value)} {cs : Array Value} {r : List Value}, fillL place cs.toList ps = some r → Instr.fill place cs ps = some r.toArray
  | [], cs, r, h => by simp [fillL] at h; subst h; simp [Instr.fill]
  | (i, v) :: rest, cs, r, h => by
    unfold fillL at h
    unfold Instr.fill
    cases hp : place i with
    | none => rw [hp] at h; cases h
    | some q =>
      obtain ⟨off, size⟩ := q
      rw [hp] at h
      simp only at h ⊢
      split at h
      · rename_i hb
        simp only [Bool.and_eq_true, Array.length_toList] at hb
        obtain ⟨h1, h2⟩ := hb
        have h2' := Nat.le_of_ble_eq_true h2
        have h1' : v.cells.size = size := by simpa using h1
        rw [forceL_eq] at h
        have hz : v.cells.zipIdx.foldl (fun cs (c, j) => cs.setIfInBounds (off + j) c) cs = (setMany cs.toList off v.cells.toList).toArray := by
          rw [← Array.foldl_toList, Array.toList_zipIdx]
          exact fold_setMany off v.cells.toList 0 cs
        rw [if_neg (by simp [h1']; omega), hz]
        exact fillL_spec (by simpa using h)
      · cases h

def repZ : Nat → List Value → List Value
  | 0, _ => []
  | n + 1, z => z ++ repZ n z
theorem repZ_length (z : List Value) : ∀ n, (repZ n z).length = n * z.length
  | 0 => by simp [repZ]
  | n + 1 => by rw [repZ, List.length_append, repZ_length z n, Nat.add_mul]; omega
theorem repZ_get (z : List Value) (hz : 0 < z.length) : ∀ (n j : Nat), j < n * z.length → (repZ n z)[j]? = z[j % z.length]?
  | 0, j, h => by omega
  | n + 1, j, h => by
    rw [repZ]
    by_cases hj : j < z.length
    · rw [List.getElem?_append_left hj, Nat.mod_eq_of_lt hj]
    · rw [List.getElem?_append_right (by omega), repZ_get z hz n _ (by rw [Nat.add_mul] at h; omega), ← Nat.mod_eq_sub_mod (by omega)]
theorem repZ_arr (zs : Array Value) (hz : 0 < zs.size) (n : Nat) : ((Array.range (n * zs.size)).map (zs[· % zs.size]!)) = (repZ n zs.toList).toArray := by
  apply Array.ext'
  apply List.ext_getElem?
  intro j
  have hl : zs.toList.length = zs.size := by simp
  by_cases hj : j < n * zs.size
  · have h1 := repZ_get zs.toList (by omega) n j (by rw [hl]; exact hj)
    rw [hl] at h1
    have hm : j % zs.size < zs.size := Nat.mod_lt _ hz
    rw [List.toList_toArray, h1]
    simp [hj, hm, Array.getElem!_eq_getD, Array.getD_eq_getD_getElem?]
  · rw [List.getElem?_eq_none (by simp; omega), List.getElem?_eq_none (by simp [repZ_length]; omega)]

section
variable {P : Program} {m : Mode} {n B : Nat} {w0 : World} {ops : Array Oper} {Q : Exit → Act → World → Prop} {rest : List Oper} {env : Env} {H : List HP} {d : Nat} {ty : TypeId} {pos : String} {after : Array Edge}

theorem VL_allocT (T2 : Tab2 P) {t : TypeId} {z : Value} {cs : Array Value} (hz : look T2.zt t = some z) (hc : z.cells = cs) (hn : Nat.ble (d + 1) n = true)
    (h : ∀ g, VL P none n B w0 ops Q rest ((d, .pointer (some ⟨g, 0, none⟩)) :: env) (blk g (.cells cs t (0, 0)) :: H)) : VL P none n B w0 ops Q (⟨some d, .alloc t, ty, pos, after, none⟩ :: rest) env H :=
  VL_alloc (zero_run (look_map T2.zt_ok hz)) hc hn h

theorem VL_buildT (T2 : Tab2 P) {t : TypeId} {parts : List (Nat × Operand)} {ps : List (Nat × Value)} {zc : Array Value} {pl : List (Nat × Nat)} {cs : List Value} (hp : partsV env parts = some ps) (hz : look T2.zt t = some (.agg zc)) (hl : look T2.bt t = some pl)
    (hf : fillL (pl[·]?) zc.toList ps = some cs) (hn : Nat.ble (d + 1) n = true)
    (h : VL P m n B w0 ops Q rest ((d, .agg cs.toArray) :: env) H) : VL P m n B w0 ops Q (⟨some d, .build t parts.toArray, ty, pos, after, none⟩ :: rest) env H := by
  refine VL_build (partsV_spec hp) (fun w => run_build w t _ cs.toArray ?_) hn h
  have h1 := look_map T2.zt_ok hz
  have h2 := look_map T2.bt_ok hl
  unfold zeroT at h1
  unfold structPl at h2
  unfold Program.built
  cases hi : P.info? t with
  | none => rw [hi] at h1; cases h1
  | some i =>
    rw [hi] at h1
    have h3 : i.zero = some (.agg zc) := h1
    cases hu : P.underlying t with
    | none => rw [hu] at h2; cases h2
    | some dd =>
      rw [hu] at h2
      cases dd <;> try (cases h2; done)
      rename_i fs
      have h4 : fs.toList.mapM (fun f => (P.info? f.type).map fun i => (f.offset, i.size)) = some pl := h2
      simp only [h3, h4]
      have h5 := fillL_spec (place := (pl[·]?)) (cs := zc) hf
      simpa [Value.cells] using h5

theorem VL_buildSliceT (T : Tab P) (T2 : Tab2 P) {t e len size bytes : Nat} {parts : List (Nat × Operand)} {ps : List (Nat × Value)} {z : Value} {zl cs : List Value} (ht : look T.sl t = some (e, size, bytes)) (hp : partsV env parts = some ps) (hz : look T2.zt e = some z) (hzc : z.cells = zl.toArray)
    (hf : fillL (fun i => some (i * size, size)) (repZ len zl) ps = some cs) (hn : Nat.ble (d + 1) n = true) (hl : (Nat.blt 0 (len * size) && Nat.beq zl.length size && Nat.ble (len * size) 1000000) = true)
    (h : ∀ g, VL P none n B w0 ops Q rest ((d, .slice (some ⟨g, 0, none⟩) len len) :: env) (blk g (.cells cs.toArray e (0, 0)) :: H)) : VL P none n B w0 ops Q (⟨some d, .buildSlice t len parts.toArray, ty, pos, after, none⟩ :: rest) env H := by
  simp only [Bool.and_eq_true] at hl
  obtain ⟨⟨hl1, hl2⟩, hl3⟩ := hl
  have hl1' : 0 < len * size := by simpa using hl1
  have hl2' : zl.length = size := Nat.eq_of_beq_eq_true hl2
  have hl3' := Nat.le_of_ble_eq_true hl3
  obtain ⟨hut, inf, z', hinf, hz', _, hsi, _⟩ := sliceT_spec (T.slic ht)
  have h1 := look_map T2.zt_ok hz
  unfold zeroT at h1
  rw [hinf] at h1
  have h3 : inf.zero = some z := h1
  refine VL_buildSlice (partsV_spec hp) (fun w => run_buildSlice w t e len _ cs.toArray inf z hut hinf h3 (by rw [hsi]; omega) (by rw [hsi]; omega) ?_) hn h
  have hzs : z.cells.size = size := by rw [hzc]; simpa using hl2'
  have hpos : 0 < z.cells.size := by
    rcases Nat.eq_zero_or_pos size with h0 | h0
    · rw [h0, Nat.mul_zero] at hl1'; omega
    · omega
  rw [hsi]
  have h5 := repZ_arr z.cells hpos len
  rw [hzs] at h5
  rw [show (fun x => z.cells[x % z.cells.size]!) = fun x => z.cells[x % size]! by rw [hzs], h5, hzc]
  simpa using fillL_spec (place := fun i => some (i * size, size)) (cs := (repZ len zl).toArray) (by simpa using hf)

/-- A field's address of an element of a row that is read. -/
theorem VL_field_row (T : Tab P) {α : Type} {f : α → List Value} {l : List α} {s fl k i q : Nat} {x : Operand} {A : Option Addr} (hx : evo env x = some (sptr A (i * q))) (hr : Rd B w0 H A (l.flatMap f)) (hq : ∀ a, (f a).length = q) (h0 : Nat.blt 0 q = true) (hf : look2 T.fo s fl = some k) (hn : Nat.ble (d + 1) n = true) (hi : i < l.length)
    (h : VL P m n B w0 ops Q rest ((d, sptr A (i * q + k)) :: env) H) : VL P m n B w0 ops Q (⟨some d, .fieldAddr s x fl, ty, pos, after, none⟩ :: rest) env H := by
  refine VL_field_rd T hx hr ?_ hf hn h
  rw [length_flat hq]
  have h0' : 0 < q := by simpa using h0
  calc i * q < i * q + q := by omega
    _ = (i + 1) * q := by rw [Nat.add_mul]; omega
    _ ≤ l.length * q := Nat.mul_le_mul_right q hi

/-! ### Calls that leave the pieces as they were, in any order -/
theorem run_callv {a : Act} (ha : Fits n a env) {f : Nat} {x : Operand} {args : List Operand} {tys : Array TypeId} {vs cs : List Value} (hx : evo env x = some (.func (.func f) #[] cs.toArray))
    (hc : ∀ xs w, (callFunc f xs).run P w = .ok (.enter f xs) w) (hargs : Args env args vs) (w : World) :
    (execOp a.eval ⟨some d, .call ⟨.value x, args.toArray, tys⟩, ty, pos, after, none⟩).run P w = .ok (.enter f (vs ++ cs).toArray) w := by
  have hmap : args.toArray.map a.eval = vs.toArray := by rw [List.map_toArray, map_evo ha _ _ hargs]
  simp only [execOp, resolve, ha.eval hx, hmap, Deferred.ofValue, Sem.run_bind, Sem.run_pure, Result.andThen_ok, invoke]
  simpa using hc ((vs ++ cs).toArray) w
theorem VL_callvt {f : Nat} {x : Operand} {args : List Operand} {tys : Array TypeId} {vs cs : List Value} {v : Value} (hx : evo env x = some (.func (.func f) #[] cs.toArray))
    (hc : ∀ xs w, (callFunc f xs).run P w = .ok (.enter f xs) w) (hargs : Args env args vs) (hn : Nat.ble (d + 1) n = true)
    (hcall : ∀ w, St B w0 H w → Calls P f (vs ++ cs).toArray w (Post B w0 fun u K => u = v ∧ K = H))
    (h : VL P none n B w0 ops Q rest ((d, v) :: env) H) :
    VL P none n B w0 ops Q (⟨some d, .call ⟨.value x, args.toArray, tys⟩, ty, pos, after, none⟩ :: rest) env H :=
  VL_callv _ hx hc hargs hn hcall (by rintro _ _ ⟨rfl, rfl⟩; exact h)
theorem VL_callvq {f : Nat} {x : Operand} {args : List Operand} {tys : Array TypeId} {vs cs : List Value} {v : Value} (hx : evo env x = some (.func (.func f) #[] cs.toArray))
    (hc : ∀ xs w, (callFunc f xs).run P w = .ok (.enter f xs) w) (hargs : Args env args vs) (hn : Nat.ble (d + 1) n = true)
    (hcall : ∀ w, St B w0 H w → Calls P f (vs ++ cs).toArray w (Post B w0 fun u K => u = v ∧ K = H))
    (h : VL P (some none) n B w0 ops Q rest ((d, v) :: env) H) :
    VL P (some none) n B w0 ops Q (⟨some d, .call ⟨.value x, args.toArray, tys⟩, ty, pos, after, none⟩ :: rest) env H := by
  refine ⟨fun a ha => wpQuiet_step fun K hK => ?_⟩
  rw [if_pos (by simp [Region.wanted])]
  refine ⟨v, fun w hw => ?_, hK _ ?_⟩
  · unfold Oper.quietAt
    rw [run_callv ha hx hc hargs]
    refine ⟨rfl, (hcall w hw).mono ?_⟩
    rintro e w' ⟨_, _, rfl, hst, rfl, rfl⟩
    exact ⟨rfl, hst⟩
  · exact h.run _ (ha.put (Nat.le_of_ble_eq_true hn) v)
theorem VL_makeFuncq {fn : Fn} {caps : List Operand} {cs : List Value} (hc : Args env caps cs) (hn : Nat.ble (d + 1) n = true) (h : VL P (some none) n B w0 ops Q rest ((d, .func fn #[] cs.toArray) :: env) H) :
    VL P (some none) n B w0 ops Q (⟨some d, .makeFunc fn #[] caps.toArray, ty, pos, after, none⟩ :: rest) env H := by
  refine ⟨fun a ha => wpQuiet_step fun K hK => ?_⟩
  rw [if_pos (by simp [Region.wanted])]
  refine ⟨.func fn #[] cs.toArray, fun w hw => ?_, hK _ ?_⟩
  · have hmap : caps.toArray.map a.eval = cs.toArray := by rw [List.map_toArray, map_evo ha _ _ hc]
    unfold Oper.quietAt
    simp [execOp, Instr.makeFunc, hmap]
    exact ⟨rfl, rfl⟩
  · exact h.run _ (ha.put (Nat.le_of_ble_eq_true hn) _)

/-- What writes, calls apart. -/
def effW (o : Oper) : Bool := eff o && match o.op with | .call ⟨.value _, _, _⟩ => false | .makeFunc _ _ _ => false | _ => true
theorem VC_drawc {id : Nat} {l : List Oper} (hq : (l.all fun o => !effW o) = true) (hm : P.follows .mixedOrders = true) (hB : Region.lexB .any l.toArray = true) (h : VL P (some none) n B w0 l.toArray Q l env H) : VC P n B w0 (.region id l.toArray true) Q env H :=
  VC_draw hm (by have := hq; exact hB) h

/-- What a call off the shelf says, in these words. -/
theorem post_same {f : Nat} {xs : Array Value} {w : World} {v : Value} (hw : St B w0 H w) (h : Calls P f xs w fun e w' => e = .returned v ∧ w' = w) : Calls P f xs w (Post B w0 fun u K => u = v ∧ K = H) :=
  h.mono (by rintro e w' ⟨rfl, rfl⟩; exact ⟨v, H, rfl, hw, rfl, rfl⟩)
end
end Go.Eng
