/- An engine for walks, part 13: four results, functions with bound receivers, maps of functions, slices against nil. -/
import Derived.Test.YtfobgjhjigkigaaE12
namespace Go.Eng
open Go.RowKit
open Go.ChangeMaps (setBlock)
section
variable {P : Program} {m : Mode} {n B : Nat} {w0 : World} {ops : Array Oper} {Q : Exit → Act → World → Prop} {rest : List Oper} {env : Env} {H : List HP} {d : Nat} {ty : TypeId} {pos : String} {after : Array Edge} {x y : Operand}

theorem VQ_retc4 (T : Tab P) {fn : Func} {Φ : Value → List HP → Prop} {p g k u s t rt : Nat} {x y z : Value} {cs : Array Value} {tt : TypeId} {fr : Nat × Nat} (hr : fn.results = #[.cell p rt, .tmp u, .tmp s, .tmp t]) (hp : get env p = some (.pointer (some ⟨g, 0, none⟩))) (hu : get env u = some x) (hs : get env s = some y) (ht' : get env t = some z)
    (hm : blk g (.cells cs tt fr) ∈ H) (ht : look T.ag rt = some k) (hk : cs.size = k) {H2 : List HP} (hH : ∀ w, St B w0 H w → St B w0 H2 w) (h : Φ (.tuple #[.agg cs, x, y, z]) H2) : VQ n B w0 (bodyPost P fn (Post B w0 Φ)) .ret env H := by
  refine ⟨fun a w ha hw => bodyPost_ret (v := .tuple #[.agg cs, x, y, z]) ?_ ha.defers ⟨_, H2, rfl, hH w hw, h⟩⟩
  have hp' := ha.slot p _ hp
  simp [results, hr, Array.getD_eq_getD_getElem?, hp', ha.slot u _ hu, ha.slot s _ hs, ha.slot t _ ht', asAddr, run_load_blk T (hw.blk hm).1 ht hk]

theorem VL_insNew {t kt et g clock : Nat} {es : Ents} {u : Operand} {k : Int} {v : Value} {K : List HP} (hx : evo env x = some (.map (some g))) (hy : evo env y = some (.int .i64 k)) (hv : evo env u = some v) (ht : mapT P t kt et = true)
    (hu : Upd (blk g (mobj es clock)) (blk g (mobj (es ++ [(k, v, clock)]) (clock + 1))) H K) (hk : mget es k = none)
    (h : VL P none n B w0 ops Q rest env K) : VL P none n B w0 ops Q (⟨none, .insert t x y u, ty, pos, after, none⟩ :: rest) env H := by
  obtain ⟨h1, h2⟩ := mapT_spec ht
  refine VL_skip rfl rfl (fun a w ha hw => ⟨setBlock w g (mobj (es ++ [(k, v, clock)]) (clock + 1)), ?_, hw.setBlock hu⟩) h
  have hb : w.heap[g]? = some (mobj es clock) := by
    obtain ⟨L1, L2, rfl, _⟩ := hu
    exact (hw.blk (by simp)).1
  have hb' := hb
  unfold mobj at hb
  simp [execOp, ha.eval hx, ha.eval hy, ha.eval hv, Instr.mapUpdate, run_underlying h1, getObj, Sem.run, hb, run_checkInt _ h2, MapKept.run_findKey h2 (findNow_none 0 hk), MapKept.run_setObj_map _ hb, setBlock, mobj, toE]

theorem VL_makeFuncB {fn : Fn} {bs : List Operand} {cs : List Value} (hc : Args env bs cs) (hn : Nat.ble (d + 1) n = true) (h : VL P none n B w0 ops Q rest ((d, .func fn cs.toArray #[]) :: env) H) :
    VL P none n B w0 ops Q (⟨some d, .makeFunc fn bs.toArray #[], ty, pos, after, none⟩ :: rest) env H := by
  refine VL_op rfl rfl hn (fun a w ha hw => ⟨w, ?_, hw⟩) h
  have hmap : bs.toArray.map a.eval = cs.toArray := by rw [List.map_toArray, map_evo ha _ _ hc]
  simp [execOp, Instr.makeFunc, hmap]

/-- A call of a function with bound arguments. -/
theorem VL_callb {f : Nat} {args : List Operand} {tys : Array TypeId} {vs bs : List Value} (Φ : Value → List HP → Prop) (hx : evo env x = some (.func (.func f) bs.toArray #[]))
    (hc : ∀ xs w, (callFunc f xs).run P w = .ok (.enter f xs) w) (hargs : Args env args vs) (hn : Nat.ble (d + 1) n = true)
    (hcall : ∀ w, St B w0 H w → Calls P f (bs ++ vs).toArray w (Post B w0 Φ))
    (h : ∀ v H', Φ v H' → VL P none n B w0 ops Q rest ((d, v) :: env) H') :
    VL P none n B w0 ops Q (⟨some d, .call ⟨.value x, args.toArray, tys⟩, ty, pos, after, none⟩ :: rest) env H := by
  refine ⟨fun a ha w hw => wpList_plain rfl fun K hK => ?_⟩
  have hmap : args.toArray.map a.eval = vs.toArray := by rw [List.map_toArray, map_evo ha _ _ hargs]
  have hrun : (execOp a.eval ⟨some d, .call ⟨.value x, args.toArray, tys⟩, ty, pos, after, none⟩).run P w = .ok (.enter f (bs ++ vs).toArray) w := by
    simp only [execOp, resolve, ha.eval hx, hmap, Deferred.ofValue, Sem.run_bind, Sem.run_pure, Result.andThen_ok, invoke]
    simpa using hc ((bs ++ vs).toArray) w
  unfold Oper.wp
  rw [hrun, Oper.upon_enter]
  refine (hcall w hw).mono ?_
  rintro e w' ⟨v, H', rfl, hst, hΦ⟩
  exact hK _ _ ((h v H' hΦ).run _ (ha.put (Nat.le_of_ble_eq_true hn) v) _ hst)

def isFn (P : Program) (t : TypeId) : Bool := match P.underlying t with | some (.func _ _ _) => true | _ => false
theorem isFn_spec {t : TypeId} (h : isFn P t = true) : ∃ a b c, P.underlying t = some (.func a b c) := by
  unfold isFn at h
  split at h
  · rename_i a b c hu; exact ⟨a, b, c, hu⟩
  · cases h
theorem VL_feql_no {xt yt : TypeId} {f : Fn} {b c : Array Value} (hx : evo env x = some (.func f b c)) (hn : Nat.ble (d + 1) n = true) (hu : isFn P xt = true)
    (h : VL P m n B w0 ops Q rest ((d, .bool false) :: env) H) : VL P m n B w0 ops Q (⟨some d, .binOp .eql xt x (.const .nilFunc) yt, ty, pos, after, none⟩ :: rest) env H := by
  obtain ⟨_, _, _, hu⟩ := isFn_spec hu
  refine VL_bin hx (y := .const .nilFunc) rfl hn (fun w => by simp [eqGuard]) (fun w => ?_) h
  simp only [binOp, Op.equal]
  rw [Sem.run_bind, show Op.maxDepth = 9999 + 1 from rfl]
  unfold Op.equalIn
  simp [run_underlying hu]
theorem VL_feql_yes {xt yt : TypeId} (hx : evo env x = some .nilFunc) (hn : Nat.ble (d + 1) n = true) (hu : isFn P xt = true)
    (h : VL P m n B w0 ops Q rest ((d, .bool true) :: env) H) : VL P m n B w0 ops Q (⟨some d, .binOp .eql xt x (.const .nilFunc) yt, ty, pos, after, none⟩ :: rest) env H := by
  obtain ⟨_, _, _, hu⟩ := isFn_spec hu
  refine VL_bin hx (y := .const .nilFunc) rfl hn (fun w => by simp [eqGuard]) (fun w => ?_) h
  simp only [binOp, Op.equal]
  rw [Sem.run_bind, show Op.maxDepth = 9999 + 1 from rfl]
  unfold Op.equalIn
  simp [run_underlying hu]

def isSl (P : Program) (t : TypeId) : Bool := match P.underlying t with | some (.slice _) => true | _ => false
theorem isSl_spec {t : TypeId} (h : isSl P t = true) : ∃ e, P.underlying t = some (.slice e) := by
  unfold isSl at h
  split at h
  · rename_i e hu; exact ⟨e, hu⟩
  · cases h
theorem VL_sleql0 {xt yt : TypeId} {A : Option Addr} {k cap : Nat} (hx : evo env x = some (.slice A k cap)) (hn : Nat.ble (d + 1) n = true) (hu : isSl P xt = true)
    (h : VL P m n B w0 ops Q rest ((d, .bool A.isNone) :: env) H) : VL P m n B w0 ops Q (⟨some d, .binOp .eql xt x (.const (.slice none 0 0)) yt, ty, pos, after, none⟩ :: rest) env H := by
  obtain ⟨e, hu⟩ := isSl_spec hu
  refine VL_bin hx (y := .const (.slice none 0 0)) rfl hn (fun w => by simp [eqGuard]) (fun w => ?_) h
  simp only [binOp, Op.equal]
  rw [Sem.run_bind, show Op.maxDepth = 9999 + 1 from rfl]
  unfold Op.equalIn
  cases A <;> simp [run_underlying hu]
end
end Go.Eng
