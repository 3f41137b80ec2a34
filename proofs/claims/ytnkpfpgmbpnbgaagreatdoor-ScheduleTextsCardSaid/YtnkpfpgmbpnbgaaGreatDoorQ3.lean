/- Lemmas for the claim, part 3. -/
import Derived.Lib.Builder
import Derived.Lib.AtoiAllCases
import Derived.ProofKit
import Derived.Below
import Derived.ChangeSame
import Derived.Carry
import Derived.Test.YtnkpfpgmbpnbgaaGreatDoorQ2

/- Walks: At. -/
namespace Go.Proofs.YtnkpfpgmbpnbgaaGreatDoor
open Go.RowKit Go.Eng Go.Nw

/-- The cells of a slot that an iterator handed over so far. -/
def celsIn (s : Sch) (slot : Int) (k : Nat) : List Cel := ((inI s slot s.cells.length).take k).map (celAt s)
theorem celsIn_all (s : Sch) (slot : Int) : celsIn s slot (inXs s slot).length = s.cells.filter fun c => decide (c.1 = slot) := by
  have e : s.cells = (List.range s.cells.length).map (celAt s) := by
    apply List.ext_getElem?
    intro i
    by_cases h : i < s.cells.length
    · rw [celAt_some h, List.getElem?_map, List.getElem?_range h]; rfl
    · rw [List.getElem?_eq_none (by omega), List.getElem?_eq_none (by simpa using h)]
  unfold celsIn inXs
  rw [List.length_map, List.take_length]
  conv => rhs; rw [e]
  rw [List.filter_map]
  rfl
theorem celsIn_step {s : Sch} {slot : Int} {k i : Nat} (h : (inI s slot s.cells.length)[k]? = some i) : celsIn s slot (k + 1) = celsIn s slot k ++ [celAt s i] := by
  unfold celsIn
  rw [List.take_add_one, h, List.map_append]; rfl
theorem inXs_get {s : Sch} {slot : Int} {k : Nat} {args : List Value} (h : (inXs s slot)[k]? = some args) : ∃ i, (inI s slot s.cells.length)[k]? = some i ∧ i < s.cells.length ∧ args = [.int .i64 (i : Int)] := by
  unfold inXs at h
  rw [List.getElem?_map] at h
  cases hi : (inI s slot s.cells.length)[k]? with
  | none => rw [hi] at h; cases h
  | some i =>
    rw [hi] at h
    cases h
    exact ⟨i, rfl, (inI_mem.1 (List.mem_of_getElem? hi)).1, rfl⟩
theorem celsIn_le {s : Sch} {slot : Int} {k : Nat} : (celsIn s slot k).length ≤ s.cells.length := by
  unfold celsIn inI
  rw [List.length_map, List.length_take]
  have := List.length_filter_le (fun i => decide ((celAt s i).1 = slot)) (List.range s.cells.length)
  rw [List.length_range] at this
  omega
structure AcM where
  A : Option Addr
  cap : Nat
  l : List Cel

set_option maxRecDepth 10000 in
set_option maxHeartbeats 1000000 in
theorem at_spec (s : SchM) (slot : Int) {B : Nat} {w0 : World} {H : List HP} {w : World} (hr : Rd B w0 H s.A (s.cells.flatMap celF)) (hl : s.cells.length ≤ 1000000000000) (hw : St B w0 H w) :
    Calls Tryz.prog 23 [s.val, .int .i64 slot].toArray w (Post B w0 fun v K => ∃ A cap, v = .slice A (atE s.sch slot).length cap ∧ K = cels A cap (atE s.sch slot) :: H) := by
  refine Calls_of_VCm Tryz.func23 Tryz.ntmps23 rfl rfl hw ?_
  have e1 : s.sch.cells = s.cells := rfl
  by_cases hf : formE s.sch = true
  rotate_left
  · have hf : formE s.sch = false := by simpa using hf
    repeat' (first | ((first | apply VL_callt en53 | apply VL_callq en53); (repeat (first | exact args_nil | (apply args_cons; exact rfl))); exact rfl; exact fun _ hw => (calls_val (congrArg Value.bool hf) (fun _ hw => form_spec s hr.cons hl hw) hw)) | apply (zs1 ?_) | apply (zs2 ?_) | (apply zg1; refine zs3 ?_) | (apply zg3; refine zs8 ?_) | (apply zg6; refine zs11 ?_) | (apply zg20; refine zs48 ?_) | (apply zg23; (refine zs52 ?_; intro _)) | apply (zs65 ?_) | apply (zs68 ?_) | apply (zs69 ?_) | apply (zs70 ?_) | (apply zg27; refine zs71 ?_) | apply (zs74 ?_) | apply (zs77 ?_) | fail)
    apply VQ_st (cels none 0 [] :: H)
    · exact fun w hw => hw.tail.nilSlice _ _
    apply VQ_m
    apply VQ_ret1; exact rfl; exact rfl
    exact ⟨none, 0, by rw [atE, if_pos (.inl hf)]; rfl, by rw [atE, if_pos (.inl hf)]⟩
  have hfr := form_iff.1 hf
  have hsz : 1 ≤ s.len ∧ s.len ≤ 512 := by
    have := of_decide_eq_true hfr.sized
    exact ⟨this.1, this.2.1⟩
  by_cases h0 : slot < 0
  · skip
    repeat' (first | ((first | apply VL_callt en53 | apply VL_callq en53); (repeat (first | exact args_nil | (apply args_cons; exact rfl))); exact rfl; exact fun _ hw => (calls_val (congrArg Value.bool hf) (fun _ hw => form_spec s hr.cons hl hw) hw)) | apply (zs1 ?_) | apply (zs2 ?_) | (apply zg1; refine zs4 ?_) | (apply zg3; refine zs8 ?_) | (apply zg6; refine zs12 ?_) | (apply (zs17 ?_ ?_) <;> intro _ <;> try (exfalso; omega)) | (apply zg20; refine zs47 ?_) | (apply zg23; (refine zs52 ?_; intro _)) | apply (zs65 ?_) | apply (zs68 ?_) | apply (zs69 ?_) | apply (zs70 ?_) | (apply zg27; refine zs71 ?_) | apply (zs74 ?_) | apply (zs77 ?_) | fail)
    apply VQ_st (cels none 0 [] :: H)
    · exact fun w hw => hw.tail.nilSlice _ _
    apply VQ_m
    apply VQ_ret1; exact rfl; exact rfl
    exact ⟨none, 0, by rw [atE, if_pos (.inr h0)]; rfl, by rw [atE, if_pos (.inr h0)]⟩
  obtain ⟨tz, hto⟩ : ∃ tz, slot % s.len = tz := ⟨_, rfl⟩
  have hat : atE s.sch slot = s.cells.filter fun c => decide (c.1 = tz) := by
    rw [atE, if_neg (by simp [hf, h0]), ← hto, ← Int.tmod_eq_emod_of_nonneg (by omega)]; rfl
  rw [hat]
  repeat' (first | ((first | apply VL_callt en53 | apply VL_callq en53); (repeat (first | exact args_nil | (apply args_cons; exact rfl))); exact rfl; exact fun _ hw => (calls_val (congrArg Value.bool hf) (fun _ hw => form_spec s hr.cons hl hw) hw)) | apply (zs1 ?_) | apply (zs2 ?_) | (apply zg1; refine zs4 ?_) | (apply zg3; refine zs8 ?_) | (apply zg6; refine zs12 ?_) | (apply (zs17 ?_ ?_) <;> intro _ <;> try (exfalso; omega)) | (apply zg20; refine zs47 ?_) | (apply zg23; (refine zs52 ?_; intro _)) | (apply zg24; (refine zs54 ?_; intro _)) | apply (zs65 ?_) | apply (zs68 ?_) | apply (zs69 ?_) | apply (zs70 ?_) | (apply zg27; refine zs72 ?_) | apply (zs76 ?_) | fail)
  rename_i gB _ gO
  apply VC_held [0, 1, 2, 3, 4] [5] [true, true]
  kernel_rfl
  kernel_rfl
  (repeat (first | with_reducible exact split_nil | with_reducible apply split_t | with_reducible apply split_f))
  (simp only [pickOps, nthO]; rfl)
  (simp only [pickOps, nthO]; rfl)
  repeat' (first | apply (zs1 ?_) | (apply zg2; refine zs6 ?_) | (apply zg3; first | refine zs7 ?_ | refine zs8 ?_) | (apply zg17; refine zs37 ?_) | (apply VL_nilh; (repeat (first | with_reducible exact app_nil | with_reducible apply app_cons | exact app_niln _))) | apply (zs93 ?_) | fail)
  apply VL_call _ en65
  (repeat (first | exact args_nil | (apply args_cons; exact rfl)))
  exact rfl
  exact fun _ hw => (inS_spec s _ (hw))
  rintro _ _ ⟨gs, gt, rfl, rfl⟩
  rw [hto]
  repeat' (first | apply (zs65 ?_) | apply (zs68 ?_) | apply (zs73 ?_) | apply (zs94 ?_) | fail)
  have hr4 : Rd B w0 (intB gt tz :: schB gs s :: schB gB s :: H) s.A (s.cells.flatMap celF) := hr.cons.cons.cons
  refine VC_nilSlice 51 5 ?_
  refine VC_rangeFunc (gf := 102) (lb := [.pointer (some ⟨gs, 0, none⟩), .pointer (some ⟨gt, 0, none⟩)]) (xs := inXs s.sch tz) (intB gt tz :: schB gs s :: schB gB s :: H) (fun x : AcM => [blk gO (.cells #[.slice x.A x.l.length x.cap] 28 (0, 0)), cels x.A x.cap x.l]) (fun i x => x.l = celsIn s.sch tz i) (fun _ _ => False) ⟨none, 0, []⟩ rfl en102 (in1_iter s tz gs gt hr4 hl (.tail _ (.head _)) (.head _)) rfl ?_ (by kernel_rfl) (by kernel_rfl) ?_ rfl ?_ ?_ (fun _ _ _ h => h.elim)
  · intro args h
    obtain ⟨k, hk⟩ := List.mem_iff_getElem?.1 h
    obtain ⟨i, _, _, rfl⟩ := inXs_get hk
    rfl
  · unfold schB intB cels
    simp only [List.cons_append, List.nil_append, List.length_nil, List.flatMap_nil]
    exact fun w hw => hw.perm (.trans (.cons _ (.cons _ (.swap _ _ _))) (.trans (.cons _ (.swap _ _ _)) (.swap _ _ _)))
  · rintro l k args R ⟨A, cap, xs⟩ hk hI
    obtain ⟨i, hi, hlt, rfl⟩ := inXs_get hk
    have hlt2 : i < s.cells.length := hlt
    dsimp only at hI ⊢
    dsimp only [putEnv, List.cons_append, List.nil_append]
    have hget : s.cells[i]? = some (celAt s.sch i) := celAt_some (s := s.sch) hlt
    repeat' (first | apply (zs2 ?_) | apply (zs65 ?_) | apply (zs70 ?_) | fail)
    apply VQ_assign rem_here
    intro R'
    unfold cels intB schB
    refine VC_st (R' :: blk gO (.cells #[.slice A xs.length cap] 28 (0, 0)) :: sl 51 5 A xs.length cap (xs.flatMap celF) :: blk gt (.cells #[.int .i64 tz] 3 (0, 0)) :: blk gs (.cells #[.int .i64 s.len, .int .i64 s.off, .slice s.A s.cells.length s.cap] 30 (0, 0)) :: blk gB (.cells #[.int .i64 s.len, .int .i64 s.off, .slice s.A s.cells.length s.cap] 30 (0, 0)) :: [many H]) (fun w hw => hw.perm (.cons _ (.cons _ (.cons _ (.cons _ (.cons _ (.cons _ (.closeT _)))))))) ?_
    have hrt : Rd B w0 [many H] s.A (s.cells.flatMap celF) := hr.tail
    repeat' (first | apply (zs73 ?_) | fail)
    apply VC_heldH [0, 1, 2, 3, 4, 5, 6] [7, 8] [false, true, false, false, false, true, true]
    kernel_rfl
    kernel_rfl
    (repeat (first | with_reducible exact split_nil | with_reducible apply split_t | with_reducible apply split_f))
    (simp only [pickOps, nthO]; rfl)
    (simp only [pickOps, nthO]; rfl)
    have hxl : xs.length ≤ 512 := by
      have h1 := celsIn_le (s := s.sch) (slot := tz) (k := k)
      rw [← hI] at h1
      exact Nat.le_trans h1 hfr.few
    repeat' (first | apply (zs1 ?_) | (apply zg2; refine zs6 ?_) | (apply zg3; first | refine zs7 ?_ | refine zs61 ?_) | (apply zg5; refine zs57 ?_) | (apply zg21; (refine zs49 ?_; intro _ _)) | (apply zg22; refine zs50 ?_) | (apply zg26; (refine zs56 ?_; intro _)) | apply (zs65 ?_) | (apply VL_nilh; (repeat (first | with_reducible exact app_nil | with_reducible apply app_cons | exact app_niln _))) | apply (zs79 ?_) | apply (zs87 ?_) | (apply VQ_heldq; (repeat (first | with_reducible exact pull_nil | (with_reducible apply pull_cons; (repeat (first | with_reducible exact rem_here | with_reducible apply rem_there)))))) | apply (zs93 ?_) | apply (zs94 ?_) | fail)
    rename_i A' cap'
    apply VQ_body (AcM.mk A' cap' (xs ++ [celAt s.sch i]))
    · show xs ++ [celAt s.sch i] = celsIn s.sch tz (k + 1)
      rw [celsIn_step hi, hI]
    · intro w hw
      rw [cels_snocR, len_snoc xs (celAt s.sch i)] at hw
      unfold cels at hw
      have h5 : St B w0 (R' :: blk gO (.cells #[.slice A' (xs ++ [celAt s.sch i]).length cap'] 28 (0, 0)) :: sl 51 5 A' (xs ++ [celAt s.sch i]).length cap' ((xs ++ [celAt s.sch i]).flatMap celF) :: blk gt (.cells #[.int .i64 tz] 3 (0, 0)) :: blk gs (.cells #[.int .i64 s.len, .int .i64 s.off, .slice s.A s.cells.length s.cap] 30 (0, 0)) :: blk gB (.cells #[.int .i64 s.len, .int .i64 s.off, .slice s.A s.cells.length s.cap] 30 (0, 0)) :: [many H]) w := by
        revert w
        (intro w hw; refine hw.perm ?_; focus repeat (first | with_reducible exact Perm.refl _ | (with_reducible apply perm_take; focus ((repeat (first | with_reducible exact rem_here | with_reducible apply rem_there)); done)) | with_reducible apply Perm.dropK))
      exact h5.perm (.cons _ (.cons _ (.cons _ (.cons _ (.cons _ (.cons _ (.openT _)))))))
  · rintro D ⟨A, cap, xs⟩ hI
    dsimp only at hI ⊢
    rw [celsIn_all, e1] at hI
    subst hI
    dsimp only [List.cons_append, List.nil_append]
    unfold cels intB schB
    repeat' (first | apply (zs2 ?_) | (apply zg3; refine zs7 ?_) | apply (zs65 ?_) | apply (zs68 ?_) | apply (zs69 ?_) | apply (zs70 ?_) | apply (zs74 ?_) | apply (zs79 ?_) | fail)
    apply VQ_mark rem_here
    apply VQ_m
    apply VQ_st (cels A cap (s.cells.filter fun c => decide (c.1 = tz)) :: H)
    · unfold cels
      (intro w hw; refine hw.perm ?_; focus repeat (first | with_reducible exact Perm.refl _ | (with_reducible apply perm_take; focus ((repeat (first | with_reducible exact rem_here | with_reducible apply rem_there)); done)) | with_reducible apply Perm.dropK))
    apply VQ_ret1; exact rfl; exact rfl
    exact ⟨A, cap, rfl, rfl⟩
end Go.Proofs.YtnkpfpgmbpnbgaaGreatDoor

/- Walks: strings.Builder; a line of a text; Print. -/
namespace Go.Proofs.YtnkpfpgmbpnbgaaGreatDoor
open Go.RowKit Go.Eng Go.Nw

section
variable {m : Eng.Mode} {n : Shp} {B d : Nat} {w0 : World} {ops : Array Oper} {Q : Exit → Act → World → Prop} {rest : List Oper} {env : Env} {H : List HP} {ty : TypeId} {pos : String} {after : Array Edge} {x y : Operand}
theorem VL_cat (a b : List UInt8) (hx : evo env x = some (strV a)) (hy : evo env y = some (strV b)) (hn : Nat.ble (d + 1) n.k = true) (hb : a.length + b.length ≤ 1000000) (h : VL Tryz.prog m n B w0 ops Q rest ((d, strV (a ++ b)) :: env) H) :
    VL Tryz.prog m n B w0 ops Q (⟨some d, .binOp .add 9 x y 9, ty, pos, after, none⟩ :: rest) env H := by
  have hs : ∀ l : List UInt8, (⟨l.toArray⟩ : ByteArray).size = l.length := fun l => by simp [ByteArray.size]
  refine VL_scat hx hy hn (by rw [hs, hs]; omega) ?_
  have e : (⟨a.toArray⟩ : ByteArray) ++ ⟨b.toArray⟩ = ⟨(a ++ b).toArray⟩ := by
    apply ByteArray.ext
    simp
  rw [e]
  exact h
theorem VL_toUns {g : Nat} {cs : Array Value} {fr : Nat × Nat} (hx : evo env x = some (.pointer (some ⟨g, 0, none⟩))) (hm : blk g (.cells cs 83 fr) ∈ H) (hc : cs.size = 2) (hn : Nat.ble (d + 1) n.k = true)
    (h : VL Tryz.prog none n B w0 ops Q rest ((d, .pointer (some ⟨g, 0, none⟩)) :: env) H) : VL Tryz.prog none n B w0 ops Q (⟨some d, .convert 80 138 x, ty, pos, after, none⟩ :: rest) env H := by
  refine VL_opE (fun v K' => v = .pointer (some ⟨g, 0, none⟩) ∧ K' = H) rfl rfl hn (fun a w ha hw => ?_) (by rintro _ _ ⟨rfl, rfl⟩; exact h)
  have hb := (hw.blk hm).1
  obtain ⟨j, hj, hjs⟩ := Option.map_eq_some_iff.1 (show (Tryz.prog.info? 83).map (·.size) = some 2 by kernel_rfl)
  have hr := Lib.run_to_unsafe (P := Tryz.prog) w ⟨g, 0, none⟩ Tryz.underlying80 Tryz.underlying138 hj (by rw [hjs]; decide) (show w.shape? g = some (83, 2) by simp [World.shape?, hb, hc]) (Nat.zero_lt_succ 1)
  exact ⟨_, H, w, by simp [execOp, ha.eval hx, hr], hw, rfl, rfl⟩
theorem VL_ofUns {g : Nat} {cs : Array Value} {fr : Nat × Nat} (hx : evo env x = some (.pointer (some ⟨g, 0, none⟩))) (hm : blk g (.cells cs 83 fr) ∈ H) (hc : cs.size = 2) (hn : Nat.ble (d + 1) n.k = true)
    (h : VL Tryz.prog none n B w0 ops Q rest ((d, .pointer (some ⟨g, 0, none⟩)) :: env) H) : VL Tryz.prog none n B w0 ops Q (⟨some d, .convert 138 80 x, ty, pos, after, none⟩ :: rest) env H := by
  refine VL_opE (fun v K' => v = .pointer (some ⟨g, 0, none⟩) ∧ K' = H) rfl rfl hn (fun a w ha hw => ?_) (by rintro _ _ ⟨rfl, rfl⟩; exact h)
  have hb := (hw.blk hm).1
  obtain ⟨j, hj, hjs⟩ := Option.map_eq_some_iff.1 (show (Tryz.prog.info? 83).map (·.size) = some 2 by kernel_rfl)
  have hr := Lib.run_from_unsafe (P := Tryz.prog) w ⟨g, 0, none⟩ Tryz.underlying138 Tryz.underlying80 hj (show w.shape? g = some (83, 2) by simp [World.shape?, hb, hc]) (by kernel_rfl)
  exact ⟨_, H, w, by simp [execOp, ha.eval hx, hr], hw, rfl, rfl⟩
theorem VL_noEsc {v : Value} {tys : Array TypeId} (hx : evo env x = some v) (hn : Nat.ble (d + 1) n.k = true) (h : VL Tryz.prog none n B w0 ops Q rest ((d, v) :: env) H) :
    VL Tryz.prog none n B w0 ops Q (⟨some d, .call ⟨.value (.func 132), #[x], tys⟩, ty, pos, after, none⟩ :: rest) env H := by
  refine VL_opE (fun u K' => u = v ∧ K' = H) rfl rfl hn (fun a w ha hw => ⟨v, H, w, ?_, hw, rfl, rfl⟩) (by rintro _ _ ⟨rfl, rfl⟩; exact h)
  have hr := run_callFunc_extern (P := Tryz.prog) Tryz.func132 (by kernel_rfl) (by kernel_rfl) (by kernel_rfl) (e := Extern.AbiNoEscape.same) (by kernel_rfl) #[v] w
  have he : a.eval (.func 132) = .func (.func 132) #[] #[] := rfl
  simp [execOp, resolve, invoke, ha.eval hx, he, Deferred.ofValue, hr, Lib.run_noEscape, Result.andThen]
theorem VL_pneqs {g : Addr} (hx : evo env x = some (.pointer (some g))) (hy : evo env y = some (.pointer (some g))) (hn : Nat.ble (d + 1) n.k = true) (h : VL Tryz.prog m n B w0 ops Q rest ((d, .bool false) :: env) H) :
    VL Tryz.prog m n B w0 ops Q (⟨some d, .binOp .neq 80 x y 80, ty, pos, after, none⟩ :: rest) env H := by
  obtain ⟨j, hj, hjs⟩ := Option.map_eq_some_iff.1 (show (Tryz.prog.info? 83).map (·.size) = some 2 by kernel_rfl)
  exact VL_bin hx hy hn (fun _ => rfl) (fun w => Lib.run_neq_ptr_same w g Tryz.underlying80 hj) h
end
set_option maxRecDepth 10000 in
theorem copyCheck_spec (b : Nat) (p v : Value) (hp : p = .pointer none ∨ p = .pointer (some ⟨b, 0, none⟩)) {B : Nat} {w0 : World} {H : List HP} {w : World} (hw : St B w0 (blk b (.cells #[p, v] 83 (0, 0)) :: H) w) :
    Calls Tryz.prog 95 [.pointer (some ⟨b, 0, none⟩)].toArray w (Post B w0 fun u K => u = .tuple #[] ∧ K = blk b (.cells #[.pointer (some ⟨b, 0, none⟩), v] 83 (0, 0)) :: H) := by
  refine Calls_of_VC Tryz.func95 Tryz.ntmps95 rfl rfl hw ?_
  rcases hp with rfl | rfl
  · skip
    repeat' (first | (apply VL_peql0; exact rfl; exact rfl; kernel_rfl) | (apply VL_toUns; exact rfl; (focus repeat (first | with_reducible exact List.mem_cons_self | with_reducible apply List.mem_cons_of_mem | assumption)); exact rfl; exact rfl) | (apply VL_ofUns; exact rfl; (focus repeat (first | with_reducible exact List.mem_cons_self | with_reducible apply List.mem_cons_of_mem | assumption)); exact rfl; exact rfl) | (apply VL_noEsc; exact rfl; exact rfl) | (apply VL_pneqs; exact rfl; exact rfl; exact rfl) | apply (zs1 ?_) | apply (zs5 ?_) | (apply zg2; refine zs6 ?_) | (apply zg3; refine zs7 ?_) | (apply zg22; refine zs50 ?_) | apply (zs65 ?_) | apply (zs68 ?_) | apply (zs69 ?_) | apply (zs70 ?_) | (apply zg27; refine zs71 ?_) | fail)
    apply VQ_end0; exact rfl; exact ⟨rfl, rfl⟩
  · skip
    repeat' (first | (apply VL_peql0; exact rfl; exact rfl; kernel_rfl) | (apply VL_pneqs; exact rfl; exact rfl; exact rfl) | apply (zs1 ?_) | apply (zs5 ?_) | (apply zg2; refine zs6 ?_) | (apply zg3; refine zs7 ?_) | apply (zs65 ?_) | apply (zs68 ?_) | apply (zs69 ?_) | apply (zs70 ?_) | (apply zg27; refine zs72 ?_) | apply (zs76 ?_) | fail)
    apply VQ_end0; exact rfl; exact ⟨rfl, rfl⟩
def bdP (b : Nat) (p : Value) (A : Option Addr) (cap : Nat) (l : List UInt8) (H : List HP) : List HP := blk b (.cells #[p, .slice A l.length cap] 83 (0, 0)) :: sl 5 1 A l.length cap (Lib.byteCells l) :: H
set_option maxRecDepth 10000 in
theorem write_spec (b : Nat) (p : Value) (hp : p = .pointer none ∨ p = .pointer (some ⟨b, 0, none⟩)) (A : Option Addr) (cap : Nat) (l s : List UInt8) (hl : l.length + s.length ≤ 1000000) {B : Nat} {w0 : World} {H : List HP} {w : World} (hw : St B w0 (bdP b p A cap l H) w) :
    Calls Tryz.prog 54 [.pointer (some ⟨b, 0, none⟩), strV s].toArray w (Post B w0 fun u K => u = .tuple #[.int .i64 s.length, .nilIface] ∧ ∃ A' cap', K = bdP b (.pointer (some ⟨b, 0, none⟩)) A' cap' (l ++ s) H) := by
  have hs : (⟨s.toArray⟩ : ByteArray).size = s.length := by simp [ByteArray.size]
  refine Calls_of_VC Tryz.func54 Tryz.ntmps54 rfl rfl hw ?_
  unfold bdP
  repeat' (first | apply (zs1 ?_) | apply (zs2 ?_) | apply (zs65 ?_) | apply (zs68 ?_) | apply (zs69 ?_) | apply (zs70 ?_) | fail)
  apply VL_call _ en95
  (repeat (first | exact args_nil | (apply args_cons; exact rfl)))
  exact rfl
  exact fun _ hw => (copyCheck_spec b p _ hp (hw))
  rintro _ _ ⟨rfl, rfl⟩
  repeat' (first | (apply VL_appendStr T (e := 5); exact rfl; exact rfl; exact rfl; kernel_rfl; exact rfl; exact rfl; (intro _ _; (repeat (first | with_reducible exact Upd.here _ | with_reducible apply Upd.there))); (rw [hs]; omega); intro A' cap') | apply (zs1 ?_) | apply (zs2 ?_) | apply (zs5 ?_) | (apply zg2; refine zs6 ?_) | (apply zg3; refine zs7 ?_) | (apply zg4; refine zs14 ?_) | (apply zg22; refine zs50 ?_) | apply (zs65 ?_) | apply (zs68 ?_) | apply (zs69 ?_) | apply (zs70 ?_) | apply (zs74 ?_) | fail)
  have e1 : Lib.byteCells l ++ Lib.strCells ⟨s.toArray⟩ = Lib.byteCells (l ++ s) := by
    unfold Lib.byteCells Lib.strCells
    rw [List.map_append]
  have e2 : l.length + (⟨s.toArray⟩ : ByteArray).size = (l ++ s).length := by rw [hs, List.length_append]
  apply VQ_ret2; exact rfl; exact rfl; exact rfl
  refine ⟨by rw [hs], A', cap', ?_⟩
  rw [e1, e2]
theorem bdP_is {b : Nat} {p : Value} {A : Option Addr} {cap : Nat} {l : List UInt8} {B : Nat} {w0 w : World} {H : List HP} (hp : p = .pointer none ∨ p = .pointer (some ⟨b, 0, none⟩)) (hw : St B w0 (bdP b p A cap l H) w) : Lib.IsBuilder 83 5 B b (Lib.byteCells l) w := by
  obtain ⟨_, _, S1, S2, k1, k2, k3, ⟨k4, k5⟩, S3, S4, j1, j2, j3, ⟨⟨j4, j5⟩, j6⟩, j7⟩ := hw
  have hl : (Lib.byteCells l).length = l.length := by unfold Lib.byteCells; rw [List.length_map]
  have hat : Lib.BuilderAt 83 5 B b p (Lib.byteCells l) w := by
    refine ⟨(k1 b k4).1, .slice A l.length cap, k5, ⟨by rw [hl]; omega, ?_⟩, ?_⟩
    · rw [hl]
      rcases j5 with j5 | ⟨g, c, cur, e1, e2, e3⟩
      · exact .inl j5
      · refine .inr ⟨g, c, cur, e1, ?_, e3⟩
        injection e1 with e1
        exact (k2 g (j1 g (j6 _ e1))).1
    · intro e
      cases A with
      | none => cases e
      | some a =>
        simp only [Value.ownBlock, Option.some.injEq] at e
        have := j6 a rfl
        rw [e] at this
        exact k3 b k4 (j1 b this)
  rcases hp with rfl | rfl
  · exact .inl hat
  · exact .inr hat
theorem string_spec {b : Nat} {p : Value} {A : Option Addr} {cap : Nat} {l : List UInt8} {B : Nat} {w0 w : World} {H : List HP} (hp : p = .pointer none ∨ p = .pointer (some ⟨b, 0, none⟩)) (hw : St B w0 (bdP b p A cap l H) w) :
    Calls Tryz.prog 57 [.pointer (some ⟨b, 0, none⟩)].toArray w (Post B w0 fun v K => v = strV l ∧ K = []) := by
  refine (Tryz.Builder_String_any B b l w (bdP_is hp hw) hw.le).mono ?_
  rintro e w' ⟨rfl, hb⟩
  exact ⟨_, [], rfl, ⟨hw.below.trans hb, Nat.le_trans hw.le hb.size, trivial⟩, rfl, rfl⟩
theorem itoa_len {n : Int} (h : 0 ≤ n ∧ n < 10000) : (Lib.itoa n).length ≤ 4 := by
  rw [itoa_nat h.1]; exact dec_len (by omega)
theorem body_len {w : List UInt8} : ∀ {l : List Int}, (∀ n ∈ l, 0 ≤ n ∧ n < 10000) → (bodyB w l).length ≤ w.length + 5 * l.length
  | [], _ => by simp [bodyB]
  | n :: l, h => by
    have ih := body_len (w := w) (l := l) fun m hm => h m (List.mem_cons_of_mem _ hm)
    have h1 := itoa_len (h n List.mem_cons_self)
    unfold bodyB at ih ⊢
    simp only [List.flatMap_cons, List.length_append, List.length_cons] at ih ⊢
    omega
theorem body_snoc (w : List UInt8) (l : List Int) (n : Int) : bodyB w (l ++ [n]) = bodyB w l ++ ([32] ++ Lib.itoa n) := by
  unfold bodyB; simp
set_option maxRecDepth 10000 in
theorem line_spec (word : List UInt8) (l : List Int) (h : ∀ n ∈ l, 0 ≤ n ∧ n < 10000) (h5 : l.length ≤ 100) (hwd : word.length ≤ 100) {A : Option Addr} {cap B : Nat} {w0 : World} {H : List HP} {w : World} (ht : TabsB B w0) (hr : Rd B w0 H A (l.flatMap numF)) (hw : St B w0 H w) :
    Calls Tryz.prog 55 [strV word, .slice A l.length cap].toArray w (Post B w0 fun v K => v = strV (lineB word l) ∧ K = H) := by
  refine Calls_of_VC Tryz.func55 Tryz.ntmps55 rfl rfl hw ?_
  repeat' (first | apply (zs1 ?_) | apply (zs2 ?_) | (apply zg4; refine zs9 ?_) | apply (zs65 ?_) | apply (zs68 ?_) | apply (zs69 ?_) | apply (zs70 ?_) | apply (zs73 ?_) | fail)
  refine VC_loop1 (fun (i : Nat) => [(9, .int .i64 i), (8, .int .i64 l.length), (7, .slice A l.length cap), (0, strV (bodyB word (l.take i)))]) (fun _ => H) (fun i => i ≤ l.length) (fun i => l.length - i) 0 (Nat.zero_le _) ?_ (fun w hw => hw) ?_
  · have e0 : bodyB word (l.take 0) = word := by simp [bodyB]
    rw [e0]
    (repeat (first | exact sub_nil _ | (apply sub_cons; first | exact rfl | exact congrArg (fun z : Int => some (Value.int .i64 z)) (by omega))))
  intro i hi K hK
  have hbl := body_len (w := word) (l := l.take i) fun n hn => h n (List.mem_of_mem_take hn)
  have hlt0 : (l.take i).length ≤ 100 := by rw [List.length_take]; omega
  by_cases hlt : i < l.length
  · obtain ⟨n, hn⟩ : ∃ n, l[i]? = some n := ⟨_, List.getElem?_eq_getElem hlt⟩
    have hnb := h n (List.mem_of_getElem? hn)
    have hil := itoa_len hnb
    repeat' (first | ((first | apply VL_callt en96 | apply VL_callq en96); (repeat (first | exact args_nil | (apply args_cons; exact rfl))); exact rfl; exact fun _ hw => (itoa_spec n (by omega) (by omega) ht hw)) | (apply VL_cat [32] (Lib.itoa n); exact rfl; exact rfl; exact rfl; (show 1 + _ ≤ _; omega)) | (apply VL_cat (bodyB word (l.take i)) ([32] ++ Lib.itoa n); exact rfl; exact rfl; exact rfl; (rw [List.length_append]; show _ + (1 + _) ≤ _; omega)) | apply (zs1 ?_) | apply (zs2 ?_) | (apply zg3; refine zs60 ?_) | (apply zg5; refine zs57 ?_) | (apply (zs17 ?_ ?_) <;> intro _ <;> try (exfalso; omega)) | (apply zg13; refine zs30 ?_) | apply (zs65 ?_) | apply (zs68 ?_) | apply (zs69 ?_) | apply (zs70 ?_) | (apply zg27; refine zs71 ?_) | apply (zs73 ?_) | apply (zs76 ?_) | apply (zs79 ?_) | fail)
    apply hK (i + 1)
    · show i + 1 ≤ l.length
      omega
    · omega
    · rw [List.take_add_one, hn, Option.toList_some, body_snoc]
      (repeat (first | exact sub_nil _ | (apply sub_cons; first | exact rfl | exact congrArg (fun z : Int => some (Value.int .i64 z)) (by omega))))
    · exact fun w hw => hw
  · skip
    repeat' (first | (apply VL_cat (bodyB word (l.take i)) [10]; exact rfl; exact rfl; exact rfl; (show _ + 1 ≤ _; omega)) | apply (zs1 ?_) | apply (zs2 ?_) | (apply (zs17 ?_ ?_) <;> intro _ <;> try (exfalso; omega)) | apply (zs65 ?_) | apply (zs68 ?_) | apply (zs69 ?_) | apply (zs70 ?_) | (apply zg27; refine zs72 ?_) | apply (zs74 ?_) | apply (zs75 ?_) | apply (zs80 ?_) | apply (zs81 ?_) | fail)
    apply VQ_ret1; exact rfl; exact rfl
    rw [show i = l.length by omega, List.take_length]
    exact ⟨rfl, rfl⟩

def textTo (s : Sch) (i : Nat) : List UInt8 := lineB wordS [s.len, s.off] ++ (s.cells.take i).flatMap fun c => lineB wordC (nums c)
theorem textTo_step {s : Sch} {i : Nat} (h : i < s.cells.length) : textTo s (i + 1) = textTo s i ++ lineB wordC (nums (celAt s i)) := by
  unfold textTo
  rw [List.take_add_one, celAt_some h, Option.toList_some, List.flatMap_append, List.append_assoc]
  simp
theorem line_len {w : List UInt8} {l : List Int} (h : ∀ n ∈ l, 0 ≤ n ∧ n < 10000) : (lineB w l).length ≤ w.length + 5 * l.length + 1 := by
  unfold lineB
  have := body_len (w := w) h
  rw [List.length_append]
  show _ + 1 ≤ _
  omega
theorem textTo_len {s : Sch} (h : Frm s) : ∀ i, i ≤ s.cells.length → (textTo s i).length ≤ 100 + 40 * i
  | 0, _ => by
    have h1 := line_len (w := wordS) (form_nums h).1
    unfold textTo
    simp only [List.take_zero, List.flatMap_nil, List.append_nil]
    have : wordS.length = 8 := rfl
    simp only [List.length_cons, List.length_nil] at h1
    omega
  | i + 1, hi => by
    have ih := textTo_len h i (by omega)
    have h1 := line_len (w := wordC) ((form_nums h).2 _ (celAt_mem (s := s) (i := i) (by omega)))
    rw [textTo_step (by omega), List.length_append]
    have : wordC.length = 4 := rfl
    have h2 : (nums (celAt s i)).length = 5 := rfl
    omega
set_option maxRecDepth 10000 in
set_option maxHeartbeats 1000000 in
theorem print_in (s : SchM) {B : Nat} {w0 : World} {w : World} (ht : TabsB B w0) (hr : Rd B w0 [] s.A (s.cells.flatMap celF)) (hl : s.cells.length ≤ 1000000000000) (hw : St B w0 [] w) :
    Calls Tryz.prog 16 [s.val].toArray w (Post B w0 fun v _ => v = .tuple #[strV (printE s.sch).1, .int .i64 (printE s.sch).2]) := by
  refine Calls_of_VC Tryz.func16 Tryz.ntmps16 rfl rfl hw ?_
  have e1 : s.sch.cells = s.cells := rfl
  cases hf : formE s.sch with
  | false =>
    repeat' (first | ((first | apply VL_callt en53 | apply VL_callq en53); (repeat (first | exact args_nil | (apply args_cons; exact rfl))); exact rfl; exact fun _ hw => (calls_val (congrArg Value.bool hf) (fun _ hw => form_spec s hr.cons hl hw) hw)) | apply (zs2 ?_) | (apply zg3; refine zs8 ?_) | (apply zg20; refine zs48 ?_) | (apply zg23; (refine zs52 ?_; intro _)) | apply (zs65 ?_) | apply (zs68 ?_) | apply (zs69 ?_) | apply (zs70 ?_) | (apply zg27; refine zs71 ?_) | apply (zs74 ?_) | apply (zs77 ?_) | fail)
    apply VQ_ret2; exact rfl; exact rfl; exact rfl
    rw [printE, if_pos hf]
  | true =>
    have hfr := form_iff.1 hf
    have hle : s.cells.length ≤ 512 := hfr.few
    have hnm := form_nums hfr
    have hln1 := line_len (w := wordS) hnm.1
    repeat' (first | ((first | apply VL_callt en53 | apply VL_callq en53); (repeat (first | exact args_nil | (apply args_cons; exact rfl))); exact rfl; exact fun _ hw => (calls_val (congrArg Value.bool hf) (fun _ hw => form_spec s hr.cons hl hw) hw)) | apply (zs2 ?_) | (apply zg2; refine zs6 ?_) | (apply zg3; first | refine zs7 ?_ | refine zs8 ?_) | (apply zg20; refine zs47 ?_) | (apply zg23; (refine zs52 ?_; intro _)) | (apply zg24; (refine zs54 ?_; intro _)) | (apply zg26; (refine zs56 ?_; intro _)) | apply (zs65 ?_) | apply (zs68 ?_) | apply (zs69 ?_) | apply (zs70 ?_) | (apply zg27; refine zs72 ?_) | apply (zs76 ?_) | fail)
    rename_i gs gb gl
    have hrl : Rd B w0 [blk gl (.cells #[.int .i64 s.len, .int .i64 s.off] 3 (0, 0)), blk gb (.cells (Value.agg #[.pointer none, .slice none 0 0]).cells 83 (0, 0)), blk gs (.cells #[.int .i64 s.len, .int .i64 s.off, .slice s.A s.cells.length s.cap] 30 (0, 0))] (some ⟨gl, 0, none⟩) ([s.sch.len, s.sch.off].flatMap numF) := Rd.blk (cs := #[.int .i64 s.len, .int .i64 s.off]) (.head _)
    first | apply VL_callt en55 | apply VL_callq en55
    (repeat (first | exact args_nil | (apply args_cons; exact rfl)))
    exact rfl
    exact fun _ hw => (line_spec wordS [s.sch.len, s.sch.off] hnm.1 (by show 2 ≤ 100; decide) (by decide) ht hrl hw)
    apply VL_st (bdP gb (.pointer none) none 0 [] [blk gs (.cells #[.int .i64 s.len, .int .i64 s.off, .slice s.A s.cells.length s.cap] 30 (0, 0))])
    · unfold bdP
      intro w hw
      have h5 : St B w0 [blk gb (.cells (Value.agg #[.pointer none, .slice none 0 0]).cells 83 (0, 0)), blk gs (.cells #[.int .i64 s.len, .int .i64 s.off, .slice s.A s.cells.length s.cap] 30 (0, 0))] w := by
        revert w
        (intro w hw; refine hw.perm ?_; focus repeat (first | with_reducible exact Perm.refl _ | (with_reducible apply perm_take; focus ((repeat (first | with_reducible exact rem_here | with_reducible apply rem_there)); done)) | with_reducible apply Perm.dropK))
      exact (h5.nilSlice _ _).perm (.swap _ _ _)
    apply VL_call _ en54
    (repeat (first | exact args_nil | (apply args_cons; exact rfl)))
    exact rfl
    exact fun _ hw => (write_spec gb _ (.inl rfl) none 0 [] (lineB wordS [s.sch.len, s.sch.off]) (by simp only [List.length_nil]; have : wordS.length = 8 := rfl; simp only [List.length_cons, List.length_nil] at hln1; omega) (hw))
    rintro _ _ ⟨rfl, A1, cap1, rfl⟩
    unfold bdP
    repeat' (first | apply (zs1 ?_) | (apply zg2; refine zs6 ?_) | (apply zg3; refine zs7 ?_) | (apply zg4; refine zs9 ?_) | apply (zs65 ?_) | apply (zs68 ?_) | apply (zs69 ?_) | apply (zs70 ?_) | apply (zs73 ?_) | fail)
    refine VC_loop1 (fun (z : Nat × Option Addr × Nat) => [(21, .int .i64 z.1), (20, .int .i64 s.cells.length), (19, .slice s.A s.cells.length s.cap), (4, .pointer (some ⟨gb, 0, none⟩))]) (fun z => bdP gb (.pointer (some ⟨gb, 0, none⟩)) z.2.1 z.2.2 (textTo s.sch z.1) [blk gs (.cells #[.int .i64 s.len, .int .i64 s.off, .slice s.A s.cells.length s.cap] 30 (0, 0))]) (fun z => z.1 ≤ s.cells.length) (fun z => s.cells.length - z.1) (0, A1, cap1) (Nat.zero_le _) ?_ ?_ ?_
    · (repeat (first | exact sub_nil _ | (apply sub_cons; first | exact rfl | exact congrArg (fun z : Int => some (Value.int .i64 z)) (by omega))))
    · have e0 : textTo s.sch 0 = [] ++ lineB wordS [s.sch.len, s.sch.off] := by unfold textTo; simp
      rw [e0]
      unfold bdP
      exact fun w hw => hw
    rintro ⟨i, A2, cap2⟩ hi K hK
    dsimp only at hi ⊢
    have htl := textTo_len hfr i hi
    by_cases hlt : i < s.cells.length
    · have hget : s.cells[i]? = some (celAt s.sch i) := celAt_some (s := s.sch) hlt
      have hnc := hnm.2 _ (celAt_mem (s := s.sch) hlt)
      have hln := line_len (w := wordC) hnc
      have hr' : Rd B w0 (bdP gb (.pointer (some ⟨gb, 0, none⟩)) A2 cap2 (textTo s.sch i) [blk gs (.cells #[.int .i64 s.len, .int .i64 s.off, .slice s.A s.cells.length s.cap] 30 (0, 0))]) s.A (s.cells.flatMap celF) := hr.cons.cons.cons
      repeat' (first | ((first | apply VL_callt en56 | apply VL_callq en56); (repeat (first | exact args_nil | (apply args_cons; exact rfl))); exact rfl; exact fun _ hw => (numbers_spec _ hw)) | (apply VL_slice_all T (e := 3); exact rfl; exact rfl; exact rfl) | (apply zg3; first | refine zs8 ?_ | refine zs61 ?_) | (apply zg5; refine zs57 ?_) | (apply (zs17 ?_ ?_) <;> intro _ <;> try (exfalso; omega)) | (apply zg22; refine zs51 ?_) | (apply zg24; (refine zs54 ?_; intro _)) | apply (zs65 ?_) | apply (zs68 ?_) | apply (zs69 ?_) | apply (zs70 ?_) | (apply zg27; refine zs71 ?_) | apply (zs73 ?_) | apply (zs76 ?_) | fail)
      rename_i gc ga
      have hra : ∀ X, Rd B w0 (blk ga (.cells (celF (celAt s.sch i)).toArray 89 (0, 0)) :: X) (some ⟨ga, 0, none⟩) ((nums (celAt s.sch i)).flatMap numF) := fun X => Rd.blk (cs := (celF (celAt s.sch i)).toArray) (.head _)
      first | apply VL_callt en55 | apply VL_callq en55
      (repeat (first | exact args_nil | (apply args_cons; exact rfl)))
      exact rfl
      exact fun _ hw => (line_spec wordC (nums (celAt s.sch i)) hnc (by show 5 ≤ 100; decide) (by decide) ht (hra _) hw)
      apply VL_st (bdP gb (.pointer (some ⟨gb, 0, none⟩)) A2 cap2 (textTo s.sch i) [blk gs (.cells #[.int .i64 s.len, .int .i64 s.off, .slice s.A s.cells.length s.cap] 30 (0, 0))])
      · exact fun w hw => hw.tail.tail
      have h5n : (nums (celAt s.sch i)).length = 5 := rfl
      have h4w : wordC.length = 4 := rfl
      apply VL_call _ en54
      (repeat (first | exact args_nil | (apply args_cons; exact rfl)))
      exact rfl
      exact fun _ hw => (write_spec gb _ (.inr rfl) A2 cap2 (textTo s.sch i) (lineB wordC (nums (celAt s.sch i))) (by omega) (hw))
      rintro _ _ ⟨rfl, A3, cap3, rfl⟩
      rw [← textTo_step hlt]
      repeat' (first | apply (zs1 ?_) | (apply zg13; refine zs30 ?_) | apply (zs65 ?_) | apply (zs68 ?_) | apply (zs70 ?_) | apply (zs79 ?_) | fail)
      apply hK (i + 1, A3, cap3)
      · show i + 1 ≤ s.cells.length
        omega
      · dsimp only; omega
      · (repeat (first | exact sub_nil _ | (apply sub_cons; first | exact rfl | exact congrArg (fun z : Int => some (Value.int .i64 z)) (by omega))))
      · exact fun w hw => hw
    · repeat' (first | (apply (zs17 ?_ ?_) <;> intro _ <;> try (exfalso; omega)) | apply (zs65 ?_) | apply (zs68 ?_) | apply (zs69 ?_) | apply (zs70 ?_) | (apply zg27; refine zs72 ?_) | apply (zs75 ?_) | apply (zs80 ?_) | apply (zs81 ?_) | fail)
      apply VL_call _ en57
      (repeat (first | exact args_nil | (apply args_cons; exact rfl)))
      exact rfl
      exact fun _ hw => (string_spec (l := textTo s.sch i) (.inr rfl) (hw))
      rintro _ _ ⟨rfl, rfl⟩
      repeat' (first | apply (zs2 ?_) | apply (zs65 ?_) | apply (zs68 ?_) | apply (zs74 ?_) | fail)
      apply VQ_ret2; exact rfl; exact rfl; exact rfl
      rw [printE, if_neg (by simp [hf])]
      rw [show i = s.sch.cells.length from (by have : s.sch.cells.length = s.cells.length := rfl; omega), show textTo s.sch s.sch.cells.length = textE s.sch from (by unfold textTo textE; rw [List.take_length])]
theorem print_spec (s : SchM) {B : Nat} {w0 : World} {H : List HP} {w : World} (ht : TabsB B w0) (hr : Rd B w0 H s.A (s.cells.flatMap celF)) (hl : s.cells.length ≤ 1000000000000) (hw : St B w0 H w) :
    Calls Tryz.prog 16 [s.val].toArray w (Post B w0 fun v K => v = .tuple #[strV (printE s.sch).1, .int .i64 (printE s.sch).2] ∧ K = H) :=
  calls_inner hw (print_in s (ht.here hw) (hr.here hw) hl (St.start w))
end Go.Proofs.YtnkpfpgmbpnbgaaGreatDoor

/- Schedules as texts, plain: the reference's lines, words and Parse. -/
namespace Go.Proofs.YtnkpfpgmbpnbgaaGreatDoor
open Go.RowKit Go.Eng Go.Nw

theorem join_snoc {c : UInt8} (o : List (List UInt8)) (w m : List UInt8) : joinC c (o ++ [w ++ m]) = joinC c (o ++ [w]) ++ m := by
  cases o with
  | nil => simp [joinC]
  | cons p r => rw [List.cons_append, List.cons_append, joinC_cons, joinC_cons]; simp
theorem join_new {c : UInt8} (o : List (List UInt8)) (w : List UInt8) : joinC c ((o ++ [w]) ++ [[]]) = joinC c (o ++ [w]) ++ [c] := by
  cases o with
  | nil => simp [joinC]
  | cons p r => rw [List.cons_append, List.cons_append, joinC_cons, joinC_cons]; simp
theorem cut_here {c : UInt8} {l : List UInt8} {o : List (List UInt8)} {w : List UInt8} (h : cutC c l = o ++ [w]) : cutC c (l ++ [c]) = (o ++ [w]) ++ [[]] := by
  have hj := join_cut (c := c) l
  have hm := cut_mem (c := c) (l := l)
  rw [h] at hj hm
  rw [← hj, ← join_new]
  refine cut_join (by simp) fun p hp => ?_
  rcases List.mem_append.1 hp with hp | hp
  · exact hm p hp
  · obtain rfl := List.mem_singleton.1 hp; simp
theorem cut_on {c x : UInt8} (hx : x ≠ c) {l : List UInt8} {o : List (List UInt8)} {w : List UInt8} (h : cutC c l = o ++ [w]) : cutC c (l ++ [x]) = o ++ [w ++ [x]] := by
  have hj := join_cut (c := c) l
  have hm := cut_mem (c := c) (l := l)
  rw [h] at hj hm
  rw [← hj, ← join_snoc]
  refine cut_join (by simp) fun p hp => ?_
  rcases List.mem_append.1 hp with hp | hp
  · exact hm p (List.mem_append_left _ hp)
  · obtain rfl := List.mem_singleton.1 hp
    have := hm w (by simp)
    intro hc
    rcases List.mem_append.1 hc with hc | hc
    · exact this hc
    · exact hx (List.mem_singleton.1 hc).symm
/-- The reference's lines, and whether the last one ends with a line feed. -/
def rlines (text : List UInt8) : List (List UInt8) × Bool :=
  if lineAt (cutC 10 text) ((cutC 10 text).length - 1) = [] then ((cutC 10 text).take ((cutC 10 text).length - 1), true) else (cutC 10 text, false)
theorem rlines_eq {text : List UInt8} {o : List (List UInt8)} {w : List UInt8} (h : cutC 10 text = o ++ [w]) : rlines text = if w = [] then (o, true) else (o ++ [w], false) := by
  unfold rlines
  rw [h]
  have e1 : (o ++ [w]).length - 1 = o.length := by simp
  have e2 : lineAt (o ++ [w]) o.length = w := by unfold lineAt; rw [List.getD_eq_getElem?_getD, List.getElem?_append_right (Nat.le_refl _), Nat.sub_self]; rfl
  rw [e1, e2, List.take_left]
def rbad (ls : List (List UInt8)) (whole : Bool) (i : Nat) : Int := if (rowE i (lineAt ls i)).isNone = true ∨ (i + 1 = ls.length ∧ whole = false) then 3 else 0
def rparseL (ls : List (List UInt8)) (whole : Bool) : Sch × (Int × Int) :=
  if ls.length = 0 then (zeroS, (0, 3)) else if (firstF (rbad ls whole) ls.length 0).2 ≠ 0 then (zeroS, firstF (rbad ls whole) ls.length 0)
  else if formE (schTo ls ls.length) = false then (zeroS, (-1, 1)) else (schTo ls ls.length, (-1, 0))
theorem firstF_snoc {f : Nat → Int} : ∀ {r i : Nat}, firstF f (r + 1) i = if (firstF f r i).2 ≠ 0 then firstF f r i else if f (i + r) = 0 then (-1, 0) else (((i + r : Nat) : Int), f (i + r))
  | 0, i => by
    show (if f i = 0 then ((-1 : Int), (0 : Int)) else ((i : Int), f i)) = if (0 : Int) ≠ 0 then ((-1 : Int), (0 : Int)) else if f i = 0 then ((-1 : Int), (0 : Int)) else ((i : Int), f i)
    rw [if_neg (show ¬ (0 : Int) ≠ 0 by decide)]
  | r + 1, i => by
    rw [firstF, firstF_snoc (r := r) (i := i + 1)]
    conv => rhs; unfold firstF
    by_cases h : f i = 0
    · rw [if_pos h, if_pos h, show i + 1 + r = i + (r + 1) by omega]
    · rw [if_neg h, if_neg h, if_pos h]
theorem schTo_congr {ls ms : List (List UInt8)} : ∀ {k : Nat}, (∀ i, i < k → lineAt ls i = lineAt ms i) → schTo ls k = schTo ms k
  | 0, _ => rfl
  | k + 1, h => by
    unfold schTo
    rw [schTo_congr fun i hi => h i (by omega), h k (Nat.lt_succ_self k)]
theorem rparse_eq (text : List UInt8) : rparseL (rlines text).1 (rlines text).2 = parseE text := by
  unfold parseE
  obtain ⟨ls, hls⟩ : ∃ ls, cutC 10 text = ls := ⟨_, rfl⟩
  have hne := cut_ne 10 text
  unfold rlines
  rw [hls] at hne ⊢
  obtain ⟨L, hL⟩ : ∃ L, ls.length = L + 1 := ⟨ls.length - 1, by have := List.length_pos_iff.2 hne; omega⟩
  have e1 : ls.length - 1 = L := by omega
  unfold parseL
  rw [e1]
  by_cases hlast : lineAt ls L = []
  · rw [if_pos hlast]
    dsimp only
    have hlen : (ls.take L).length = L := by rw [List.length_take]; omega
    have hla : ∀ i, i < L → lineAt (ls.take L) i = lineAt ls i := fun i hi => by
      unfold lineAt
      rw [List.getD_eq_getElem?_getD, List.getD_eq_getElem?_getD, List.getElem?_take_of_lt hi]
    have hf : firstF (rbad (ls.take L) true) L 0 = firstF (badRow ls) L 0 := firstF_congr fun k _ hk _ => by
      unfold rbad badRow
      rw [hla k (by omega)]
      simp
    unfold rparseL
    rw [hlen, hf, schTo_congr hla]
    by_cases h0 : L = 0
    · subst h0
      rw [if_pos rfl, if_neg (by unfold firstF; decide), if_pos (.inl rfl)]
      rfl
    · rw [if_neg h0]
      by_cases h1 : (firstF (badRow ls) L 0).2 ≠ 0
      · rw [if_pos h1, if_pos h1]
      · rw [if_neg h1, if_neg h1, if_neg (show ¬ (L = 0 ∨ lineAt ls L ≠ []) from fun h => h.elim h0 fun h => h hlast)]
  · rw [if_neg hlast]
    dsimp only
    have hf : firstF (rbad ls false) L 0 = firstF (badRow ls) L 0 := firstF_congr fun k _ hk _ => by
      unfold rbad badRow
      have : ((rowE k (lineAt ls k)).isNone = true ∨ (k + 1 = ls.length ∧ false = false)) ↔ (rowE k (lineAt ls k)).isNone = true := ⟨fun h => h.elim id fun h => absurd h.1 (by omega), .inl⟩
      by_cases h : (rowE k (lineAt ls k)).isNone = true
      · rw [if_pos (.inl h), if_pos h]
      · rw [if_neg (fun h2 => h (this.1 h2)), if_neg h]
    have hb : rbad ls false L = 3 := by unfold rbad; rw [if_pos (.inr ⟨hL.symm, rfl⟩)]
    unfold rparseL
    rw [hL, if_neg (by omega), firstF_snoc, hf, Nat.zero_add, hb]
    by_cases h1 : (firstF (badRow ls) L 0).2 ≠ 0
    · rw [if_pos h1, if_pos h1, if_pos h1]
    · have h3 : (if (3 : Int) = 0 then ((-1 : Int), (0 : Int)) else ((L : Int), 3)) = ((L : Int), 3) := if_neg (by decide)
      rw [if_neg h1, h3, if_pos (show ¬ (3 : Int) = 0 by decide), if_neg h1, if_pos (.inr hlast)]
end Go.Proofs.YtnkpfpgmbpnbgaaGreatDoor

/- Walks: the numbers of a line; Parse. -/
namespace Go.Proofs.YtnkpfpgmbpnbgaaGreatDoor
open Go.RowKit Go.Eng Go.Nw

section
variable {m : Eng.Mode} {n : Shp} {B d : Nat} {w0 : World} {ops : Array Oper} {Q : Exit → Act → World → Prop} {rest : List Oper} {env : Env} {H : List HP} {ty : TypeId} {pos : String} {after : Array Edge} {x y : Operand}
theorem strV_inj {a b : List UInt8} : (⟨a.toArray⟩ : ByteArray) = ⟨b.toArray⟩ ↔ a = b := by
  constructor
  · intro h
    have h1 := congrArg (fun s : ByteArray => s.data.toList) h
    simpa using h1
  · rintro rfl; rfl
theorem VL_wneq (a b : List UInt8) (hx : evo env x = some (strV a)) (hy : evo env y = some (strV b)) (hn : Nat.ble (d + 1) n.k = true) (h1 : a ≠ b → VL Tryz.prog m n B w0 ops Q rest ((d, .bool true) :: env) H) (h2 : a = b → VL Tryz.prog m n B w0 ops Q rest ((d, .bool false) :: env) H) :
    VL Tryz.prog m n B w0 ops Q (⟨some d, .binOp .neq 9 x y 9, ty, pos, after, none⟩ :: rest) env H :=
  VL_sneq hx hy hn (fun h => h1 fun e => h (strV_inj.2 e)) (fun h => h2 (strV_inj.1 h))
theorem VL_errN (hx : evo env x = some .nilIface) (hn : Nat.ble (d + 1) n.k = true) (h : VL Tryz.prog m n B w0 ops Q rest ((d, .bool false) :: env) H) :
    VL Tryz.prog m n B w0 ops Q (⟨some d, .binOp .neq 85 x (.const .nilIface) 85, ty, pos, after, none⟩ :: rest) env H :=
  VL_bin (y := .const .nilIface) hx rfl hn (fun w => by simp [eqGuard]) (fun w => run_neq_nil_nil (P := Tryz.prog) (w := w) 85 (by kernel_rfl)) h
theorem VL_errS {t : TypeId} {p : Value} (hx : evo env x = some (.iface t p)) (hn : Nat.ble (d + 1) n.k = true) (h : VL Tryz.prog m n B w0 ops Q rest ((d, .bool true) :: env) H) :
    VL Tryz.prog m n B w0 ops Q (⟨some d, .binOp .neq 85 x (.const .nilIface) 85, ty, pos, after, none⟩ :: rest) env H :=
  VL_bin (y := .const .nilIface) hx rfl hn (fun w => by simp [eqGuard]) (fun w => run_neq_held_nil (P := Tryz.prog) (w := w) 85 t p (by kernel_rfl)) h
end
abbrev nrs (A : Option Addr) (cap : Nat) (l : List Int) : HP := sl 3 1 A l.length cap (l.flatMap numF)
theorem nrs_snoc (A : Option Addr) (cap : Nat) (l : List Int) (z : Int) : sl 3 1 A (l.length + 1) cap (l.flatMap numF ++ #[Value.int .i64 z].toList) = nrs A cap (l ++ [z]) := by simp [nrs, List.flatMap_append, numF]
theorem strs_flat (ps : List (List UInt8)) : (ps.map strV) = ps.flatMap strL := by induction ps with | nil => rfl | cons a l ih => simp [strL, List.flatMap_cons, ih]
theorem nums_some {ws : List (List UInt8)} (h : ∀ w ∈ ws, 0 ≤ numW w) : numsW ws = some (ws.map numW) := by
  unfold numsW
  rw [if_neg]
  rw [Bool.not_eq_true, List.any_eq_false]
  intro w hw
  have := h w hw
  simp; omega
theorem nums_none {ws : List (List UInt8)} {w : List UInt8} (hw : w ∈ ws) (h : numW w < 0) : numsW ws = none := by
  unfold numsW
  rw [if_pos]
  rw [List.any_eq_true]
  exact ⟨w, hw, by simpa using h⟩
theorem cut_len {c : UInt8} : ∀ {l : List UInt8}, ∀ p ∈ cutC c l, p.length ≤ l.length
  | [], p, hp => by
    simp only [cutC, List.mem_singleton] at hp
    subst hp; simp
  | x :: l, p, hp => by
    have ih := cut_len (c := c) (l := l)
    unfold cutC at hp
    split at hp
    · rcases List.mem_cons.1 hp with rfl | hp
      · simp
      · have := ih p hp; simp only [List.length_cons]; omega
    · cases hc : cutC c l with
      | nil => rw [hc] at hp; simp at hp; subst hp; simp
      | cons q qs =>
        rw [hc] at hp ih
        simp only [List.mem_cons] at hp ih
        rcases hp with rfl | hp
        · have := ih q (.inl rfl); simp only [List.length_cons]; omega
        · have := ih p (.inr hp); simp only [List.length_cons]; omega
def OutR (H : List HP) (r : Option (List Int)) (v : Value) (K : List HP) : Prop :=
  match r with
  | none => v = .tuple #[.slice none 0 0, .bool false] ∧ K = H
  | some x => ∃ A cap, v = .tuple #[.slice A x.length cap, .bool true] ∧ K = nrs A cap x :: H
set_option maxRecDepth 10000 in
set_option maxHeartbeats 2000000 in
theorem read_spec (line word : List UInt8) (many : Nat) (hl : line.length ≤ 100000) (hm : 1 ≤ many ∧ many ≤ 100) {B : Nat} {w0 : World} {H : List HP} {w : World} (ht : TabsB B w0) (hw : St B w0 H w) :
    Calls Tryz.prog 62 [strV line, strV word, .int .i64 many].toArray w (Post B w0 (OutR H (readE line word many))) := by
  refine Calls_of_VC Tryz.func62 Tryz.ntmps62 rfl rfl hw ?_
  repeat' (first | apply (zs1 ?_) | apply (zs2 ?_) | apply (zs65 ?_) | apply (zs68 ?_) | apply (zs69 ?_) | apply (zs70 ?_) | fail)
  apply VL_call _ en61
  (repeat (first | exact args_nil | (apply args_cons; exact rfl)))
  exact rfl
  exact fun _ hw => (split_spec line 32 (by omega) ht (hw))
  rintro _ _ ⟨g, rfl, rfl⟩
  obtain ⟨ps, hps⟩ : ∃ ps, cutC 32 line = ps := ⟨_, rfl⟩
  have hrd : readE line word many = if ps.length ≠ many + 1 ∨ ps.headD [] ≠ word then none else numsW ps.tail := by unfold readE; rw [hps]
  have hne : ps ≠ [] := hps ▸ cut_ne 32 line
  have hp0 : 1 ≤ ps.length := List.length_pos_iff.2 hne
  have hrp : Rd B w0 (blk g (.cells (ps.map strV).toArray 9 (0, 0)) :: H) (some ⟨g, 0, none⟩) (ps.flatMap strL) := by
    rw [← strs_flat]
    exact Rd.blk (cs := (ps.map strV).toArray) (.head _)
  have h0 : ps[0]? = some (ps.headD []) := by
    cases ps with
    | nil => exact absurd rfl hne
    | cons p ps => rfl
  rw [hps]
  repeat' (first | (apply VL_wneq (ps.headD []) word; exact rfl; exact rfl; exact rfl; all_goals intro hwd) | apply (zs1 ?_) | apply (zs2 ?_) | (apply zg1; first | refine zs3 ?_ | refine zs4 ?_) | (apply zg3; refine zs60 ?_) | (apply zg4; refine zs9 ?_) | (apply zg5; refine zs57 ?_) | (apply zg6; first | refine zs11 ?_ | refine zs12 ?_) | (apply zg8; (refine zs16 ?_ ?_ <;> intro _ <;> try (exfalso; omega))) | (apply zg13; refine zs30 ?_) | apply (zs65 ?_) | apply (zs68 ?_) | apply (zs69 ?_) | apply (zs70 ?_) | (apply zg27; first | refine zs71 ?_ | refine zs72 ?_) | apply (zs74 ?_) | apply (zs76 ?_) | apply (zs77 ?_) | fail)
  · rw [hrd, if_pos (.inl (by omega))]
    apply VQ_tail; apply VQ_ret2; exact rfl; exact rfl; exact rfl; exact ⟨rfl, rfl⟩
  · rw [hrd, if_pos (.inr hwd)]
    apply VQ_tail; apply VQ_ret2; exact rfl; exact rfl; exact rfl; exact ⟨rfl, rfl⟩
  have hpl : ps.length = many + 1 := by omega
  rw [hrd, if_neg (by rintro (h | h); exact h hpl; exact h hwd)]
  obtain ⟨ws, hws⟩ : ∃ ws, ps.tail = ws := ⟨_, rfl⟩
  have hwl : ws.length = many := by rw [← hws, List.length_tail]; omega
  have hwm : ∀ p ∈ ws, p.length ≤ 100000 := fun p hp => by
    have h1 := cut_len (c := 32) (l := line) p (by rw [hps]; exact List.mem_of_mem_tail (hws ▸ hp))
    omega
  rw [hws]
  apply VL_slice_lo T (n' := ws.length); exact rfl; exact rfl; exact rfl; exact rfl; omega; (rw [hwl]; show ps.length - 1 = many; omega)
  have hrw : Rd B w0 (blk g (.cells (ps.map strV).toArray 9 (0, 0)) :: H) (subA (some ⟨g, 0, none⟩) 1 ps.length 1) (ws.flatMap strL) := by
    have h1 := Rd.sub (q := 1) (o := 1) (k := ws.length) (cap := ps.length) (fun _ => rfl) hrp (Nat.le_refl _)
    rw [List.drop_one, hws, List.take_length] at h1
    exact h1
  rw [show (1 : Int).toNat = 1 from rfl]
  obtain ⟨A0, hA0⟩ : ∃ A0, subA (some ⟨g, 0, none⟩) 1 ps.length 1 = A0 := ⟨_, rfl⟩
  rw [hA0] at hrw ⊢
  repeat' (first | apply (zs1 ?_) | (apply zg4; refine zs9 ?_) | apply (zs65 ?_) | apply (zs68 ?_) | apply (zs73 ?_) | fail)
  have hnone : ∀ {p : List UInt8}, p ∈ ws → numW p < 0 → numsW ws = none := fun hp hn => nums_none hp hn
  refine VC_loop1 (fun (z : Nat × Option Addr × Nat) => [(31, .int .i64 z.1), (30, .int .i64 ws.length), (29, .slice A0 ws.length (ps.length - 1)), (9, .slice z.2.1 ((ws.take z.1).map numW).length z.2.2)]) (fun z => nrs z.2.1 z.2.2 ((ws.take z.1).map numW) :: blk g (.cells (ps.map strV).toArray 9 (0, 0)) :: H) (fun z => z.1 ≤ ws.length ∧ ∀ p ∈ ws.take z.1, 0 ≤ numW p) (fun z => ws.length - z.1) (0, none, 0) ⟨Nat.zero_le _, by simp⟩ ?_ (fun w hw => hw.nilSlice _ _) ?_
  · (repeat (first | exact sub_nil _ | (apply sub_cons; first | exact rfl | exact congrArg (fun z : Int => some (Value.int .i64 z)) (by omega))))
  rintro ⟨i, A, cap⟩ ⟨hi, hall⟩ K hK
  dsimp only at hi hall ⊢
  have hlen : ((ws.take i).map numW).length = i := by rw [List.length_map, List.length_take]; omega
  have hrw' := hrw.cons (X := nrs A cap ((ws.take i).map numW))
  by_cases hlt : i < ws.length
  · obtain ⟨p, hp⟩ : ∃ p, ws[i]? = some p := ⟨_, List.getElem?_eq_getElem hlt⟩
    have hpm := List.mem_of_getElem? hp
    have hpl := hwm p hpm
    have hs : (⟨p.toArray⟩ : ByteArray).size = p.length := by simp [ByteArray.size]
    by_cases hv : ∃ v, Lib.atoiAll p = .ok v
    · obtain ⟨v, hv⟩ := hv
      have hvb := Lib.atoiAll_bounds hv
      obtain ⟨q1, q2⟩ := prog_num hv
      repeat' (first | ((first | apply VL_callt en99 | apply VL_callq en99); (repeat (first | exact args_nil | (apply args_cons; exact rfl))); exact rfl; exact fun _ hw => (atoi_ok p (by omega) v hv hw)) | ((first | apply VL_callt en96 | apply VL_callq en96); (repeat (first | exact args_nil | (apply args_cons; exact rfl))); exact rfl; exact fun _ hw => (itoa_spec v hvb.1 hvb.2 ht hw)) | (apply VL_errN; exact rfl; exact rfl) | (apply VL_wneq (Lib.itoa v) p; exact rfl; exact rfl; exact rfl; all_goals intro hwd2) | apply (zs1 ?_) | apply (zs2 ?_) | (apply zg1; first | refine zs3 ?_ | refine zs4 ?_) | (apply zg3; refine zs60 ?_) | (apply zg4; refine zs14 ?_) | (apply zg5; refine zs57 ?_) | (apply zg6; first | refine zs11 ?_ | refine zs12 ?_) | apply (zs13 ?_) | (apply (zs17 ?_ ?_) <;> intro _ <;> try (exfalso; omega)) | (apply (zs19 ?_ ?_) <;> intro _ <;> try (exfalso; omega)) | (apply zg13; refine zs30 ?_) | (apply zg21; (refine zs49 ?_; intro _ _)) | (apply zg26; (refine zs56 ?_; intro _)) | apply (zs65 ?_) | apply (zs68 ?_) | apply (zs69 ?_) | apply (zs70 ?_) | (apply zg27; first | refine zs71 ?_ | refine zs72 ?_) | apply (zs73 ?_) | apply (zs74 ?_) | apply (zs76 ?_) | apply (zs77 ?_) | apply (zs78 ?_) | apply (zs79 ?_) | fail)
      all_goals first
        | (apply VQ_st H
           · (intro w hw; refine hw.perm ?_; focus repeat (first | with_reducible exact Perm.refl _ | (with_reducible apply perm_take; focus ((repeat (first | with_reducible exact rem_here | with_reducible apply rem_there)); done)) | with_reducible apply Perm.dropK))
           apply VQ_ret2; exact rfl; exact rfl; exact rfl
           rw [hnone hpm (q2 (by rintro ⟨c1, c2, c3⟩; first | omega | exact hwd2 c2))]
           exact ⟨rfl, rfl⟩)
        | (rename_i xA xcap
           have hq := q1 ⟨by omega, hwd2, by omega⟩
           have e5 : (ws.take i).map numW ++ [v] = (ws.take (i + 1)).map numW := by rw [List.take_add_one, hp, Option.toList_some, List.map_append, List.map_cons, List.map_nil, hq]
           rw [nrs_snoc, e5]
           apply hK (i + 1, xA, xcap)
           · refine ⟨by show i + 1 ≤ _; omega, fun p' hp' => ?_⟩
             dsimp only at hp'
             rw [List.take_add_one, hp, Option.toList_some, List.mem_append, List.mem_singleton] at hp'
             rcases hp' with hp' | rfl
             · exact hall p' hp'
             · omega
           · dsimp only; omega
           · rw [show ((ws.take i).map numW).length + 1 = ((ws.take (i + 1)).map numW).length from (by rw [← e5]; simp)]
             (repeat (first | exact sub_nil _ | (apply sub_cons; first | exact rfl | exact congrArg (fun z : Int => some (Value.int .i64 z)) (by omega))))
           · (intro w hw; refine hw.perm ?_; focus repeat (first | with_reducible exact Perm.refl _ | (with_reducible apply perm_take; focus ((repeat (first | with_reducible exact rem_here | with_reducible apply rem_there)); done)) | with_reducible apply Perm.dropK)))
    · have hbad := prog_bad (fun n hn => hv ⟨n, hn⟩)
      repeat' (first | apply (zs1 ?_) | apply (zs2 ?_) | (apply zg3; refine zs60 ?_) | (apply zg5; refine zs57 ?_) | (apply (zs17 ?_ ?_) <;> intro _ <;> try (exfalso; omega)) | apply (zs65 ?_) | apply (zs68 ?_) | apply (zs69 ?_) | apply (zs70 ?_) | (apply zg27; refine zs71 ?_) | apply (zs73 ?_) | apply (zs76 ?_) | fail)
      apply VL_call _ en99
      (repeat (first | exact args_nil | (apply args_cons; exact rfl)))
      exact rfl
      exact fun _ hw => (atoi_bad p (by omega) (fun n hn => hv ⟨n, hn⟩) ht (hw))
      rintro _ _ ⟨⟨n9, t9, p9, rfl⟩, rfl⟩
      repeat' (first | (apply VL_errS; exact rfl; exact rfl) | apply (zs1 ?_) | apply (zs2 ?_) | (apply zg1; refine zs3 ?_) | (apply zg6; refine zs11 ?_) | apply (zs13 ?_) | apply (zs65 ?_) | apply (zs68 ?_) | apply (zs69 ?_) | apply (zs70 ?_) | (apply zg27; refine zs71 ?_) | apply (zs74 ?_) | apply (zs77 ?_) | apply (zs78 ?_) | fail)
      rw [hnone hpm hbad]
      apply VQ_st H
      · (intro w hw; refine hw.perm ?_; focus repeat (first | with_reducible exact Perm.refl _ | (with_reducible apply perm_take; focus ((repeat (first | with_reducible exact rem_here | with_reducible apply rem_there)); done)) | with_reducible apply Perm.dropK))
      apply VQ_ret2; exact rfl; exact rfl; exact rfl; exact ⟨rfl, rfl⟩
  · have hie : i = ws.length := by omega
    rw [hie, List.take_length] at hall
    rw [nums_some hall]
    repeat' (first | apply (zs1 ?_) | apply (zs2 ?_) | (apply (zs17 ?_ ?_) <;> intro _ <;> try (exfalso; omega)) | apply (zs65 ?_) | apply (zs68 ?_) | apply (zs69 ?_) | apply (zs70 ?_) | (apply zg27; refine zs72 ?_) | apply (zs74 ?_) | apply (zs75 ?_) | apply (zs80 ?_) | apply (zs81 ?_) | fail)
    rw [hie, List.take_length]
    apply VQ_st (nrs A cap (ws.map numW) :: H)
    · (intro w hw; refine hw.perm ?_; focus repeat (first | with_reducible exact Perm.refl _ | (with_reducible apply perm_take; focus ((repeat (first | with_reducible exact rem_here | with_reducible apply rem_there)); done)) | with_reducible apply Perm.dropK))
    apply VQ_ret2; exact rfl; exact rfl; exact rfl
    exact ⟨A, cap, rfl, rfl⟩
end Go.Proofs.YtnkpfpgmbpnbgaaGreatDoor

/- Walks: Parse. -/
namespace Go.Eng
open Go.RowKit
theorem VQ_retc3 {P : Program} {B : Nat} {w0 : World} {env : Env} {H : List HP} {n : Nat} (T : Tab P) {fn : Func} {Φ : Value → List HP → Prop} {p g k u s rt : Nat} {x y : Value} {cs : Array Value} {tt : TypeId} {fr : Nat × Nat} (hr : fn.results = #[.cell p rt, .tmp u, .tmp s]) (hp : get env p = some (.pointer (some ⟨g, 0, none⟩))) (hu : get env u = some x) (hs : get env s = some y)
    (hm : blk g (.cells cs tt fr) ∈ H) (ht : look T.ag rt = some k) (hk : cs.size = k) {H2 : List HP} (hH : ∀ w, St B w0 H w → St B w0 H2 w) (h : Φ (.tuple #[.agg cs, x, y]) H2) : VQ ⟨n, [], none⟩ B w0 (bodyPost P fn (Post B w0 Φ)) .ret env H := by
  refine ⟨fun a w ha hw => bodyPost_ret (v := .tuple #[.agg cs, x, y]) ?_ ha.defers ⟨_, H2, rfl, hH w hw, h⟩⟩
  have hp' := ha.slot p _ hp
  simp [results, hr, Array.getD_eq_getD_getElem?, hp', ha.slot u _ hu, ha.slot s _ hs, asAddr, run_load_blk T (hw.blk hm).1 ht hk]
end Go.Eng
namespace Go.Proofs.YtnkpfpgmbpnbgaaGreatDoor
open Go.RowKit Go.Eng Go.Nw

theorem firstF_at {f : Nat → Int} : ∀ {r i0 i : Nat}, (∀ k, i0 ≤ k → k < i → f k = 0) → i0 ≤ i → i < i0 + r → f i ≠ 0 → firstF f r i0 = ((i : Int), f i)
  | 0, i0, i, _, h1, h2, _ => by omega
  | r + 1, i0, i, h0, h1, h2, h3 => by
    unfold firstF
    by_cases e : i0 = i
    · subst e; rw [if_neg h3]
    · rw [if_pos (h0 i0 (Nat.le_refl _) (by omega))]
      exact firstF_at (fun k hk1 hk2 => h0 k (by omega) hk2) (by omega) (by omega) h3
theorem firstF_no {f : Nat → Int} {r i0 : Nat} (h : ∀ k, i0 ≤ k → k < i0 + r → f k = 0) : firstF f r i0 = (-1, 0) := by
  have h2 := firstF_ok.2 h
  exact Prod.ext (firstF_neg h2) h2
theorem cut_count {c : UInt8} : ∀ l : List UInt8, (cutC c l).length ≤ l.length + 1
  | [] => by simp [cutC]
  | x :: l => by
    have ih := cut_count (c := c) l
    unfold cutC
    split
    · simp only [List.length_cons]; omega
    · split
      · simp
      · rename_i h t he
        rw [he] at ih
        simp only [List.length_cons] at ih ⊢
        omega
theorem schTo_len (ls : List (List UInt8)) : ∀ k, (schTo ls k).cells.length ≤ k
  | 0 => by simp [schTo, zeroS]
  | k + 1 => by
    have ih := schTo_len ls k
    show (stepS k (schTo ls k) _).cells.length ≤ k + 1
    unfold stepS
    split
    · show (schTo ls k).cells.length ≤ k + 1
      omega
    · show ((schTo ls k).cells ++ _).length ≤ k + 1
      simp; omega
def OutP (H : List HP) (R : Sch × (Int × Int)) (v : Value) (K : List HP) : Prop := ∃ A cap, v = .tuple #[.agg #[.int .i64 R.1.len, .int .i64 R.1.off, .slice A R.1.cells.length cap], .int .i64 R.2.1, .int .i64 R.2.2] ∧ K = cels A cap R.1.cells :: H
theorem outP_no {H : List HP} {R : Sch × (Int × Int)} {v : Value} (i e : Int) (hR : R = (zeroS, (i, e))) (hv : v = .tuple #[.agg #[.int .i64 0, .int .i64 0, .slice none 0 0], .int .i64 i, .int .i64 e]) : OutP H R v (cels none 0 [] :: H) := ⟨none, 0, by rw [hR]; exact hv, by rw [hR]; rfl⟩
def schP (g : Nat) (s : Sch) (A : Option Addr) (cap : Nat) : HP := blk g (.cells #[.int .i64 s.len, .int .i64 s.off, .slice A s.cells.length cap] 30 (0, 0))
set_option maxRecDepth 10000 in
set_option maxHeartbeats 4000000 in
theorem parse_spec (text : List UInt8) (hl : text.length ≤ 100000) {B : Nat} {w0 : World} {H : List HP} {w : World} (ht : TabsB B w0) (hw : St B w0 H w) :
    Calls Tryz.prog 18 [strV text].toArray w (Post B w0 (OutP H (parseE text))) := by
  refine Calls_of_VC Tryz.func18 Tryz.ntmps18 rfl rfl hw ?_
  repeat' (first | apply (zs1 ?_) | apply (zs2 ?_) | (apply zg24; (refine zs54 ?_; intro _)) | apply (zs65 ?_) | apply (zs68 ?_) | apply (zs69 ?_) | apply (zs70 ?_) | fail)
  apply VL_call _ en61
  (repeat (first | exact args_nil | (apply args_cons; exact rfl)))
  exact rfl
  exact fun _ hw => (split_spec text 10 (by omega) ht (hw))
  rintro _ _ ⟨g, rfl, rfl⟩
  obtain ⟨ls, hls⟩ : ∃ ls, cutC 10 text = ls := ⟨_, rfl⟩
  have hpe : parseE text = parseL ls := by unfold parseE; rw [hls]
  have hlc : ls.length ≤ 100001 := by have := cut_count (c := 10) text; rw [hls] at this; omega
  have hl1 : 1 ≤ ls.length := List.length_pos_iff.2 (hls ▸ cut_ne 10 text)
  have hll : ∀ p ∈ ls, p.length ≤ 100000 := fun p hp => by have := cut_len (c := 10) (l := text) p (hls ▸ hp); omega
  have hrp : ∀ {L : List HP}, blk g (.cells (ls.map strV).toArray 9 (0, 0)) ∈ L → Rd B w0 L (some ⟨g, 0, none⟩) (ls.flatMap strL) := fun h => by
    rw [← strs_flat]
    exact Rd.blk (cs := (ls.map strV).toArray) h
  rw [hls, hpe]
  repeat' (first | apply (zs1 ?_) | apply (zs2 ?_) | (apply zg4; refine zs9 ?_) | (apply zg14; refine zs31 ?_) | (apply zg24; (refine zs54 ?_; intro _)) | apply (zs65 ?_) | apply (zs68 ?_) | apply (zs69 ?_) | apply (zs70 ?_) | fail)
  rename_i gr gs
  obtain ⟨m, hm⟩ : ∃ m, ls.length = m + 1 := ⟨ls.length - 1, by omega⟩
  rw [show ((ls.length : Nat) : Int) - 1 = (m : Int) by omega]
  apply VL_slice_hi_rd T (l := ls) (n' := (ls.take m).length); exact rfl; exact rfl; exact rfl; exact rfl; omega; exact Nat.le_refl _; (rw [List.length_take]; omega)
  rw [subA_zeroC]
  repeat' (first | apply (zs1 ?_) | (apply zg4; refine zs9 ?_) | apply (zs65 ?_) | apply (zs68 ?_) | apply (zs73 ?_) | fail)
  have hlt : (ls.take m).length = m := by rw [List.length_take]; omega
  have hrt : ∀ {L : List HP}, blk g (.cells (ls.map strV).toArray 9 (0, 0)) ∈ L → Rd B w0 L (some ⟨g, 0, none⟩) ((ls.take m).flatMap strL) := fun h => Rd.take (q := 1) m (fun _ => rfl) (hrp h)
  have hpl : parseL ls = if (firstF (badRow ls) m 0).2 ≠ 0 then (zeroS, firstF (badRow ls) m 0)
    else if m = 0 ∨ lineAt ls m ≠ [] then (zeroS, ((m : Int), 3))
    else if formE (schTo ls m) = false then (zeroS, (-1, 1)) else (schTo ls m, (-1, 0)) := by
    unfold parseL
    rw [show ls.length - 1 = m by omega]
  refine VC_loop1 (fun (z : Nat × Option Addr × Nat) => [(23, .int .i64 z.1), (22, .int .i64 (ls.take m).length), (21, .slice (some ⟨g, 0, none⟩) (ls.take m).length ls.length), (5, .slice (some ⟨g, 0, none⟩) ls.length ls.length), (6, .int .i64 m), (7, .pointer (some ⟨gs, 0, none⟩)), (2, .pointer (some ⟨gr, 0, none⟩))])
    (fun z => schP gs (schTo ls z.1) z.2.1 z.2.2 :: cels z.2.1 z.2.2 (schTo ls z.1).cells :: blk g (.cells (ls.map strV).toArray 9 (0, 0)) :: blk gr (.cells #[.int .i64 0, .int .i64 0, .slice none 0 0] 30 (0, 0)) :: H) (fun z => z.1 ≤ m ∧ ∀ k, k < z.1 → badRow ls k = 0) (fun z => m - z.1) (0, none, 0) ⟨Nat.zero_le _, fun k hk => absurd hk (Nat.not_lt_zero _)⟩ ?_ (fun w hw => ?_) ?_
  · (repeat (first | exact sub_nil _ | (apply sub_cons; first | exact rfl | exact congrArg (fun z : Int => some (Value.int .i64 z)) (by omega))))
  · exact (hw.nilSlice _ _).perm (.swap _ _ _)
  rintro ⟨i, A, cap⟩ ⟨hi, hall⟩ K hK
  dsimp only at hi hall ⊢
  have hcl := schTo_len ls i
  obtain ⟨SC, hSC⟩ : ∃ SC, schTo ls i = SC := ⟨_, rfl⟩
  rw [hSC] at hcl ⊢
  unfold schP
  by_cases hlti : i < m
  · have hrt' : Rd B w0 (blk gs (.cells #[.int .i64 SC.len, .int .i64 SC.off, .slice A SC.cells.length cap] 30 (0, 0)) :: cels A cap SC.cells :: blk g (.cells (ls.map strV).toArray 9 (0, 0)) :: blk gr (.cells #[.int .i64 0, .int .i64 0, .slice none 0 0] 30 (0, 0)) :: H) (some ⟨g, 0, none⟩) ((ls.take m).flatMap strL) := hrt (by (focus repeat (first | with_reducible exact List.mem_cons_self | with_reducible apply List.mem_cons_of_mem | assumption)))
    have hget : (ls.take m)[i]? = some (lineAt ls i) := by
      rw [List.getElem?_take, if_pos hlti]
      unfold lineAt
      rw [List.getD_eq_getElem?_getD, List.getElem?_eq_getElem (by omega)]
      rfl
    have hlm : (lineAt ls i).length ≤ 100000 := hll _ (List.mem_of_mem_take (List.mem_of_getElem? hget))
    rcases Nat.eq_zero_or_pos i with h0 | h0
    · subst h0
      have hsc : SC = zeroS := hSC.symm
      subst hsc
      repeat' (first | apply (zs1 ?_) | apply (zs2 ?_) | (apply zg3; refine zs60 ?_) | (apply zg5; refine zs57 ?_) | (apply zg7; (refine zs15 ?_ ?_ <;> intro _ <;> try (exfalso; omega))) | (apply (zs17 ?_ ?_) <;> intro _ <;> try (exfalso; omega)) | apply (zs65 ?_) | apply (zs68 ?_) | apply (zs69 ?_) | apply (zs70 ?_) | (apply zg27; refine zs71 ?_) | apply (zs73 ?_) | apply (zs76 ?_) | fail)
      apply VL_call _ en62
      (repeat (first | exact args_nil | (apply args_cons; exact rfl)))
      exact rfl
      exact fun _ hw => (read_spec (lineAt ls 0) wordS 2 hlm (by omega) ht (hw))
      intro v9 K9 hr9
      cases hrow : readE (lineAt ls 0) wordS 2 with
      | none =>
        rw [hrow] at hr9
        obtain ⟨rfl, rfl⟩ := hr9
        have hbr : badRow ls 0 = 3 := by unfold badRow; rw [show rowE 0 (lineAt ls 0) = none from hrow]; rfl
        have hfa := firstF_at (f := badRow ls) (r := m) (i0 := 0) (i := 0) (fun k _ hk => absurd hk (Nat.not_lt_zero _)) (Nat.le_refl _) (by omega) (by rw [hbr]; decide)
        repeat' (first | apply (zs1 ?_) | apply (zs2 ?_) | apply (zs13 ?_) | (apply zg20; refine zs48 ?_) | (apply zg22; refine zs51 ?_) | (apply zg25; refine zs55 ?_) | apply (zs65 ?_) | apply (zs68 ?_) | apply (zs69 ?_) | apply (zs70 ?_) | (apply zg27; refine zs71 ?_) | apply (zs73 ?_) | apply (zs74 ?_) | apply (zs77 ?_) | apply (zs78 ?_) | fail)
        apply VQ_retc3 T (H2 := cels none 0 [] :: H); exact rfl; exact rfl; exact rfl; exact rfl; (focus repeat (first | with_reducible exact List.mem_cons_self | with_reducible apply List.mem_cons_of_mem | assumption)); exact rfl; exact rfl; (intro w hw; refine St.nilSlice (H := H) ?_ _ _; revert w; (intro w hw; refine hw.perm ?_; focus repeat (first | with_reducible exact Perm.refl _ | (with_reducible apply perm_take; focus ((repeat (first | with_reducible exact rem_here | with_reducible apply rem_there)); done)) | with_reducible apply Perm.dropK)))
        exact outP_no 0 3 (by rw [hpl, hfa, hbr]; rfl) rfl
      | some x =>
        rw [hrow] at hr9
        obtain ⟨Ax, capx, rfl, rfl⟩ := hr9
        have hbr : badRow ls 0 = 0 := by unfold badRow; rw [show rowE 0 (lineAt ls 0) = some x from hrow]; rfl
        obtain ⟨xa, xb, rfl⟩ : ∃ a b, x = [a, b] := by
          have h2 := (read_some hrow).2.1
          match x, h2 with
          | [a, b], _ => exact ⟨a, b, rfl⟩
        have hst : schTo ls 1 = ⟨xa, xb, []⟩ := by
          show stepS 0 zeroS _ = _
          rw [show rowE 0 (lineAt ls 0) = some [xa, xb] from hrow]; rfl
        unfold nrs
        rw [show ([xa, xb] : List Int).length = 2 from rfl, show ([xa, xb] : List Int).flatMap numF = [.int .i64 xa, .int .i64 xb] from rfl]
        repeat' (first | apply (zs1 ?_) | apply (zs2 ?_) | apply (zs13 ?_) | (apply zg7; (refine zs15 ?_ ?_ <;> intro _ <;> try (exfalso; omega))) | (apply zg20; refine zs47 ?_) | apply (zs65 ?_) | apply (zs68 ?_) | apply (zs69 ?_) | apply (zs70 ?_) | (apply zg27; first | refine zs71 ?_ | refine zs72 ?_) | apply (zs73 ?_) | fail)
        apply VC_heldH [0, 1, 2, 3, 4, 5, 6, 7] [8, 9] [true, false]
        kernel_rfl
        kernel_rfl
        (repeat (first | with_reducible exact split_nil | with_reducible apply split_t | with_reducible apply split_f))
        (simp only [pickOps, nthO]; rfl)
        (simp only [pickOps, nthO]; rfl)
        repeat' (first | (apply VL_load_sl T; exact rfl; (focus repeat (first | with_reducible exact List.mem_cons_self | with_reducible apply List.mem_cons_of_mem | assumption)); exact rfl; exact rfl; exact rfl) | apply (zs1 ?_) | (apply zg2; refine zs6 ?_) | (apply zg5; refine zs10 ?_) | (apply zg13; refine zs30 ?_) | (apply zg22; refine zs50 ?_) | apply (zs65 ?_) | (apply VL_nilh; (repeat (first | with_reducible exact app_nil | with_reducible apply app_cons | exact app_niln _))) | apply (zs68 ?_) | apply (zs70 ?_) | apply (zs79 ?_) | apply (zs87 ?_) | (apply VQ_heldq; (repeat (first | with_reducible exact pull_nil | (with_reducible apply pull_cons; (repeat (first | with_reducible exact rem_here | with_reducible apply rem_there)))))) | apply (zs93 ?_) | apply (zs94 ?_) | fail)
        apply hK (0 + 1, A, cap)
        · refine ⟨by show 0 + 1 ≤ m; omega, fun k hk => ?_⟩
          obtain rfl : k = 0 := by have : k < 0 + 1 := hk; omega
          exact hbr
        · show m - (0 + 1) < m - 0
          omega
        · (repeat (first | exact sub_nil _ | (apply sub_cons; first | exact rfl | exact congrArg (fun z : Int => some (Value.int .i64 z)) (by omega))))
        · intro w hw
          have h5 : St B w0 (blk gs (.cells #[.int .i64 xa, .int .i64 xb, .slice A zeroS.cells.length cap] 30 (0, 0)) :: cels A cap zeroS.cells :: blk g (.cells (ls.map strV).toArray 9 (0, 0)) :: blk gr (.cells #[.int .i64 0, .int .i64 0, .slice none 0 0] 30 (0, 0)) :: H) w := by
            revert w
            (intro w hw; refine hw.perm ?_; focus repeat (first | with_reducible exact Perm.refl _ | (with_reducible apply perm_take; focus ((repeat (first | with_reducible exact rem_here | with_reducible apply rem_there)); done)) | with_reducible apply Perm.dropK))
          dsimp only
          rw [hst]
          exact h5
    · have hb : badRow ls i = 0 ∨ badRow ls i = 3 := by unfold badRow; split <;> simp
      repeat' (first | apply (zs1 ?_) | apply (zs2 ?_) | (apply zg3; refine zs60 ?_) | (apply zg5; refine zs57 ?_) | (apply zg7; (refine zs15 ?_ ?_ <;> intro _ <;> try (exfalso; omega))) | (apply (zs17 ?_ ?_) <;> intro _ <;> try (exfalso; omega)) | apply (zs65 ?_) | apply (zs68 ?_) | apply (zs69 ?_) | apply (zs70 ?_) | (apply zg27; first | refine zs71 ?_ | refine zs72 ?_) | apply (zs73 ?_) | apply (zs76 ?_) | fail)
      apply VL_call _ en62
      (repeat (first | exact args_nil | (apply args_cons; exact rfl)))
      exact rfl
      exact fun _ hw => (read_spec (lineAt ls i) wordC 5 hlm (by omega) ht (hw))
      intro v9 K9 hr9
      have hro : rowE i (lineAt ls i) = readE (lineAt ls i) wordC 5 := by
        unfold rowE wordOf manyOf
        rw [if_neg (by omega), if_neg (by omega)]
      cases hrow : readE (lineAt ls i) wordC 5 with
      | none =>
        rw [hrow] at hr9
        obtain ⟨rfl, rfl⟩ := hr9
        have hbr : badRow ls i = 3 := by unfold badRow; rw [hro, hrow]; rfl
        have hfa := firstF_at (f := badRow ls) (r := m) (i0 := 0) (i := i) (fun k _ hk => hall k hk) (Nat.zero_le _) (by omega) (by rw [hbr]; decide)
        repeat' (first | apply (zs1 ?_) | apply (zs2 ?_) | apply (zs13 ?_) | (apply zg20; refine zs48 ?_) | (apply zg22; refine zs51 ?_) | (apply zg25; refine zs55 ?_) | apply (zs65 ?_) | apply (zs68 ?_) | apply (zs69 ?_) | apply (zs70 ?_) | (apply zg27; refine zs71 ?_) | apply (zs73 ?_) | apply (zs74 ?_) | apply (zs77 ?_) | apply (zs78 ?_) | fail)
        apply VQ_retc3 T (H2 := cels none 0 [] :: H); exact rfl; exact rfl; exact rfl; exact rfl; (focus repeat (first | with_reducible exact List.mem_cons_self | with_reducible apply List.mem_cons_of_mem | assumption)); exact rfl; exact rfl; (intro w hw; refine St.nilSlice (H := H) ?_ _ _; revert w; (intro w hw; refine hw.perm ?_; focus repeat (first | with_reducible exact Perm.refl _ | (with_reducible apply perm_take; focus ((repeat (first | with_reducible exact rem_here | with_reducible apply rem_there)); done)) | with_reducible apply Perm.dropK)))
        exact outP_no i 3 (by rw [hpl, hfa, hbr]; rfl) rfl
      | some x =>
        rw [hrow] at hr9
        obtain ⟨Ax, capx, rfl, rfl⟩ := hr9
        have hbr : badRow ls i = 0 := by unfold badRow; rw [hro, hrow]; rfl
        obtain ⟨x1, x2, x3, x4, x5, rfl⟩ : ∃ a b c d e, x = [a, b, c, d, e] := by
          have h2 := (read_some hrow).2.1
          match x, h2 with
          | [a, b, c, d, e], _ => exact ⟨a, b, c, d, e, rfl⟩
        have hst : schTo ls (i + 1) = ⟨SC.len, SC.off, SC.cells ++ [(x1, x2, x3, x4, x5)]⟩ := by
          show stepS i (schTo ls i) _ = _
          rw [hro, hrow, hSC]
          unfold stepS
          rw [if_neg (by omega)]
          rfl
        unfold nrs cels
        rw [show ([x1, x2, x3, x4, x5] : List Int).length = 5 from rfl, show ([x1, x2, x3, x4, x5] : List Int).flatMap numF = [.int .i64 x1, .int .i64 x2, .int .i64 x3, .int .i64 x4, .int .i64 x5] from rfl]
        repeat' (first | apply (zs1 ?_) | apply (zs2 ?_) | apply (zs13 ?_) | (apply zg7; (refine zs15 ?_ ?_ <;> intro _ <;> try (exfalso; omega))) | (apply zg20; refine zs47 ?_) | apply (zs65 ?_) | apply (zs68 ?_) | apply (zs69 ?_) | apply (zs70 ?_) | (apply zg27; refine zs72 ?_) | apply (zs73 ?_) | fail)
        apply VC_heldH [0, 1, 2, 3, 4, 5, 6, 7, 8, 9, 10, 11, 12, 13, 14, 15, 16, 17, 18] [19, 20, 21] [true, true, false]
        kernel_rfl
        kernel_rfl
        (repeat (first | with_reducible exact split_nil | with_reducible apply split_t | with_reducible apply split_f))
        (simp only [pickOps, nthO]; rfl)
        (simp only [pickOps, nthO]; rfl)
        repeat' (first | (apply VL_load_sl T; exact rfl; (focus repeat (first | with_reducible exact List.mem_cons_self | with_reducible apply List.mem_cons_of_mem | assumption)); exact rfl; exact rfl; exact rfl) | apply (zs1 ?_) | (apply zg2; refine zs6 ?_) | (apply zg3; refine zs7 ?_) | (apply zg5; refine zs10 ?_) | (apply zg13; refine zs30 ?_) | (apply zg21; (refine zs49 ?_; intro _ _)) | (apply zg22; refine zs50 ?_) | (apply zg25; refine zs55 ?_) | (apply zg26; (refine zs56 ?_; intro _)) | apply (zs65 ?_) | (apply VL_nilh; (repeat (first | with_reducible exact app_nil | with_reducible apply app_cons | exact app_niln _))) | apply (zs68 ?_) | apply (zs70 ?_) | apply (zs79 ?_) | apply (zs87 ?_) | (apply VQ_heldq; (repeat (first | with_reducible exact pull_nil | (with_reducible apply pull_cons; (repeat (first | with_reducible exact rem_here | with_reducible apply rem_there)))))) | apply (zs93 ?_) | apply (zs94 ?_) | fail)
        rename_i gq A' cap'
        apply hK (i + 1, A', cap')
        · refine ⟨by show i + 1 ≤ m; omega, fun k hk => ?_⟩
          have hk : k < i + 1 := hk
          by_cases e : k = i
          · rw [e]; exact hbr
          · exact hall k (by omega)
        · show m - (i + 1) < m - i
          omega
        · (repeat (first | exact sub_nil _ | (apply sub_cons; first | exact rfl | exact congrArg (fun z : Int => some (Value.int .i64 z)) (by omega))))
        · intro w hw
          have e6 : sl 51 5 A' (SC.cells.length + 1) cap' (SC.cells.flatMap celF ++ #[Value.int .i64 x1, .int .i64 x2, .int .i64 x3, .int .i64 x4, .int .i64 x5].toList) = cels A' cap' (SC.cells ++ [(x1, x2, x3, x4, x5)]) := cels_snocR A' cap' SC.cells (x1, x2, x3, x4, x5)
          rw [e6, len_snoc SC.cells (x1, x2, x3, x4, x5)] at hw
          dsimp only
          rw [hst]
          unfold schP
          dsimp only
          revert w
          (intro w hw; refine hw.perm ?_; focus repeat (first | with_reducible exact Perm.refl _ | (with_reducible apply perm_take; focus ((repeat (first | with_reducible exact rem_here | with_reducible apply rem_there)); done)) | with_reducible apply Perm.dropK))
  · obtain rfl : i = m := by omega
    have hrp' : Rd B w0 (blk gs (.cells #[.int .i64 SC.len, .int .i64 SC.off, .slice A SC.cells.length cap] 30 (0, 0)) :: cels A cap SC.cells :: blk g (.cells (ls.map strV).toArray 9 (0, 0)) :: blk gr (.cells #[.int .i64 0, .int .i64 0, .slice none 0 0] 30 (0, 0)) :: H) (some ⟨g, 0, none⟩) (ls.flatMap strL) := hrp (by (focus repeat (first | with_reducible exact List.mem_cons_self | with_reducible apply List.mem_cons_of_mem | assumption)))
    have hz : firstF (badRow ls) i 0 = (-1, 0) := firstF_no fun k _ hk => hall k (by omega)
    have hgm : ls[(i : Int).toNat]? = some (lineAt ls i) := by
      unfold lineAt
      rw [List.getD_eq_getElem?_getD, Int.toNat_natCast, List.getElem?_eq_getElem (by omega)]
      rfl
    rw [hpl, hz, if_neg (by simp), hSC]
    repeat' (first | (apply VL_wneq (lineAt ls i) []; exact rfl; exact rfl; exact rfl; all_goals intro hwd) | apply (zs1 ?_) | apply (zs2 ?_) | (apply zg1; first | refine zs3 ?_ | refine zs4 ?_) | (apply zg3; first | refine zs8 ?_ | refine zs60 ?_) | (apply zg5; refine zs57 ?_) | (apply zg6; first | refine zs11 ?_ | refine zs12 ?_) | (apply zg7; (refine zs15 ?_ ?_ <;> intro _ <;> try (exfalso; omega))) | (apply (zs17 ?_ ?_) <;> intro _ <;> try (exfalso; omega)) | (apply zg22; refine zs51 ?_) | (apply zg25; refine zs55 ?_) | apply (zs65 ?_) | apply (zs68 ?_) | apply (zs69 ?_) | apply (zs70 ?_) | (apply zg27; first | refine zs71 ?_ | refine zs72 ?_) | apply (zs74 ?_) | apply (zs75 ?_) | apply (zs76 ?_) | apply (zs77 ?_) | apply (zs80 ?_) | apply (zs81 ?_) | fail)
    · apply VQ_retc3 T (H2 := cels none 0 [] :: H); exact rfl; exact rfl; exact rfl; exact rfl; (focus repeat (first | with_reducible exact List.mem_cons_self | with_reducible apply List.mem_cons_of_mem | assumption)); exact rfl; exact rfl; (intro w hw; refine St.nilSlice (H := H) ?_ _ _; revert w; (intro w hw; refine hw.perm ?_; focus repeat (first | with_reducible exact Perm.refl _ | (with_reducible apply perm_take; focus ((repeat (first | with_reducible exact rem_here | with_reducible apply rem_there)); done)) | with_reducible apply Perm.dropK)))
      exact outP_no i 3 (by rw [if_pos (.inl (by omega))]) rfl
    · apply VQ_retc3 T (H2 := cels none 0 [] :: H); exact rfl; exact rfl; exact rfl; exact rfl; (focus repeat (first | with_reducible exact List.mem_cons_self | with_reducible apply List.mem_cons_of_mem | assumption)); exact rfl; exact rfl; (intro w hw; refine St.nilSlice (H := H) ?_ _ _; revert w; (intro w hw; refine hw.perm ?_; focus repeat (first | with_reducible exact Perm.refl _ | (with_reducible apply perm_take; focus ((repeat (first | with_reducible exact rem_here | with_reducible apply rem_there)); done)) | with_reducible apply Perm.dropK)))
      exact outP_no i 3 (by rw [if_pos (.inr hwd)]) rfl
    have hrc : ∀ X, Rd B w0 (blk gs (.cells #[.int .i64 SC.len, .int .i64 SC.off, .slice A SC.cells.length cap] 30 (0, 0)) :: cels A cap SC.cells :: X) A (SC.cells.flatMap celF) := fun X => Rd.cels (cap := cap) (.tail _ (.head _))
    rw [if_neg (by rintro (h | h); omega; exact h hwd)]
    obtain ⟨SM, hSM⟩ : ∃ SM : SchM, SM = ⟨SC.len, SC.off, A, cap, SC.cells⟩ := ⟨_, rfl⟩
    have hss : SM.sch = SC := by rw [hSM]; rfl
    have hfc := fun {H' : List HP} {w : World} (hr : Rd B w0 H' SM.A (SM.cells.flatMap celF)) (hw : St B w0 H' w) => form_spec SM hr (by rw [hSM]; show SC.cells.length ≤ _; omega) hw
    rw [hss, hSM] at hfc
    cases hf : formE SC with
    | false =>
      rw [hf] at hfc
      repeat' (first | ((first | apply VL_callt en53 | apply VL_callq en53); (repeat (first | exact args_nil | (apply args_cons; exact rfl))); exact rfl; exact fun _ hw => (hfc (hrc _) hw)) | apply (zs2 ?_) | (apply zg20; refine zs48 ?_) | (apply zg22; refine zs51 ?_) | (apply zg25; refine zs55 ?_) | apply (zs65 ?_) | apply (zs68 ?_) | apply (zs69 ?_) | apply (zs70 ?_) | (apply zg27; refine zs71 ?_) | apply (zs74 ?_) | apply (zs77 ?_) | fail)
      apply VQ_retc3 T (H2 := cels none 0 [] :: H); exact rfl; exact rfl; exact rfl; exact rfl; (focus repeat (first | with_reducible exact List.mem_cons_self | with_reducible apply List.mem_cons_of_mem | assumption)); exact rfl; exact rfl; (intro w hw; refine St.nilSlice (H := H) ?_ _ _; revert w; (intro w hw; refine hw.perm ?_; focus repeat (first | with_reducible exact Perm.refl _ | (with_reducible apply perm_take; focus ((repeat (first | with_reducible exact rem_here | with_reducible apply rem_there)); done)) | with_reducible apply Perm.dropK)))
      exact outP_no (-1) 1 (by rw [if_pos rfl]) rfl
    | true =>
      rw [hf] at hfc
      repeat' (first | ((first | apply VL_callt en53 | apply VL_callq en53); (repeat (first | exact args_nil | (apply args_cons; exact rfl))); exact rfl; exact fun _ hw => (hfc (hrc _) hw)) | apply (zs2 ?_) | (apply zg3; refine zs8 ?_) | (apply zg20; refine zs47 ?_) | (apply zg22; refine zs51 ?_) | apply (zs65 ?_) | apply (zs68 ?_) | apply (zs69 ?_) | apply (zs70 ?_) | (apply zg27; refine zs72 ?_) | apply (zs74 ?_) | apply (zs76 ?_) | fail)
      apply VQ_retc3 T (H2 := cels A cap SC.cells :: H); exact rfl; exact rfl; exact rfl; exact rfl; (focus repeat (first | with_reducible exact List.mem_cons_self | with_reducible apply List.mem_cons_of_mem | assumption)); exact rfl; exact rfl; (intro w hw; refine hw.perm ?_; focus repeat (first | with_reducible exact Perm.refl _ | (with_reducible apply perm_take; focus ((repeat (first | with_reducible exact rem_here | with_reducible apply rem_there)); done)) | with_reducible apply Perm.dropK))
      exact ⟨A, cap, rfl, rfl⟩
end Go.Proofs.YtnkpfpgmbpnbgaaGreatDoor

/- Walks: the example of the chapter, and awake. -/
namespace Go.Proofs.YtnkpfpgmbpnbgaaGreatDoor
open Go.RowKit Go.Eng Go.Nw

def zeroN : NetM := ⟨0, none, 0, [], 0, 0, none, 0, [], none, 0, []⟩
theorem zeroN_in {B : Nat} {w0 : World} {K : List HP} : zeroN.In B w0 K := ⟨Rd.nil, fun _ h => (by cases h), Rd.nil, Rd.nil, by simp [zeroN], fun _ h => (by cases h), by simp [zeroN], by simp [zeroN]⟩
theorem zeroN_bad : checkE zeroN.net ≠ 0 := by decide
theorem check_arg (n : NetM) (l : Value) (s : SchM) (h : checkE n.net ≠ 0) {B : Nat} {w0 : World} {H : List HP} {w : World} (hin : n.In B w0 H) (hw : St B w0 H w) :
    Calls Tryz.prog 14 [n.val, l, s.val].toArray w (Post B w0 fun v K => v = .tuple #[.int .i64 (-1), .int .i64 1] ∧ K = H) := by
  refine Calls_of_VC Tryz.func14 Tryz.ntmps14 rfl rfl hw ?_
  repeat' (first | ((first | apply VL_callt en38 | apply VL_callq en38); (repeat (first | exact args_nil | (apply args_cons; exact rfl))); exact rfl; exact fun _ hw => (check_spec n hin.cons.cons hw)) | apply (zs2 ?_) | (apply zg3; refine zs8 ?_) | (apply zg8; (refine zs16 ?_ ?_ <;> intro _ <;> try (exfalso; omega))) | (apply zg23; (refine zs52 ?_; intro _)) | apply (zs65 ?_) | apply (zs68 ?_) | apply (zs69 ?_) | apply (zs70 ?_) | (apply zg27; refine zs71 ?_) | apply (zs74 ?_) | apply (zs77 ?_) | fail)
  apply VQ_st H
  · (intro w hw; refine hw.perm ?_; focus repeat (first | with_reducible exact Perm.refl _ | (with_reducible apply perm_take; focus ((repeat (first | with_reducible exact rem_here | with_reducible apply rem_there)); done)) | with_reducible apply Perm.dropK))
  apply VQ_ret2; exact rfl; exact rfl; exact rfl; exact ⟨rfl, rfl⟩

def exC : List Cel := [(0, 0, 0, 1, 5), (2, 1, 1, 2, 5)]
def exS (A : Option Addr) (cap : Nat) : SchM := ⟨4, 2, A, cap, exC⟩
def exE : Sch := ⟨4, 2, exC⟩
def exT : List UInt8 := [115, 99, 104, 101, 100, 117, 108, 101, 32, 52, 32, 50, 10, 99, 101, 108, 108, 32, 48, 32, 48, 32, 48, 32, 49, 32, 53, 10, 99, 101, 108, 108, 32, 50, 32, 49, 32, 49, 32, 50, 32, 53, 10]
theorem ex_form : formE exE = true := by decide
theorem itoa_one {n : Int} (h : 0 ≤ n ∧ n < 10) : Lib.itoa n = [UInt8.ofNat (48 + n.toNat)] := by
  rw [itoa_nat h.1, Lib.decDigits_one (by omega)]
theorem ex_text : textE exE = exT := by
  unfold textE lineB bodyB exE exC nums
  simp only [List.flatMap_cons, List.flatMap_nil]
  repeat rw [itoa_one (by omega)]
  rfl
theorem ex_at : atE exE 6 = [(2, 1, 1, 2, 5)] := by decide
theorem exa_spec {B : Nat} {w0 : World} {H : List HP} {w : World} (hw : St B w0 H w) :
    Calls Tryz.prog 37 [].toArray w (Post B w0 fun v K => ∃ A cap, v = .agg #[.int .i64 4, .int .i64 2, .slice A exC.length cap] ∧ K = cels A cap exC :: H) := by
  refine Calls_of_VC Tryz.func37 Tryz.ntmps37 rfl rfl hw ?_
  repeat' (first | (apply zg22; refine zs51 ?_) | (apply zg24; (refine zs54 ?_; intro _)) | (apply zg25; refine zs55 ?_) | (apply zg26; (refine zs56 ?_; intro _)) | apply (zs65 ?_) | apply (zs68 ?_) | apply (zs69 ?_) | apply (zs70 ?_) | apply (zs74 ?_) | fail)
  rename_i g1 g2
  apply VQ_retc1 T (H2 := cels (some ⟨g2, 0, none⟩) 2 exC :: H); exact rfl; exact rfl; (focus repeat (first | with_reducible exact List.mem_cons_self | with_reducible apply List.mem_cons_of_mem | assumption)); exact rfl; exact rfl
  · intro w hw
    have h2 := St.blk_sl (e := 51) (size := 5) (len := 2) (cs := exC.flatMap celF) hw rfl (by decide)
    exact (h2.perm (.swap _ _ _)).tail
  · exact ⟨some ⟨g2, 0, none⟩, 2, rfl, rfl⟩
set_option maxRecDepth 10000 in
set_option maxHeartbeats 2000000 in
theorem wake_spec {B : Nat} {w0 : World} {H : List HP} {w : World} (ht : TabsB B w0) (hw : St B w0 H w) :
    Calls Tryz.prog 11 [].toArray w (Post B w0 fun v K => v = .bool true ∧ K = H) := by
  refine Calls_of_VC Tryz.func11 Tryz.ntmps11 rfl rfl hw ?_
  have hpr : printE exE = (exT, 0) := by unfold printE; rw [ex_form, if_neg (by decide), ex_text]
  have hpa : parseE exT = (exE, (-1, 0)) := by rw [← ex_text]; exact parse_print ex_form
  repeat' (first | apply (zs2 ?_) | apply (zs65 ?_) | apply (zs68 ?_) | apply (zs69 ?_) | apply (zs70 ?_) | fail)
  apply VL_call _ en37
  (repeat (first | exact args_nil | (apply args_cons; exact rfl)))
  exact rfl
  exact fun _ hw => (exa_spec (hw))
  rintro _ _ ⟨A, cap, rfl, rfl⟩
  repeat' (first | (apply zg3; refine zs8 ?_) | (apply zg22; refine zs51 ?_) | (apply zg24; (refine zs54 ?_; intro _)) | apply (zs65 ?_) | apply (zs68 ?_) | apply (zs69 ?_) | apply (zs70 ?_) | fail)
  rename_i g1
  have hlc : (exS A cap).cells.length ≤ 1000000000000 := by show 2 ≤ _; omega
  have hrA : ∀ {L : List HP}, cels A cap exC ∈ L → Rd B w0 L A (exC.flatMap celF) := fun h => Rd.cels h
  have hp : ∀ {H' : List HP} {w : World}, Rd B w0 H' A (exC.flatMap celF) → St B w0 H' w → Calls Tryz.prog 16 [.agg #[.int .i64 4, .int .i64 2, .slice A exC.length cap]].toArray w (Post B w0 fun v K => v = .tuple #[strV exT, .int .i64 0] ∧ K = H') := fun hr hw => by
    have h := print_spec (exS A cap) ht hr hlc hw
    rw [show (exS A cap).sch = exE from rfl, hpr] at h
    exact h
  have hq : ∀ {H' : List HP} {w : World}, St B w0 H' w → Calls Tryz.prog 18 [strV exT].toArray w (Post B w0 fun v K => ∃ A cap, v = .tuple #[.agg #[.int .i64 4, .int .i64 2, .slice A exC.length cap], .int .i64 (-1), .int .i64 0] ∧ K = cels A cap exC :: H') := fun hw => by
    have h := parse_spec exT (by decide) ht hw
    rw [hpa] at h
    exact h
  have ha : ∀ {H' : List HP} {w : World}, Rd B w0 H' A (exC.flatMap celF) → St B w0 H' w → Calls Tryz.prog 23 [.agg #[.int .i64 4, .int .i64 2, .slice A exC.length cap], .int .i64 6].toArray w (Post B w0 fun v K => ∃ A cap, v = .slice A [((2, 1, 1, 2, 5) : Cel)].length cap ∧ K = cels A cap [(2, 1, 1, 2, 5)] :: H') := fun hr hw => by
    have h := at_spec (exS A cap) 6 hr hlc hw
    rw [show (exS A cap).sch = exE from rfl, ex_at] at h
    exact h
  first | apply VL_callt en16 | apply VL_callq en16
  (repeat (first | exact args_nil | (apply args_cons; exact rfl)))
  exact rfl
  exact fun _ hw => (hp (hrA (by (focus repeat (first | with_reducible exact List.mem_cons_self | with_reducible apply List.mem_cons_of_mem | assumption)))) hw)
  repeat' (first | apply (zs1 ?_) | apply (zs2 ?_) | apply (zs13 ?_) | apply (zs65 ?_) | apply (zs68 ?_) | apply (zs69 ?_) | apply (zs70 ?_) | fail)
  apply VL_call _ en18
  (repeat (first | exact args_nil | (apply args_cons; exact rfl)))
  exact rfl
  exact fun _ hw => (hq (hw))
  rintro _ _ ⟨A2, cap2, rfl, rfl⟩
  repeat' (first | apply (zs1 ?_) | apply (zs2 ?_) | (apply zg3; refine zs8 ?_) | apply (zs13 ?_) | (apply zg22; refine zs51 ?_) | (apply zg24; (refine zs54 ?_; intro _)) | apply (zs65 ?_) | apply (zs68 ?_) | apply (zs69 ?_) | apply (zs70 ?_) | fail)
  apply VL_call _ en23
  (repeat (first | exact args_nil | (apply args_cons; exact rfl)))
  exact rfl
  exact fun _ hw => (ha (hrA (by (focus repeat (first | with_reducible exact List.mem_cons_self | with_reducible apply List.mem_cons_of_mem | assumption)))) (hw))
  rintro _ _ ⟨A3, cap3, rfl, rfl⟩
  repeat' (first | apply (zs2 ?_) | (apply zg3; refine zs8 ?_) | (apply zg25; refine zs55 ?_) | apply (zs65 ?_) | apply (zs68 ?_) | apply (zs69 ?_) | apply (zs70 ?_) | fail)
  first | apply VL_callt en14 | apply VL_callq en14
  (repeat (first | exact args_nil | (apply args_cons; exact rfl)))
  exact rfl
  exact fun _ hw => (check_arg zeroN _ (exS A cap) zeroN_bad zeroN_in hw)
  have hg0 : [((2, 1, 1, 2, 5) : Cel)][(0 : Int).toNat]? = some (2, 1, 1, 2, 5) := rfl
  have hg1 : exC[(1 : Int).toNat]? = some (2, 1, 1, 2, 5) := rfl
  have hlx : exC.length = 2 := rfl
  have hl1 : [((2, 1, 1, 2, 5) : Cel)].length = 1 := rfl
  have hsm : ∀ {H' : List HP} {w : World}, Rd B w0 H' A (exC.flatMap celF) → Rd B w0 H' A2 (exC.flatMap celF) → St B w0 H' w → Calls Tryz.prog 20 [.agg #[.int .i64 4, .int .i64 2, .slice A exC.length cap], .agg #[.int .i64 4, .int .i64 2, .slice A2 exC.length cap2]].toArray w (Post B w0 fun v K => v = .bool true ∧ K = H') := fun hr hr2 hw => by
    have h := rsame_spec (exS A cap) (exS A2 cap2) hlc hlc hr hr2 hw
    rw [decide_eq_true ⟨rfl, rfl, rfl⟩] at h
    exact h
  unfold cels
  repeat' (first | (apply VL_seql; exact rfl; exact rfl; exact rfl; all_goals (intro hE; try (exact absurd rfl hE))) | ((first | apply VL_callt en20 | apply VL_callq en20); (repeat (first | exact args_nil | (apply args_cons; exact rfl))); exact rfl; exact fun _ hw => (hsm (Rd.sl (by (focus repeat (first | with_reducible exact List.mem_cons_self | with_reducible apply List.mem_cons_of_mem | assumption)))) (Rd.sl (by (focus repeat (first | with_reducible exact List.mem_cons_self | with_reducible apply List.mem_cons_of_mem | assumption)))) hw)) | (apply VL_ceql (2, 1, 1, 2, 5) (2, 1, 1, 2, 5); exact rfl; exact rfl; exact rfl; all_goals (intro hE; try (exact absurd rfl hE))) | apply (zs1 ?_) | apply (zs2 ?_) | (apply zg1; refine zs4 ?_) | (apply zg2; refine zs6 ?_) | (apply zg3; first | refine zs7 ?_ | refine zs8 ?_ | refine zs61 ?_) | (apply zg4; refine zs9 ?_) | (apply zg5; refine zs10 ?_) | (apply zg6; refine zs11 ?_) | apply (zs13 ?_) | (apply zg7; (refine zs15 ?_ ?_ <;> intro _ <;> try (exfalso; omega))) | apply (zs65 ?_) | apply (zs66 ?_) | apply (zs68 ?_) | apply (zs69 ?_) | apply (zs74 ?_) | (apply zg28; refine zs84 ?_) | fail)
  apply VQ_st H
  · (intro w hw; refine hw.perm ?_; focus repeat (first | with_reducible exact Perm.refl _ | (with_reducible apply perm_take; focus ((repeat (first | with_reducible exact rem_here | with_reducible apply rem_there)); done)) | with_reducible apply Perm.dropK))
  apply VQ_ret1; exact rfl; exact rfl
  exact ⟨rfl, rfl⟩
end Go.Proofs.YtnkpfpgmbpnbgaaGreatDoor

/- Walks: the reference's Less, right, Formed, SameCells, Same, Few, Has. -/
namespace Go.Proofs.YtnkpfpgmbpnbgaaGreatDoor
open Go.RowKit Go.Eng Go.Nw

theorem rin_spec (a lo hi : Int) {B : Nat} {w0 : World} {H : List HP} {w : World} (hw : St B w0 H w) :
    Calls Tryz.prog 47 [.int .i64 a, .int .i64 lo, .int .i64 hi].toArray w (Post B w0 fun v K => v = .bool (decide (lo ≤ a ∧ a ≤ hi)) ∧ K = H) := by
  refine Calls_of_VC Tryz.func47 Tryz.ntmps47 rfl rfl hw ?_
  repeat' (first | apply (zs1 ?_) | apply (zs2 ?_) | (apply zg1; first | refine zs3 ?_ | refine zs4 ?_) | (apply zg6; first | refine zs11 ?_ | refine zs12 ?_) | (apply (zs18 ?_ ?_) <;> intro _ <;> try (exfalso; omega)) | (apply (zs20 ?_ ?_) <;> intro _ <;> try (exfalso; omega)) | apply (zs65 ?_) | apply (zs68 ?_) | apply (zs69 ?_) | apply (zs70 ?_) | apply (zs74 ?_) | fail)
  all_goals (
    apply VQ_ret1; exact rfl; exact rfl
    first
      | exact ⟨by rw [decide_eq_true (by omega)], rfl⟩
      | exact ⟨by rw [decide_eq_false (by omega)], rfl⟩)
theorem rnumbers_spec (c : Cel) {B : Nat} {w0 : World} {H : List HP} {w : World} (hw : St B w0 H w) :
    Calls Tryz.prog 60 [celV c].toArray w (Post B w0 fun v K => ∃ g, v = .slice (some ⟨g, 0, none⟩) 5 5 ∧ K = blk g (.cells (celF c).toArray 3 (0, 0)) :: H) := by
  refine Calls_of_VC Tryz.func60 Tryz.ntmps60 rfl rfl hw ?_
  repeat' (first | apply (zs2 ?_) | (apply zg2; refine zs6 ?_) | (apply zg3; refine zs7 ?_) | (apply zg23; (refine zs52 ?_; intro _)) | (apply zg26; (refine zs56 ?_; intro _)) | apply (zs65 ?_) | apply (zs68 ?_) | apply (zs69 ?_) | apply (zs70 ?_) | apply (zs74 ?_) | fail)
  rename_i g
  apply VQ_st (blk g (.cells (celF c).toArray 3 (0, 0)) :: H)
  · unfold celF
    (intro w hw; refine hw.perm ?_; focus repeat (first | with_reducible exact Perm.refl _ | (with_reducible apply perm_take; focus ((repeat (first | with_reducible exact rem_here | with_reducible apply rem_there)); done)) | with_reducible apply Perm.dropK))
  apply VQ_ret1; exact rfl; exact rfl
  exact ⟨_, rfl, rfl⟩
set_option maxRecDepth 10000 in
set_option maxHeartbeats 2000000 in
theorem rless_spec (a b : Cel) {B : Nat} {w0 : World} {H : List HP} {w : World} (hw : St B w0 H w) :
    Calls Tryz.prog 50 [celV a, celV b].toArray w (Post B w0 fun v K => v = .bool (celLt a b) ∧ K = H) := by
  refine Calls_of_VC Tryz.func50 Tryz.ntmps50 rfl rfl hw ?_
  apply VC_seq
  iterate 5 (first | apply (zs2 ?_) | (apply zg23; (refine zs52 ?_; intro _)) | apply (zs65 ?_) | apply (zs70 ?_) | fail)
  apply VQ_then
  apply VC_seq
  refine VC_cutQ (fun (z : Nat × Nat) => [(5, .slice (some ⟨z.1, 0, none⟩) 5 5), (6, .slice (some ⟨z.2, 0, none⟩) 5 5)]) (fun z => blk z.1 (.cells (celF a).toArray 3 (0, 0)) :: blk z.2 (.cells (celF b).toArray 3 (0, 0)) :: H) ?_ ?_
  · intro K hK
    apply VC_treeU (.n1 0 (.n1 2 (.n2 1 (.n1 3 .done) 3 (.n1 1 .done)))) [4, 5] [true, true]
    kernel_rfl
    kernel_rfl
    (repeat (first | with_reducible exact split_nil | with_reducible apply split_t | with_reducible apply split_f))
    (simp only [pickOps, nthO]; rfl)
    repeat' (first | ((apply VL_call _ en60); (repeat (first | exact args_nil | (apply args_cons; exact rfl))); exact rfl; exact fun _ hw => rnumbers_spec _ hw; rintro _ _ ⟨g9, rfl, rfl⟩) | (apply VU_n2; (simp only [nthO]; rfl); (simp only [nthO]; rfl)) | (apply VU_n1; (simp only [nthO]; rfl)) | (apply VQ_treeu; (repeat (first | with_reducible exact pull_nil | (with_reducible apply pull_cons; (repeat (first | with_reducible exact rem_here | with_reducible apply rem_there)))))) | (apply VU_done; (repeat (first | with_reducible exact app_nil | with_reducible apply app_cons | exact app_niln _))) | apply (zs2 ?_) | (apply zg3; refine zs8 ?_) | apply (zs65 ?_) | (apply VL_nilh; (repeat (first | with_reducible exact app_nil | with_reducible apply app_cons | exact app_niln _))) | apply (zs87 ?_) | (apply VQ_heldq; (repeat (first | with_reducible exact pull_nil | (with_reducible apply pull_cons; (repeat (first | with_reducible exact rem_here | with_reducible apply rem_there)))))) | apply (zs93 ?_) | apply (zs94 ?_) | fail)
    all_goals (
      rename_i gx
      first
        | (refine hK (gx, g9) _ _ (by ((repeat (first | exact sub_nil _ | (apply sub_cons; first | exact rfl | exact congrArg (fun z : Int => some (Value.int .i64 z)) (by omega)))))) ?_; dsimp only [celF]; ((intro w hw; refine hw.perm ?_; focus repeat (first | with_reducible exact Perm.refl _ | (with_reducible apply perm_take; focus ((repeat (first | with_reducible exact rem_here | with_reducible apply rem_there)); done)) | with_reducible apply Perm.dropK))); done)
        | (refine hK (g9, gx) _ _ (by ((repeat (first | exact sub_nil _ | (apply sub_cons; first | exact rfl | exact congrArg (fun z : Int => some (Value.int .i64 z)) (by omega)))))) ?_; dsimp only [celF]; ((intro w hw; refine hw.perm ?_; focus repeat (first | with_reducible exact Perm.refl _ | (with_reducible apply perm_take; focus ((repeat (first | with_reducible exact rem_here | with_reducible apply rem_there)); done)) | with_reducible apply Perm.dropK))); done))
  rintro ⟨g1, g2⟩
  dsimp only
  have hA : Rd B w0 (blk g1 (.cells (celF a).toArray 3 (0, 0)) :: blk g2 (.cells (celF b).toArray 3 (0, 0)) :: H) (some ⟨g1, 0, none⟩) ((nums a).flatMap numF) := Rd.blk (cs := (celF a).toArray) (.head _)
  have hB : Rd B w0 (blk g1 (.cells (celF a).toArray 3 (0, 0)) :: blk g2 (.cells (celF b).toArray 3 (0, 0)) :: H) (some ⟨g2, 0, none⟩) ((nums b).flatMap numF) := Rd.blk (cs := (celF b).toArray) (.tail _ (.head _))
  have la : (nums a).length = 5 := rfl
  have lb : (nums b).length = 5 := rfl
  repeat' (first | apply (zs2 ?_) | apply (zs65 ?_) | apply (zs68 ?_) | apply (zs69 ?_) | apply (zs70 ?_) | apply (zs73 ?_) | fail)
  refine VC_loop1 (fun (i : Nat) => [(7, .int .i64 i), (5, .slice (some ⟨g1, 0, none⟩) (nums a).length 5), (6, .slice (some ⟨g2, 0, none⟩) (nums b).length 5)]) (fun _ => blk g1 (.cells (celF a).toArray 3 (0, 0)) :: blk g2 (.cells (celF b).toArray 3 (0, 0)) :: H) (fun i => i ≤ 5 ∧ celLt a b = lexLt ((nums a).drop i) ((nums b).drop i)) (fun i => 5 - i) 0 ⟨Nat.zero_le _, rfl⟩ ?_ (fun w hw => hw) ?_
  · (repeat (first | exact sub_nil _ | (apply sub_cons; first | exact rfl | exact congrArg (fun z : Int => some (Value.int .i64 z)) (by omega))))
  rintro i ⟨hi, he⟩ K hK
  by_cases hlt : i < 5
  · obtain ⟨x, hx⟩ : ∃ x, (nums a)[i]? = some x := ⟨_, List.getElem?_eq_getElem (by omega)⟩
    obtain ⟨y, hy⟩ : ∃ y, (nums b)[i]? = some y := ⟨_, List.getElem?_eq_getElem (by omega)⟩
    rw [lex_drop hx hy] at he
    by_cases hxy : x = y
    · rw [if_neg (by simp [hxy])] at he
      repeat' (first | apply (zs1 ?_) | apply (zs2 ?_) | (apply zg3; refine zs60 ?_) | (apply zg4; refine zs9 ?_) | (apply zg5; refine zs57 ?_) | (apply zg8; (refine zs16 ?_ ?_ <;> intro _ <;> try (exfalso; omega))) | (apply (zs17 ?_ ?_) <;> intro _ <;> try (exfalso; omega)) | (apply zg13; refine zs30 ?_) | apply (zs65 ?_) | apply (zs66 ?_) | apply (zs68 ?_) | apply (zs69 ?_) | apply (zs70 ?_) | (apply zg27; first | refine zs71 ?_ | refine zs72 ?_) | apply (zs73 ?_) | apply (zs76 ?_) | apply (zs79 ?_) | (apply zg28; refine zs83 ?_) | fail)
      apply hK (i + 1)
      · exact ⟨by omega, he⟩
      · omega
      · (repeat (first | exact sub_nil _ | (apply sub_cons; first | exact rfl | exact congrArg (fun z : Int => some (Value.int .i64 z)) (by omega))))
      · exact fun w hw => hw
    · rw [if_pos hxy] at he
      rw [he]
      clear hK
      repeat' (first | apply (zs1 ?_) | apply (zs2 ?_) | (apply zg3; refine zs60 ?_) | (apply zg4; refine zs9 ?_) | (apply zg5; refine zs57 ?_) | (apply zg8; (refine zs16 ?_ ?_ <;> intro _ <;> try (exfalso; omega))) | (apply (zs17 ?_ ?_) <;> intro _ <;> try (exfalso; omega)) | apply (zs65 ?_) | apply (zs66 ?_) | apply (zs68 ?_) | apply (zs69 ?_) | apply (zs70 ?_) | (apply zg27; refine zs71 ?_) | apply (zs73 ?_) | apply (zs74 ?_) | apply (zs76 ?_) | apply (zs77 ?_) | apply (zs78 ?_) | (apply zg28; refine zs83 ?_) | fail)
      all_goals (
        apply VQ_st H
        · (intro w hw; refine hw.perm ?_; focus repeat (first | with_reducible exact Perm.refl _ | (with_reducible apply perm_take; focus ((repeat (first | with_reducible exact rem_here | with_reducible apply rem_there)); done)) | with_reducible apply Perm.dropK))
        apply VQ_ret1; exact rfl; exact rfl
        first
          | exact ⟨by rw [decide_eq_true (by omega)], rfl⟩
          | exact ⟨by rw [decide_eq_false (by omega)], rfl⟩)
  · obtain rfl : i = 5 := by omega
    repeat' (first | apply (zs1 ?_) | apply (zs2 ?_) | (apply zg4; refine zs9 ?_) | (apply (zs17 ?_ ?_) <;> intro _ <;> try (exfalso; omega)) | apply (zs65 ?_) | apply (zs68 ?_) | apply (zs69 ?_) | apply (zs70 ?_) | (apply zg27; refine zs72 ?_) | apply (zs74 ?_) | apply (zs75 ?_) | apply (zs80 ?_) | apply (zs81 ?_) | fail)
    apply VQ_st H
    · (intro w hw; refine hw.perm ?_; focus repeat (first | with_reducible exact Perm.refl _ | (with_reducible apply perm_take; focus ((repeat (first | with_reducible exact rem_here | with_reducible apply rem_there)); done)) | with_reducible apply Perm.dropK))
    apply VQ_ret1; exact rfl; exact rfl
    exact ⟨by rw [he]; rfl, rfl⟩

theorem rright_spec (s : SchM) (c : Cel) (hs : 1 ≤ s.len ∧ s.len ≤ 512 ∧ 1 ≤ s.off ∧ s.off ≤ 16) {B : Nat} {w0 : World} {H : List HP} {w : World} (hw : St B w0 H w) :
    Calls Tryz.prog 73 [s.val, celV c].toArray w (Post B w0 fun v K => v = .bool (formedE s.sch c) ∧ K = H) := by
  refine Calls_of_VC Tryz.func73 Tryz.ntmps73 rfl rfl hw ?_
  repeat' (first | ((first | apply VL_calltb en47 | apply VL_callqb en47); (repeat (first | exact args_nil | (apply args_cons; exact rfl))); exact rfl; exact fun _ hw => (rin_spec _ _ _ hw); all_goals (intro hB; (try simp only [decide_eq_true_eq, decide_eq_false_iff_not] at hB); try (exfalso; omega))) | apply (zs1 ?_) | apply (zs2 ?_) | (apply zg1; first | refine zs3 ?_ | refine zs4 ?_) | (apply zg2; refine zs6 ?_) | (apply zg3; refine zs7 ?_) | (apply zg6; first | refine zs11 ?_ | refine zs12 ?_) | (apply zg14; refine zs31 ?_) | (apply zg23; (refine zs52 ?_; intro _)) | apply (zs65 ?_) | apply (zs68 ?_) | apply (zs69 ?_) | apply (zs70 ?_) | apply (zs74 ?_) | fail)
  all_goals (
    apply VQ_st H
    · (intro w hw; refine hw.perm ?_; focus repeat (first | with_reducible exact Perm.refl _ | (with_reducible apply perm_take; focus ((repeat (first | with_reducible exact rem_here | with_reducible apply rem_there)); done)) | with_reducible apply Perm.dropK))
    apply VQ_ret1; exact rfl; exact rfl
    first
      | exact ⟨by rw [show formedE s.sch c = true by (unfold formedE placedE insE SchM.sch; simp only [Bool.and_eq_true, decide_eq_true_eq]; omega)], rfl⟩
      | exact ⟨by rw [show formedE s.sch c = false by (rw [Bool.eq_false_iff]; unfold formedE placedE insE SchM.sch; simp only [ne_eq, Bool.and_eq_true, decide_eq_true_eq]; omega)], rfl⟩)
end Go.Proofs.YtnkpfpgmbpnbgaaGreatDoor

/- Walks: the reference's Formed, At. -/
namespace Go.Proofs.YtnkpfpgmbpnbgaaGreatDoor
open Go.RowKit Go.Eng Go.Nw

set_option maxRecDepth 10000 in
set_option maxHeartbeats 2000000 in
theorem rformed_spec (s : SchM) {B : Nat} {w0 : World} {H : List HP} {w : World} (hr : Rd B w0 H s.A (s.cells.flatMap celF)) (hl : s.cells.length ≤ 1000000000000) (hw : St B w0 H w) :
    Calls Tryz.prog 58 [s.val].toArray w (Post B w0 fun v K => v = .bool (formE s.sch) ∧ K = H) := by
  refine Calls_of_VC Tryz.func58 Tryz.ntmps58 rfl rfl hw ?_
  have e1 : s.sch.cells = s.cells := rfl
  have e2 : s.sch.len = s.len := rfl
  have e3 : s.sch.off = s.off := rfl
  have e4 : s.sch.cells.length = s.cells.length := rfl
  have hno : ¬ (1 ≤ s.len ∧ s.len ≤ 512 ∧ 1 ≤ s.off ∧ s.off ≤ 16 ∧ s.cells.length ≤ 512) → formE s.sch = false := fun h => by
    rw [Bool.eq_false_iff]
    intro hh
    have h0 := form_iff.1 hh
    have h1 := of_decide_eq_true h0.sized
    have h2 := h0.few
    omega
  by_cases hz : 1 ≤ s.len ∧ s.len ≤ 512 ∧ 1 ≤ s.off ∧ s.off ≤ 16 ∧ s.cells.length ≤ 512
  rotate_left
  · rw [hno hz]
    repeat' (first | ((first | apply VL_calltb en47 | apply VL_callqb en47); (repeat (first | exact args_nil | (apply args_cons; exact rfl))); exact rfl; exact fun _ hw => (rin_spec _ _ _ hw); all_goals (intro hB; (try simp only [decide_eq_true_eq, decide_eq_false_iff_not] at hB); try (exfalso; omega))) | apply (zs1 ?_) | apply (zs2 ?_) | (apply zg1; first | refine zs3 ?_ | refine zs4 ?_) | (apply zg2; refine zs6 ?_) | (apply zg3; refine zs7 ?_) | (apply zg4; refine zs9 ?_) | (apply zg6; first | refine zs11 ?_ | refine zs12 ?_) | (apply (zs19 ?_ ?_) <;> intro _ <;> try (exfalso; omega)) | (apply zg20; first | refine zs47 ?_ | refine zs48 ?_) | (apply zg23; (refine zs52 ?_; intro _)) | apply (zs65 ?_) | apply (zs68 ?_) | apply (zs69 ?_) | apply (zs70 ?_) | (apply zg27; refine zs71 ?_) | apply (zs74 ?_) | apply (zs77 ?_) | fail)
    all_goals (
      apply VQ_st H
      · (intro w hw; refine hw.perm ?_; focus repeat (first | with_reducible exact Perm.refl _ | (with_reducible apply perm_take; focus ((repeat (first | with_reducible exact rem_here | with_reducible apply rem_there)); done)) | with_reducible apply Perm.dropK))
      apply VQ_ret1; exact rfl; exact rfl
      exact ⟨rfl, rfl⟩)
  have hss : sizedE s.sch = true := decide_eq_true (by omega)
  have hfe : formE s.sch = (List.range s.cells.length).all (celOk s.sch) := by
    unfold formE
    rw [hss, e1, decide_eq_true hz.2.2.2.2, Bool.true_and, Bool.true_and]
  have hsb : 1 ≤ s.len ∧ s.len ≤ 512 ∧ 1 ≤ s.off ∧ s.off ≤ 16 := ⟨hz.1, hz.2.1, hz.2.2.1, hz.2.2.2.1⟩
  rw [hfe]
  repeat' (first | ((first | apply VL_calltb en47 | apply VL_callqb en47); (repeat (first | exact args_nil | (apply args_cons; exact rfl))); exact rfl; exact fun _ hw => (rin_spec _ _ _ hw); all_goals (intro hB; (try simp only [decide_eq_true_eq, decide_eq_false_iff_not] at hB); try (exfalso; omega))) | apply (zs1 ?_) | apply (zs2 ?_) | (apply zg1; refine zs4 ?_) | (apply zg2; refine zs6 ?_) | (apply zg3; refine zs7 ?_) | (apply zg4; refine zs9 ?_) | (apply zg6; refine zs12 ?_) | (apply (zs19 ?_ ?_) <;> intro _ <;> try (exfalso; omega)) | (apply zg20; refine zs47 ?_) | (apply zg23; (refine zs52 ?_; intro _)) | apply (zs65 ?_) | apply (zs68 ?_) | apply (zs69 ?_) | apply (zs70 ?_) | (apply zg27; refine zs72 ?_) | apply (zs73 ?_) | apply (zs76 ?_) | fail)
  first | (rename_i g; guard_hyp g : Nat) | (rename_i g _; guard_hyp g : Nat) | (rename_i g _ _; guard_hyp g : Nat)
  refine VC_loop1 (fun (i : Nat) => [(3, .int .i64 i), (1, .pointer (some ⟨g, 0, none⟩))]) (fun _ => blk g (.cells #[.int .i64 s.len, .int .i64 s.off, .slice s.A s.cells.length s.cap] 30 (0, 0)) :: H) (fun i => i ≤ s.cells.length ∧ (List.range i).all (celOk s.sch) = true) (fun i => s.cells.length - i) 0 ⟨Nat.zero_le _, rfl⟩ ?_ (fun w hw => hw) ?_
  · (repeat (first | exact sub_nil _ | (apply sub_cons; first | exact rfl | exact congrArg (fun z : Int => some (Value.int .i64 z)) (by omega))))
  rintro i ⟨hi, hall⟩ K hK
  have hr := hr.cons (X := blk g (.cells #[.int .i64 s.len, .int .i64 s.off, .slice s.A s.cells.length s.cap] 30 (0, 0)))
  by_cases hlt : i < s.cells.length
  · have hget : s.cells[i]? = some (celAt s.sch i) := celAt_some (s := s.sch) hlt
    have hgo : celOk s.sch i = false → (List.range s.cells.length).all (celOk s.sch) = false := fun h => all_range_no hlt h
    have hst : celOk s.sch i = true → (List.range (i + 1)).all (celOk s.sch) = true := fun h => by rw [all_range_step, hall, h]; rfl
    rcases Nat.eq_zero_or_pos i with h0 | h0
    · subst h0
      repeat' (first | ((first | apply VL_calltb en73 | apply VL_callqb en73); (repeat (first | exact args_nil | (apply args_cons; exact rfl))); exact rfl; exact fun _ hw => (rright_spec s _ hsb hw); all_goals (intro hB; (try simp only [decide_eq_true_eq, decide_eq_false_iff_not] at hB); try (exfalso; omega))) | apply (zs1 ?_) | apply (zs2 ?_) | (apply zg1; first | refine zs3 ?_ | refine zs4 ?_) | (apply zg2; refine zs6 ?_) | (apply zg3; first | refine zs7 ?_ | refine zs8 ?_ | refine zs61 ?_) | (apply zg4; refine zs9 ?_) | (apply zg5; refine zs57 ?_) | (apply zg6; first | refine zs11 ?_ | refine zs12 ?_) | (apply (zs17 ?_ ?_) <;> intro _ <;> try (exfalso; omega)) | (apply (zs19 ?_ ?_) <;> intro _ <;> try (exfalso; omega)) | (apply zg13; refine zs30 ?_) | (apply zg20; first | refine zs47 ?_ | refine zs48 ?_) | apply (zs65 ?_) | apply (zs66 ?_) | apply (zs68 ?_) | apply (zs69 ?_) | apply (zs70 ?_) | (apply zg27; first | refine zs71 ?_ | refine zs72 ?_) | apply (zs73 ?_) | apply (zs74 ?_) | apply (zs76 ?_) | apply (zs77 ?_) | apply (zs78 ?_) | apply (zs79 ?_) | (apply zg28; refine zs84 ?_) | fail)
      all_goals first
        | (apply hK (0 + 1)
           · exact ⟨by omega, hst (by simp [celOk, *])⟩
           · omega
           · (repeat (first | exact sub_nil _ | (apply sub_cons; first | exact rfl | exact congrArg (fun z : Int => some (Value.int .i64 z)) (by omega))))
           · (intro w hw; refine hw.perm ?_; focus repeat (first | with_reducible exact Perm.refl _ | (with_reducible apply perm_take; focus ((repeat (first | with_reducible exact rem_here | with_reducible apply rem_there)); done)) | with_reducible apply Perm.dropK))
           done)
        | (apply VQ_st H
           · (intro w hw; refine hw.perm ?_; focus repeat (first | with_reducible exact Perm.refl _ | (with_reducible apply perm_take; focus ((repeat (first | with_reducible exact rem_here | with_reducible apply rem_there)); done)) | with_reducible apply Perm.dropK))
           apply VQ_ret1; exact rfl; exact rfl
           exact ⟨by rw [hgo (by simp [celOk, *])], rfl⟩)
    · have hget2 : s.cells[((i : Int) - 1).toNat]? = some (celAt s.sch (i - 1)) := by
        rw [show ((i : Int) - 1).toNat = i - 1 by omega]
        exact celAt_some (s := s.sch) (show i - 1 < s.cells.length by omega)
      have hi0 : decide (i = 0) = false := decide_eq_false (by omega)
      repeat' (first | ((first | apply VL_calltb en73 | apply VL_callqb en73); (repeat (first | exact args_nil | (apply args_cons; exact rfl))); exact rfl; exact fun _ hw => (rright_spec s _ hsb hw); all_goals (intro hB; (try simp only [decide_eq_true_eq, decide_eq_false_iff_not] at hB); try (exfalso; omega))) | ((first | apply VL_calltb en50 | apply VL_callqb en50); (repeat (first | exact args_nil | (apply args_cons; exact rfl))); exact rfl; exact fun _ hw => (rless_spec _ _ hw); all_goals (intro hB; (try simp only [decide_eq_true_eq, decide_eq_false_iff_not] at hB); try (exfalso; omega))) | apply (zs1 ?_) | apply (zs2 ?_) | (apply zg1; first | refine zs3 ?_ | refine zs4 ?_) | (apply zg2; refine zs6 ?_) | (apply zg3; first | refine zs7 ?_ | refine zs8 ?_ | refine zs61 ?_) | (apply zg4; refine zs9 ?_) | (apply zg5; refine zs57 ?_) | (apply zg6; first | refine zs11 ?_ | refine zs12 ?_) | (apply (zs17 ?_ ?_) <;> intro _ <;> try (exfalso; omega)) | (apply (zs19 ?_ ?_) <;> intro _ <;> try (exfalso; omega)) | (apply zg13; refine zs30 ?_) | (apply zg14; refine zs31 ?_) | (apply zg20; first | refine zs47 ?_ | refine zs48 ?_) | apply (zs65 ?_) | apply (zs66 ?_) | apply (zs68 ?_) | apply (zs69 ?_) | apply (zs70 ?_) | (apply zg27; first | refine zs71 ?_ | refine zs72 ?_) | apply (zs73 ?_) | apply (zs74 ?_) | apply (zs76 ?_) | apply (zs77 ?_) | apply (zs78 ?_) | apply (zs79 ?_) | (apply zg28; refine zs84 ?_) | fail)
      all_goals first
        | (apply hK (i + 1)
           · exact ⟨by omega, hst (by simp [celOk, *])⟩
           · omega
           · (repeat (first | exact sub_nil _ | (apply sub_cons; first | exact rfl | exact congrArg (fun z : Int => some (Value.int .i64 z)) (by omega))))
           · (intro w hw; refine hw.perm ?_; focus repeat (first | with_reducible exact Perm.refl _ | (with_reducible apply perm_take; focus ((repeat (first | with_reducible exact rem_here | with_reducible apply rem_there)); done)) | with_reducible apply Perm.dropK))
           done)
        | (apply VQ_st H
           · (intro w hw; refine hw.perm ?_; focus repeat (first | with_reducible exact Perm.refl _ | (with_reducible apply perm_take; focus ((repeat (first | with_reducible exact rem_here | with_reducible apply rem_there)); done)) | with_reducible apply Perm.dropK))
           apply VQ_ret1; exact rfl; exact rfl
           exact ⟨by rw [hgo (by simp [celOk, *])], rfl⟩)
  · repeat' (first | apply (zs1 ?_) | apply (zs2 ?_) | (apply zg2; refine zs6 ?_) | (apply zg3; refine zs7 ?_) | (apply zg4; refine zs9 ?_) | (apply (zs17 ?_ ?_) <;> intro _ <;> try (exfalso; omega)) | apply (zs65 ?_) | apply (zs68 ?_) | apply (zs69 ?_) | apply (zs70 ?_) | (apply zg27; refine zs72 ?_) | apply (zs74 ?_) | apply (zs75 ?_) | apply (zs80 ?_) | apply (zs81 ?_) | fail)
    apply VQ_st H
    · (intro w hw; refine hw.perm ?_; focus repeat (first | with_reducible exact Perm.refl _ | (with_reducible apply perm_take; focus ((repeat (first | with_reducible exact rem_here | with_reducible apply rem_there)); done)) | with_reducible apply Perm.dropK))
    apply VQ_ret1; exact rfl; exact rfl
    rw [show i = s.cells.length by omega] at hall
    exact ⟨by rw [hall], rfl⟩
end Go.Proofs.YtnkpfpgmbpnbgaaGreatDoor

/- An engine for walks, part 28: trees of orders, some of whose operations are taken as they come up, with all pieces in sight. -/
namespace Go.Eng
open Go.RowKit

inductive OV where
  | done
  | p1 (i : Nat) (t : OV)
  | d1 (i : Nat) (t : OV)
  | d2 (i : Nat) (t : OV) (j : Nat) (u : OV)

section
variable {P : Program} {n : Shp} {B : Nat} {w0 : World} {Q : Exit → Act → World → Prop} {env : Env} {H : List HP} {ops : Array Oper}

def wpD (P : Program) (ops : Array Oper) (K : Act → World → Prop) (o : Oper) (a : Act) (w : World) : Prop :=
  if Region.wanted o (yielded ops a.tmps) then o.wp P a w K (fun _ _ _ => False) else K (a.put o.dst undef) w
/-- A tree of orders: p1 only reads what nothing here writes; d1, d2: what may come up. -/
def wpTreeV (P : Program) (ops : Array Oper) (l : List Oper) (Q : Exit → Act → World → Prop) (S : World → Prop) : OV → Act → World → Prop
  | .done, a, w => Q .normal a w
  | .p1 i t, a, w => wpHeld P ops (fun e a w => match e with | .normal => S w ∧ wpTreeV P ops l Q S t a w | _ => False) S [nthO l i] a w
  | .d1 i t, a, w => wpD P ops (fun a w => S w ∧ wpTreeV P ops l Q S t a w) (nthO l i) a w
  | .d2 i t j u, a, w => wpD P ops (fun a w => S w ∧ wpTreeV P ops l Q S t a w) (nthO l i) a w ∧ wpD P ops (fun a w => S w ∧ wpTreeV P ops l Q S u a w) (nthO l j) a w

def treeBV (ops : Array Oper) (last : List Nat) : OV → Array Bool → Nat → Bool
  | .done, listed, 0 => orderT ops last listed
  | .done, _, _ + 1 => false
  | .p1 i t, listed, k + 1 => !last.contains i && (match ops[i]? with
      | some o => !eff o && ((Region.ready .any ops listed).contains i && Region.free .any ops listed i)
      | none => false) && treeBV ops last t (listed.setIfInBounds i true) k
  | .d1 i t, listed, k + 1 => !last.contains i && (ops[i]?).isSome && decide (Region.ready .any ops listed = [i]) && treeBV ops last t (listed.setIfInBounds i true) k
  | .d2 i t j u, listed, k + 1 => !last.contains i && !last.contains j && (ops[i]?).isSome && (ops[j]?).isSome && ((Region.ready .any ops listed).all fun x => x == i || x == j) && !(Region.ready .any ops listed).isEmpty && treeBV ops last t (listed.setIfInBounds i true) k && treeBV ops last u (listed.setIfInBounds j true) k
  | .p1 _ _, _, 0 => false
  | .d1 _ _, _, 0 => false
  | .d2 _ _ _ _, _, 0 => false

theorem dir_node {S : World → Prop} {K : Act → World → Prop} {last : List Nat} {i k : Nat} {o : Oper} {listed : Array Bool} {a : Act} {w : World} (ho : ops[i]? = some o)
    (h : wpD P ops K o a w) (hk : ∀ a w, K a w → S w ∧ wpAnyN P ops Q S last k (listed.setIfInBounds i true) a w) :
    wpOp P ops Q i (fun a' w' => (last.contains i = false → S w') ∧ wpAnyN P ops Q S last k (listed.setIfInBounds i true) a' w') a w := by
  unfold wpD at h
  unfold wpOp
  simp only [ho]
  by_cases hw : Region.wanted o (yielded ops a.tmps) = true
  · rw [if_pos hw] at h ⊢
    exact .inl (Oper.wp_mono_noQ (fun _ _ _ h => h) (by rintro ⟨_, _, h⟩; exact h) (Oper.wp_mono (fun a' w' h' => ⟨fun _ => (hk a' w' h').1, (hk a' w' h').2⟩) h))
  · rw [if_neg hw] at h ⊢
    exact ⟨fun _ => (hk _ w h).1, (hk _ w h).2⟩

theorem tree_soundV {S : World → Prop} {last : List Nat} (hs : Region.noSelect ops = true) (hQ : ∀ c (a : Act) (w : World), ¬ Q (.panic c) a w) (hlo : ¬ LetsOut Q) (l : List Oper) (hl : ops = l.toArray) (hlast : lastH ops last = true) :
    ∀ (t : OV) (k : Nat) (listed : Array Bool) (a : Act) (w : World), Closed ops listed → treeBV ops last t listed k = true → S w → wpTreeV P ops l (TailQ P ops Q (pickOps l last)) S t a w →
      wpAnyN P ops Q S last (k + last.length) listed a w
  | .done, 0, listed, a, w, _, hB, _, h => by
    have := tail_soundH (S := S) l hl (lastH_spec hlast).1 hlo last listed a w (fun j hj => by simpa using hj) hB h
    rw [Nat.zero_add]
    exact this
  | .done, _ + 1, _, _, _, _, hB, _, _ => by cases hB
  | .p1 _ _, 0, _, _, _, _, hB, _, _ => by cases hB
  | .d1 _ _, 0, _, _, _, _, hB, _, _ => by cases hB
  | .d2 _ _ _ _, 0, _, _, _, _, hB, _, _ => by cases hB
  | .p1 i t, k + 1, listed, a, w, hcl, hB, hS, h => by
    simp only [treeBV, Bool.and_eq_true] at hB
    obtain ⟨⟨h0, h1⟩, h2⟩ := hB
    have hno : last.contains i = false := by simpa using h0
    cases ho : ops[i]? with
    | none => rw [ho] at h1; cases h1
    | some o =>
      rw [ho] at h1
      have hget := nthO_get hl ho
      unfold wpTreeV at h
      rw [hget] at h
      rw [Nat.add_right_comm]
      simp only [Bool.and_eq_true, Bool.not_eq_true'] at h1
      obtain ⟨he, h3, h4⟩ := h1
      unfold wpHeld at h
      rw [if_neg (by rw [he]; simp)] at h
      obtain ⟨v, hy, h5⟩ := h
      have hr : i ∈ Region.ready .any ops listed := by simpa using h3
      exact wpAnyN_first ho (Region.noSelect_spec hs) hQ ((lastH_spec hlast).2 i o ho he hno) hno _ listed a w hcl (Region.free_spec ho h4) hr hy hS (tree_soundV hs hQ hlo l hl hlast t k _ _ w (hcl.set hr) h2 hS h5.2)
  | .d1 i t, k + 1, listed, a, w, hcl, hB, hS, h => by
    simp only [treeBV, Bool.and_eq_true, decide_eq_true_eq] at hB
    obtain ⟨⟨⟨h0, h1⟩, h3⟩, h2⟩ := hB
    obtain ⟨o, ho⟩ := Option.isSome_iff_exists.1 h1
    unfold wpTreeV at h
    rw [nthO_get hl ho] at h
    rw [Nat.add_right_comm]
    refine ⟨fun h0 => (by rw [h3] at h0; cases h0), fun j hj => ?_⟩
    have hj' := hj
    rw [h3] at hj
    obtain rfl : j = i := by simpa using hj
    exact dir_node ho h fun a w ⟨hS', h'⟩ => ⟨hS', tree_soundV hs hQ hlo l hl hlast t k _ a w (hcl.set hj') h2 hS' h'⟩
  | .d2 i t j u, k + 1, listed, a, w, hcl, hB, hS, h => by
    simp only [treeBV, Bool.and_eq_true] at hB
    obtain ⟨⟨⟨⟨⟨⟨⟨b1, b2⟩, b3⟩, b4⟩, b5⟩, b6⟩, b7⟩, b8⟩ := hB
    obtain ⟨o, ho⟩ := Option.isSome_iff_exists.1 b3
    obtain ⟨o', ho'⟩ := Option.isSome_iff_exists.1 b4
    unfold wpTreeV at h
    rw [nthO_get hl ho, nthO_get hl ho'] at h
    rw [Nat.add_right_comm]
    refine ⟨fun h0 => (by rw [h0] at b6; cases b6), fun x hx => ?_⟩
    have h5 := List.all_eq_true.1 b5 x hx
    simp only [Bool.or_eq_true, beq_iff_eq] at h5
    rcases h5 with rfl | rfl
    · exact dir_node ho h.1 fun a w ⟨hS', h'⟩ => ⟨hS', tree_soundV hs hQ hlo l hl hlast t k _ a w (hcl.set hx) b7 hS' h'⟩
    · exact dir_node ho' h.2 fun a w ⟨hS', h'⟩ => ⟨hS', tree_soundV hs hQ hlo l hl hlast u k _ a w (hcl.set hx) b8 hS' h'⟩

structure VV (P : Program) (n : Shp) (B : Nat) (w0 : World) (ops : Array Oper) (l : List Oper) (Q : Exit → Act → World → Prop) (t : OV) (env : Env) (H F : List HP) : Prop where
  run : ∀ a, Fits n a env → ∀ w, St B w0 (H ++ F) w → wpTreeV P ops l Q (St B w0 H) t a w

/-- What is asked behind a node. -/
def TreeVQ (P : Program) (B : Nat) (w0 : World) (ops : Array Oper) (l : List Oper) (Q : Exit → Act → World → Prop) (Hc : List HP) (t : OV) : Exit → Act → World → Prop
  | .normal, a, w => St B w0 Hc w ∧ wpTreeV P ops l Q (St B w0 Hc) t a w
  | _, _, _ => False

theorem treeVQ_eq {l : List Oper} {t : OV} : TreeVQ P B w0 ops l Q H t = fun e a w => match e with | .normal => St B w0 H w ∧ wpTreeV P ops l Q (St B w0 H) t a w | _ => False := by
  funext e a w
  cases e <;> rfl
theorem wpD_of {l : List Oper} {t : OV} {o : Oper} {a : Act} {w : World} (h : wpList P ops (TreeVQ P B w0 ops l Q H t) [o] a w) : wpD P ops (fun a w => St B w0 H w ∧ wpTreeV P ops l Q (St B w0 H) t a w) o a w := by
  have hno : ¬ LetsOut (TreeVQ P B w0 ops l Q H t) := by rintro ⟨_, _, h⟩; exact h
  unfold wpList at h
  unfold wpD
  by_cases hw : Region.wanted o (yielded ops a.tmps) = true
  · rw [if_pos hw] at h ⊢
    rcases h with h | ⟨_, h⟩
    · exact Oper.wp_mono_noQ (fun _ _ _ h => h) hno (Oper.wp_mono (fun a' w' h' => h') h)
    · exact (hno h).elim
  · rw [if_neg hw] at h ⊢
    exact h
theorem VV_done {l : List Oper} {F HF : List HP} (happ : App H F HF) (h : VQ n B w0 Q .normal env HF) : VV P n B w0 ops l Q .done env H F :=
  ⟨fun a ha w hw => by rw [← app_eq happ] at hw; exact h.run a w ha hw⟩
theorem VV_p1 {l : List Oper} {F : List HP} {i : Nat} {t : OV} {o : Oper} (ho : nthO l i = o) (h : VL P (some (some F)) n B w0 ops (TreeVQ P B w0 ops l Q H t) [o] env H) : VV P n B w0 ops l Q (.p1 i t) env H F := by
  refine ⟨fun a ha w hw => ?_⟩
  have h1 : wpHeld P ops (TreeVQ P B w0 ops l Q H t) (St B w0 H) [o] a w := h.run a ha w hw
  unfold wpTreeV
  rw [ho, ← treeVQ_eq]
  exact h1
theorem VV_d1 {l : List Oper} {F HF : List HP} {i : Nat} {t : OV} {o : Oper} (ho : nthO l i = o) (happ : App H F HF) (h : VL P none n B w0 ops (TreeVQ P B w0 ops l Q H t) [o] env HF) : VV P n B w0 ops l Q (.d1 i t) env H F := by
  refine ⟨fun a ha w hw => ?_⟩
  unfold wpTreeV
  rw [ho]
  rw [← app_eq happ] at hw
  exact wpD_of (h.run a ha w hw)
theorem VV_d2 {l : List Oper} {F HF : List HP} {i j : Nat} {t u : OV} {o o' : Oper} (ho : nthO l i = o) (ho' : nthO l j = o') (happ : App H F HF) (h : VL P none n B w0 ops (TreeVQ P B w0 ops l Q H t) [o] env HF)
    (h' : VL P none n B w0 ops (TreeVQ P B w0 ops l Q H u) [o'] env HF) : VV P n B w0 ops l Q (.d2 i t j u) env H F := by
  refine ⟨fun a ha w hw => ?_⟩
  unfold wpTreeV
  rw [ho, ho']
  rw [← app_eq happ] at hw
  exact ⟨wpD_of (h.run a ha w hw), wpD_of (h'.run a ha w hw)⟩
theorem VQ_treev {l : List Oper} {F H' Hc : List HP} {t : OV} (hp : Pull Hc H' F) (h : VV P n B w0 ops l Q t env Hc F) : VQ n B w0 (TreeVQ P B w0 ops l Q Hc t) .normal env H' :=
  ⟨fun a w ha hw => ⟨(hw.perm hp).prefix_, h.run a ha w (hw.perm hp)⟩⟩

/-- A region that draws its order: a tree of orders, and the last operations. -/
theorem VC_treeV {id : Nat} {l : List Oper} (t : OV) (last : List Nat) (mask : List Bool) {Hc F : List HP} (hm : P.follows .mixedOrders = true)
    (hB : (Region.noSelect l.toArray && decide (last.length ≤ l.toArray.size) && lastH l.toArray last && treeBV l.toArray last t (Array.replicate l.toArray.size false) (l.toArray.size - last.length)) = true)
    (hsp : Split mask H Hc F) {l2 : List Oper} (hl2 : pickOps l last = l2) (h : VV P n B w0 l.toArray l (TailQ P l.toArray (Only Q) l2) t env Hc F) : VC P n B w0 (.region id l.toArray true) Q env H := by
  simp only [Bool.and_eq_true, decide_eq_true_eq] at hB
  obtain ⟨⟨⟨h1, h2⟩, h3⟩, h5⟩ := hB
  refine ⟨fun a w ha hw => wpR_mono (Q := Only Q) ?_ fun e a w h => by cases e <;> first | exact h | cases h⟩
  have hst : St B w0 (Hc ++ F) w.drew := (hw.perm (split_perm hsp)).drew
  have hr := h.run a ha w.drew hst
  rw [← hl2] at hr
  have := tree_soundV (S := St B w0 Hc) h1 (fun c a w h => h) (by rintro ⟨_, _, h⟩; exact h) l rfl h3 t _ _ a w.drew (closed_none _ _) h5 hst.prefix_ hr
  rw [Nat.sub_add_cancel h2] at this
  exact wpR_any hm (wpAny_of_N _ _ _ _ this)
end
end Go.Eng

/- Walks: the reference's Decimal, Line and Print. -/
namespace Go.Proofs.YtnkpfpgmbpnbgaaGreatDoor
open Go.RowKit Go.Eng Go.Nw

section
variable {m : Eng.Mode} {n : Shp} {B d : Nat} {w0 : World} {ops : Array Oper} {Q : Exit → Act → World → Prop} {rest : List Oper} {env : Env} {H : List HP} {ty : TypeId} {pos : String} {after : Array Edge} {x y : Operand}
theorem VL_add8 {a b : Int} {xt yt : TypeId} (hx : evo env x = some (.int .u8 a)) (hy : evo env y = some (.int .u8 b)) (hn : Nat.ble (d + 1) n.k = true) (hb : 0 ≤ a + b ∧ a + b ≤ 255) (h : VL Tryz.prog m n B w0 ops Q rest ((d, .int .u8 (a + b)) :: env) H) :
    VL Tryz.prog m n B w0 ops Q (⟨some d, .binOp .add xt x y yt, ty, pos, after, none⟩ :: rest) env H := VL_add_w hx hy hn (by rw [IntWalk.u8_in _ hb]; exact h)
theorem VL_sub8 {a b : Int} {xt yt : TypeId} (hx : evo env x = some (.int .u8 a)) (hy : evo env y = some (.int .u8 b)) (hn : Nat.ble (d + 1) n.k = true) (hb : 0 ≤ a - b ∧ a - b ≤ 255) (h : VL Tryz.prog m n B w0 ops Q rest ((d, .int .u8 (a - b)) :: env) H) :
    VL Tryz.prog m n B w0 ops Q (⟨some d, .binOp .sub xt x y yt, ty, pos, after, none⟩ :: rest) env H := VL_sub_w hx hy hn (by rw [IntWalk.u8_in _ hb]; exact h)
theorem VL_convB {a : Int} {k j : IntKind} {src dst : TypeId} (hx : evo env x = some (.int k a)) (hs : Eng.look T.ik src = some j) (ht : Eng.look T.ik dst = some .u8) (hn : Nat.ble (d + 1) n.k = true) (hb : 0 ≤ a ∧ a ≤ 255) (h : VL Tryz.prog m n B w0 ops Q rest ((d, .int .u8 a) :: env) H) :
    VL Tryz.prog m n B w0 ops Q (⟨some d, .convert src dst x, ty, pos, after, none⟩ :: rest) env H := VL_conv T hx hs ht hn (by rw [IntWalk.u8_in _ hb]; exact h)
/-- One byte as a string. -/
theorem VL_b2s1 {g : Nat} {z : Int} {tt : TypeId} {fr : Nat × Nat} (hx : evo env x = some (.slice (some ⟨g, 0, none⟩) 1 1)) (hm : blk g (.cells #[.int .u8 z] tt fr) ∈ H) (hn : Nat.ble (d + 1) n.k = true)
    (h : VL Tryz.prog m n B w0 ops Q rest ((d, strV [UInt8.ofNat z.toNat]) :: env) H) : VL Tryz.prog m n B w0 ops Q (⟨some d, .convert 81 9 x, ty, pos, after, none⟩ :: rest) env H := by
  refine VL_pure rfl rfl hn rfl (fun a w ha hw => ?_) h
  have hl := run_loadCells_list (P := Tryz.prog) w ⟨g, 0, none⟩ [.int .u8 z] (fun j v hj => by
    obtain ⟨g', o, e5, hc⟩ := Rd.blk (cs := #[.int .u8 z]) hm w hw j v hj
    injection e5 with e5
    injection e5 with e5 e6
    subst e5
    rw [← e6] at hc
    rw [Addr.add_lit]
    exact hc)
  have hr : (Conv.bytesToString (.slice (some ⟨g, 0, none⟩) 1 1)).run Tryz.prog w = .ok (strV [UInt8.ofNat z.toNat]) w := by
    rw [run_bytesToString w ⟨g, 0, none⟩ 1 1 [z] hl]
    rfl
  simp [execOp, ha.eval hx, run_convert_bytes_string w 81 9 5 _ 1 1 Tryz.underlying81 Tryz.underlying5 Tryz.underlying9, hr]
end
set_option maxRecDepth 10000 in
theorem rdecimal_spec : ∀ (n : Nat), n < 10000 → ∀ {B : Nat} {w0 : World} {H : List HP} {w : World}, St B w0 H w →
    Calls Tryz.prog 97 [.int .i64 n].toArray w (Post B w0 fun v K => v = strV (Lib.decDigits n) ∧ K = H) := by
  intro n
  induction n using Nat.strongRecOn with
  | _ n ih =>
  intro hn B w0 H w hw
  refine Calls_of_VC Tryz.func97 Tryz.ntmps97 rfl rfl hw ?_
  by_cases h10 : n < 10
  · repeat' (first | apply (zs1 ?_) | apply (zs2 ?_) | (apply (zs17 ?_ ?_) <;> intro _ <;> try (exfalso; omega)) | (apply zg19; refine zs46 ?_) | apply (zs65 ?_) | apply (zs68 ?_) | apply (zs69 ?_) | apply (zs70 ?_) | (apply zg27; refine zs71 ?_) | fail)
    rw [IntWalk.u8_in _ (by omega)]
    repeat' (first | (apply VL_add8; exact rfl; exact rfl; exact rfl; omega) | (apply VL_b2s1; exact rfl; (focus repeat (first | with_reducible exact List.mem_cons_self | with_reducible apply List.mem_cons_of_mem | assumption)); exact rfl) | apply (zs2 ?_) | (apply zg26; (refine zs56 ?_; intro _)) | apply (zs65 ?_) | apply (zs68 ?_) | apply (zs74 ?_) | apply (zs77 ?_) | fail)
    apply VQ_st H
    · (intro w hw; refine hw.perm ?_; focus repeat (first | with_reducible exact Perm.refl _ | (with_reducible apply perm_take; focus ((repeat (first | with_reducible exact rem_here | with_reducible apply rem_there)); done)) | with_reducible apply Perm.dropK))
    apply VQ_ret1; exact rfl; exact rfl
    rw [Lib.decDigits_one h10, Int.toNat_add (by omega) (by omega)]
    exact ⟨rfl, rfl⟩
  · have hq : ((n : Int) / 10) = ((n / 10 : Nat) : Int) := by omega
    have hm : ((n : Int) % 10) = ((n % 10 : Nat) : Int) := by omega
    have hih := fun {B : Nat} {w0 : World} {H : List HP} {w : World} (hw : St B w0 H w) => by
      have h := ih (n / 10) (by omega) (by omega) hw
      rw [← hq] at h
      exact h
    have hl := dec_len (u := n / 10) (by omega)
    repeat' (first | apply (zs1 ?_) | apply (zs2 ?_) | (apply (zs17 ?_ ?_) <;> intro _ <;> try (exfalso; omega)) | apply (zs65 ?_) | apply (zs68 ?_) | apply (zs69 ?_) | apply (zs70 ?_) | (apply zg27; refine zs72 ?_) | apply (zs76 ?_) | fail)
    refine VC_st [many H] (fun w hw => hw.perm (.closeT H)) ?_
    apply VC_treeV (.p1 0 (.p1 1 (.p1 3 (.p1 4 (.p1 5 (.p1 6 (.d2 2 (.d1 7 (.d1 8 .done)) 7 (.d2 2 (.d1 8 .done) 8 (.d1 2 .done))))))))) [9, 10] [false]
    kernel_rfl
    kernel_rfl
    (repeat (first | with_reducible exact split_nil | with_reducible apply split_t | with_reducible apply split_f))
    (simp only [pickOps, nthO]; rfl)
    repeat' (first | (apply VL_convB; exact rfl; exact rfl; exact rfl; exact rfl; omega) | (apply VL_add8; exact rfl; exact rfl; exact rfl; omega) | (apply VL_b2s1; exact rfl; (focus repeat (first | with_reducible exact List.mem_cons_self | with_reducible apply List.mem_cons_of_mem | assumption)); exact rfl) | ((first | apply VL_callt en97 | apply VL_callq en97); (repeat (first | exact args_nil | (apply args_cons; exact rfl))); exact rfl; exact fun _ hw => (hih hw)) | (apply VL_cat (Lib.decDigits (n / 10)) [UInt8.ofNat (48 + ((n : Int) % 10)).toNat]; exact rfl; exact rfl; exact rfl; (show _ + 1 ≤ _; omega)) | (apply VV_p1; (simp only [nthO]; rfl)) | (apply VV_d1; (simp only [nthO]; rfl); (repeat (first | with_reducible exact app_nil | with_reducible apply app_cons | exact app_niln _))) | (apply VV_d2; (simp only [nthO]; rfl); (simp only [nthO]; rfl); (repeat (first | with_reducible exact app_nil | with_reducible apply app_cons | exact app_niln _))) | (apply VQ_treev; (repeat (first | with_reducible exact pull_nil | (with_reducible apply pull_cons; (repeat (first | with_reducible exact rem_here | with_reducible apply rem_there)))))) | (apply VV_done; (repeat (first | with_reducible exact app_nil | with_reducible apply app_cons | exact app_niln _))) | apply (zs1 ?_) | apply (zs2 ?_) | (apply zg16; refine zs36 ?_) | (apply zg17; refine zs37 ?_) | (apply zg26; (refine zs56 ?_; intro _)) | apply (zs65 ?_) | (apply VL_nilh; (repeat (first | with_reducible exact app_nil | with_reducible apply app_cons | exact app_niln _))) | apply (zs68 ?_) | apply (zs74 ?_) | apply (zs93 ?_) | apply (zs94 ?_) | fail)
    all_goals (
      apply VQ_st H
      · intro w hw
        have h5 : St B w0 [many H] w := by
          revert w
          (intro w hw; refine hw.perm ?_; focus repeat (first | with_reducible exact Perm.refl _ | (with_reducible apply perm_take; focus ((repeat (first | with_reducible exact rem_here | with_reducible apply rem_there)); done)) | with_reducible apply Perm.dropK))
        exact h5.perm (.openT H)
      apply VQ_ret1; exact rfl; exact rfl
      refine ⟨?_, rfl⟩
      have e : Lib.decDigits n = Lib.decDigits (n / 10) ++ [UInt8.ofNat (48 + n % 10)] := by
        conv => lhs; rw [Lib.decDigits, dif_neg h10]
      rw [e, hm, Int.toNat_add (by omega) (by omega)]
      rfl)
set_option maxRecDepth 10000 in
theorem rline_spec (word : List UInt8) (l : List Int) (h : ∀ n ∈ l, 0 ≤ n ∧ n < 10000) (h5 : l.length ≤ 100) (hwd : word.length ≤ 100) {A : Option Addr} {cap B : Nat} {w0 : World} {H : List HP} {w : World} (hr : Rd B w0 H A (l.flatMap numF)) (hw : St B w0 H w) :
    Calls Tryz.prog 59 [strV word, .slice A l.length cap].toArray w (Post B w0 fun v K => v = strV (lineB word l) ∧ K = H) := by
  refine Calls_of_VC Tryz.func59 Tryz.ntmps59 rfl rfl hw ?_
  repeat' (first | apply (zs1 ?_) | apply (zs2 ?_) | apply (zs65 ?_) | apply (zs68 ?_) | apply (zs69 ?_) | apply (zs70 ?_) | apply (zs73 ?_) | fail)
  refine VC_loop1 (fun (i : Nat) => [(6, .int .i64 i), (1, .slice A l.length cap), (5, strV (bodyB word (l.take i)))]) (fun _ => H) (fun i => i ≤ l.length) (fun i => l.length - i) 0 (Nat.zero_le _) ?_ (fun w hw => hw) ?_
  · have e0 : bodyB word (l.take 0) = word := by simp [bodyB]
    rw [e0]
    (repeat (first | exact sub_nil _ | (apply sub_cons; first | exact rfl | exact congrArg (fun z : Int => some (Value.int .i64 z)) (by omega))))
  intro i hi K hK
  have hbl := body_len (w := word) (l := l.take i) fun n hn => h n (List.mem_of_mem_take hn)
  have hlt0 : (l.take i).length ≤ 100 := by rw [List.length_take]; omega
  by_cases hlt : i < l.length
  · obtain ⟨n, hn⟩ : ∃ n, l[i]? = some n := ⟨_, List.getElem?_eq_getElem hlt⟩
    have hnb := h n (List.mem_of_getElem? hn)
    have hil := itoa_len hnb
    have hde : ∀ {H : List HP} {w : World}, St B w0 H w → Calls Tryz.prog 97 [.int .i64 n].toArray w (Post B w0 fun v K => v = strV (Lib.itoa n) ∧ K = H) := fun hw => by
      have h := rdecimal_spec n.toNat (by omega) hw
      rw [show ((n.toNat : Nat) : Int) = n by omega, ← itoa_nat hnb.1] at h
      exact h
    repeat' (first | ((first | apply VL_callt en97 | apply VL_callq en97); (repeat (first | exact args_nil | (apply args_cons; exact rfl))); exact rfl; exact fun _ hw => (hde hw)) | (apply VL_cat (bodyB word (l.take i)) [32]; exact rfl; exact rfl; exact rfl; (show _ + 1 ≤ _; omega)) | (apply VL_cat (bodyB word (l.take i) ++ [32]) (Lib.itoa n); exact rfl; exact rfl; exact rfl; (rw [List.length_append]; show _ + 1 + _ ≤ _; omega)) | apply (zs1 ?_) | apply (zs2 ?_) | (apply zg3; refine zs60 ?_) | (apply zg4; refine zs9 ?_) | (apply zg5; refine zs57 ?_) | (apply (zs17 ?_ ?_) <;> intro _ <;> try (exfalso; omega)) | (apply zg13; refine zs30 ?_) | apply (zs65 ?_) | apply (zs68 ?_) | apply (zs69 ?_) | apply (zs70 ?_) | (apply zg27; refine zs71 ?_) | apply (zs73 ?_) | apply (zs76 ?_) | apply (zs79 ?_) | fail)
    apply hK (i + 1)
    · show i + 1 ≤ l.length
      omega
    · omega
    · rw [List.take_add_one, hn, Option.toList_some, body_snoc, ← List.append_assoc]
      (repeat (first | exact sub_nil _ | (apply sub_cons; first | exact rfl | exact congrArg (fun z : Int => some (Value.int .i64 z)) (by omega))))
    · exact fun w hw => hw
  · skip
    repeat' (first | (apply VL_cat (bodyB word (l.take i)) [10]; exact rfl; exact rfl; exact rfl; (show _ + 1 ≤ _; omega)) | apply (zs1 ?_) | apply (zs2 ?_) | (apply zg4; refine zs9 ?_) | (apply (zs17 ?_ ?_) <;> intro _ <;> try (exfalso; omega)) | apply (zs65 ?_) | apply (zs68 ?_) | apply (zs69 ?_) | apply (zs70 ?_) | (apply zg27; refine zs72 ?_) | apply (zs74 ?_) | apply (zs75 ?_) | apply (zs80 ?_) | apply (zs81 ?_) | fail)
    apply VQ_ret1; exact rfl; exact rfl
    rw [show i = l.length by omega, List.take_length]
    exact ⟨rfl, rfl⟩
set_option maxRecDepth 10000 in
set_option maxHeartbeats 1000000 in
theorem rprint_spec (s : SchM) {B : Nat} {w0 : World} {H : List HP} {w : World} (hr : Rd B w0 H s.A (s.cells.flatMap celF)) (hl : s.cells.length ≤ 1000000000000) (hw : St B w0 H w) :
    Calls Tryz.prog 17 [s.val].toArray w (Post B w0 fun v K => v = .tuple #[strV (printE s.sch).1, .int .i64 (printE s.sch).2] ∧ K = H) := by
  refine Calls_of_VC Tryz.func17 Tryz.ntmps17 rfl rfl hw ?_
  have e1 : s.sch.cells = s.cells := rfl
  cases hf : formE s.sch with
  | false =>
    repeat' (first | ((first | apply VL_callt en58 | apply VL_callq en58); (repeat (first | exact args_nil | (apply args_cons; exact rfl))); exact rfl; exact fun _ hw => (calls_val (congrArg Value.bool hf) (fun _ hw => rformed_spec s hr.cons hl hw) hw)) | apply (zs2 ?_) | (apply zg3; refine zs8 ?_) | (apply zg20; refine zs48 ?_) | (apply zg23; (refine zs52 ?_; intro _)) | apply (zs65 ?_) | apply (zs68 ?_) | apply (zs69 ?_) | apply (zs70 ?_) | (apply zg27; refine zs71 ?_) | apply (zs74 ?_) | apply (zs77 ?_) | fail)
    apply VQ_st H
    · (intro w hw; refine hw.perm ?_; focus repeat (first | with_reducible exact Perm.refl _ | (with_reducible apply perm_take; focus ((repeat (first | with_reducible exact rem_here | with_reducible apply rem_there)); done)) | with_reducible apply Perm.dropK))
    apply VQ_ret2; exact rfl; exact rfl; exact rfl
    rw [printE, if_pos hf]
    exact ⟨rfl, rfl⟩
  | true =>
    have hfr := form_iff.1 hf
    have hle : s.cells.length ≤ 512 := hfr.few
    have hnm := form_nums hfr
    have hln1 := line_len (w := wordS) hnm.1
    repeat' (first | ((first | apply VL_callt en58 | apply VL_callq en58); (repeat (first | exact args_nil | (apply args_cons; exact rfl))); exact rfl; exact fun _ hw => (calls_val (congrArg Value.bool hf) (fun _ hw => rformed_spec s hr.cons hl hw) hw)) | apply (zs2 ?_) | (apply zg2; refine zs6 ?_) | (apply zg3; first | refine zs7 ?_ | refine zs8 ?_) | (apply zg20; refine zs47 ?_) | (apply zg23; (refine zs52 ?_; intro _)) | (apply zg26; (refine zs56 ?_; intro _)) | apply (zs65 ?_) | apply (zs68 ?_) | apply (zs69 ?_) | apply (zs70 ?_) | (apply zg27; refine zs72 ?_) | apply (zs76 ?_) | fail)
    rename_i gs gl
    first | apply VL_callt en59 | apply VL_callq en59
    (repeat (first | exact args_nil | (apply args_cons; exact rfl)))
    exact rfl
    exact fun _ hw => (rline_spec wordS [s.sch.len, s.sch.off] hnm.1 (by show 2 ≤ 100; decide) (by decide) (Rd.blk (cs := #[.int .i64 s.len, .int .i64 s.off]) (by (focus repeat (first | with_reducible exact List.mem_cons_self | with_reducible apply List.mem_cons_of_mem | assumption)))) hw)
    repeat' (first | apply (zs2 ?_) | apply (zs65 ?_) | apply (zs68 ?_) | apply (zs69 ?_) | apply (zs70 ?_) | apply (zs73 ?_) | fail)
    refine VC_loop1 (fun (i : Nat) => [(5, .int .i64 i), (1, .pointer (some ⟨gs, 0, none⟩)), (4, strV (textTo s.sch i))]) (fun _ => blk gs (.cells #[.int .i64 s.len, .int .i64 s.off, .slice s.A s.cells.length s.cap] 30 (0, 0)) :: H) (fun i => i ≤ s.cells.length) (fun i => s.cells.length - i) 0 (Nat.zero_le _) ?_ ?_ ?_
    · have e0 : textTo s.sch 0 = lineB wordS [s.sch.len, s.sch.off] := by unfold textTo; simp
      rw [e0]
      (repeat (first | exact sub_nil _ | (apply sub_cons; first | exact rfl | exact congrArg (fun z : Int => some (Value.int .i64 z)) (by omega))))
    · (intro w hw; refine hw.perm ?_; focus repeat (first | with_reducible exact Perm.refl _ | (with_reducible apply perm_take; focus ((repeat (first | with_reducible exact rem_here | with_reducible apply rem_there)); done)) | with_reducible apply Perm.dropK))
    intro i hi K hK
    have hr := hr.cons (X := blk gs (.cells #[.int .i64 s.len, .int .i64 s.off, .slice s.A s.cells.length s.cap] 30 (0, 0)))
    have htl := textTo_len hfr i hi
    by_cases hlt : i < s.cells.length
    · have hget : s.cells[i]? = some (celAt s.sch i) := celAt_some (s := s.sch) hlt
      have hnc := hnm.2 _ (celAt_mem (s := s.sch) hlt)
      have hln := line_len (w := wordC) hnc
      have h5n : (nums (celAt s.sch i)).length = 5 := rfl
      have h4w : wordC.length = 4 := rfl
      repeat' (first | apply (zs1 ?_) | (apply zg2; refine zs6 ?_) | (apply zg3; first | refine zs7 ?_ | refine zs61 ?_) | (apply zg4; refine zs9 ?_) | (apply zg5; refine zs57 ?_) | (apply (zs17 ?_ ?_) <;> intro _ <;> try (exfalso; omega)) | apply (zs65 ?_) | apply (zs68 ?_) | apply (zs69 ?_) | apply (zs70 ?_) | (apply zg27; refine zs71 ?_) | apply (zs73 ?_) | apply (zs76 ?_) | fail)
      apply VL_call _ en60
      (repeat (first | exact args_nil | (apply args_cons; exact rfl)))
      exact rfl
      exact fun _ hw => (rnumbers_spec (celAt s.sch i) (hw))
      rintro _ _ ⟨ga, rfl, rfl⟩
      repeat' (first | fail)
      first | apply VL_callt en59 | apply VL_callq en59
      (repeat (first | exact args_nil | (apply args_cons; exact rfl)))
      exact rfl
      exact fun _ hw => (rline_spec wordC (nums (celAt s.sch i)) hnc (by show 5 ≤ 100; decide) (by decide) (Rd.blk (cs := (celF (celAt s.sch i)).toArray) (by (focus repeat (first | with_reducible exact List.mem_cons_self | with_reducible apply List.mem_cons_of_mem | assumption)))) hw)
      repeat' (first | (apply VL_cat (textTo s.sch i) (lineB wordC (nums (celAt s.sch i))); exact rfl; exact rfl; exact rfl; omega) | apply (zs1 ?_) | apply (zs2 ?_) | (apply zg13; refine zs30 ?_) | apply (zs65 ?_) | apply (zs68 ?_) | apply (zs70 ?_) | apply (zs79 ?_) | fail)
      apply hK (i + 1)
      · show i + 1 ≤ s.cells.length
        omega
      · omega
      · rw [textTo_step hlt]
        (repeat (first | exact sub_nil _ | (apply sub_cons; first | exact rfl | exact congrArg (fun z : Int => some (Value.int .i64 z)) (by omega))))
      · (intro w hw; refine hw.perm ?_; focus repeat (first | with_reducible exact Perm.refl _ | (with_reducible apply perm_take; focus ((repeat (first | with_reducible exact rem_here | with_reducible apply rem_there)); done)) | with_reducible apply Perm.dropK))
    · repeat' (first | apply (zs1 ?_) | apply (zs2 ?_) | (apply zg2; refine zs6 ?_) | (apply zg3; refine zs7 ?_) | (apply zg4; refine zs9 ?_) | (apply (zs17 ?_ ?_) <;> intro _ <;> try (exfalso; omega)) | apply (zs65 ?_) | apply (zs68 ?_) | apply (zs69 ?_) | apply (zs70 ?_) | (apply zg27; refine zs72 ?_) | apply (zs74 ?_) | apply (zs75 ?_) | apply (zs80 ?_) | apply (zs81 ?_) | fail)
      apply VQ_st H
      · (intro w hw; refine hw.perm ?_; focus repeat (first | with_reducible exact Perm.refl _ | (with_reducible apply perm_take; focus ((repeat (first | with_reducible exact rem_here | with_reducible apply rem_there)); done)) | with_reducible apply Perm.dropK))
      apply VQ_ret2; exact rfl; exact rfl; exact rfl
      rw [printE, if_neg (by simp [hf])]
      rw [show i = s.sch.cells.length from (by have : s.sch.cells.length = s.cells.length := rfl; omega), show textTo s.sch s.sch.cells.length = textE s.sch from (by unfold textTo textE; rw [List.take_length])]
      exact ⟨rfl, rfl⟩
end Go.Proofs.YtnkpfpgmbpnbgaaGreatDoor

/- Walks: the reference's Lines, Words, Number and Read. -/
namespace Go.Proofs.YtnkpfpgmbpnbgaaGreatDoor
open Go.RowKit Go.Eng Go.Nw

section
variable {m : Eng.Mode} {n : Shp} {B d : Nat} {w0 : World} {ops : Array Oper} {Q : Exit → Act → World → Prop} {rest : List Oper} {env : Env} {H : List HP} {ty : TypeId} {pos : String} {after : Array Edge} {x y lo hi : Operand}
theorem list_byte {l : List UInt8} {i : Nat} {b b' : UInt8} (h : l[i]? = some b) (h' : (⟨l.toArray⟩ : ByteArray)[i]? = some b') : b' = b := by
  have h2 : (⟨l.toArray⟩ : ByteArray)[i]? = l[i]? := by
    by_cases hi : i < l.length
    · rw [List.getElem?_eq_getElem hi, getElem?_pos _ _ (by simpa [ByteArray.size] using hi)]; rfl
    · rw [List.getElem?_eq_none (by omega), getElem?_neg _ _ (by simpa [ByteArray.size] using hi)]
  rw [h2, h] at h'
  exact (Option.some.inj h').symm
theorem VL_byte (l : List UInt8) (b : UInt8) {i : Int} (hx : evo env x = some (strV l)) (hy : evo env y = some (.int .i64 i)) (hn : Nat.ble (d + 1) n.k = true) (hb : l[i.toNat]? = some b) (hi : 0 ≤ i)
    (h : VL Tryz.prog m n B w0 ops Q rest ((d, .int .u8 b.toNat) :: env) H) : VL Tryz.prog m n B w0 ops Q (⟨some d, .index 9 x y, ty, pos, after, none⟩ :: rest) env H := by
  have hlt := (List.getElem?_eq_some_iff.1 hb).1
  refine VL_index_str T hx hy rfl hn ⟨hi, by show i < ((⟨l.toArray⟩ : ByteArray).size : Nat); simp [ByteArray.size]; omega⟩ fun b' hb' => ?_
  rw [list_byte hb hb']
  exact h
theorem VL_char (l : List UInt8) (b : UInt8) {i j : Int} (hx : evo env x = some (strV l)) (hlo : evo env lo = some (.int .i64 i)) (hhi : evo env hi = some (.int .i64 j)) (hn : Nat.ble (d + 1) n.k = true) (hb : l[i.toNat]? = some b) (hij : 0 ≤ i ∧ j = i + 1)
    (h : VL Tryz.prog m n B w0 ops Q rest ((d, strV [b]) :: env) H) : VL Tryz.prog m n B w0 ops Q (⟨some d, .slice 9 x (some lo) (some hi) none, ty, pos, after, none⟩ :: rest) env H := by
  obtain ⟨hlt, hbe⟩ := List.getElem?_eq_some_iff.1 hb
  have hsz : (⟨l.toArray⟩ : ByteArray).size = l.length := by simp [ByteArray.size]
  refine VL_substr T hx hlo hhi rfl hn ⟨hij.1, by omega, by rw [hsz]; omega⟩ ?_
  have e : (⟨l.toArray⟩ : ByteArray).extract i.toNat j.toNat = ⟨[b].toArray⟩ := by
    apply ByteArray.ext
    rw [ByteArray.data_extract]
    apply Array.toList_inj.1
    rw [Array.toList_extract, List.extract_eq_take_drop]
    show List.take (j.toNat - i.toNat) (List.drop i.toNat l) = [b]
    rw [show j.toNat - i.toNat = 1 by omega, List.drop_eq_getElem_cons hlt, hbe]
    rfl
  rw [e]
  exact h
end
abbrev strs (A : Option Addr) (cap : Nat) (l : List (List UInt8)) : HP := sl 9 1 A l.length cap (l.flatMap strL)
theorem strs_snoc (A : Option Addr) (cap : Nat) (l : List (List UInt8)) (z : List UInt8) : sl 9 1 A (l.length + 1) cap (l.flatMap strL ++ #[strV z].toList) = strs A cap (l ++ [z]) := by simp [strs, List.flatMap_append, strL]
set_option maxRecDepth 10000 in
set_option maxHeartbeats 1000000 in
theorem rlines_spec (text : List UInt8) (hl : text.length ≤ 100000) {B : Nat} {w0 : World} {H : List HP} {w : World} (hw : St B w0 H w) :
    Calls Tryz.prog 63 [strV text].toArray w (Post B w0 fun v K => ∃ A cap, v = .tuple #[.slice A (rlines text).1.length cap, .bool (rlines text).2] ∧ K = strs A cap (rlines text).1 :: H) := by
  have hs : (⟨text.toArray⟩ : ByteArray).size = text.length := by simp [ByteArray.size]
  refine Calls_of_VC Tryz.func63 Tryz.ntmps63 rfl rfl hw ?_
  repeat' (first | (apply VL_buildSlice0 T; exact rfl; exact rfl; intro g5) | apply (zs2 ?_) | apply (zs65 ?_) | apply (zs68 ?_) | apply (zs69 ?_) | apply (zs70 ?_) | apply (zs73 ?_) | fail)
  refine VC_loop1 (fun (z : Nat × List (List UInt8) × List UInt8 × Option Addr × Nat) => [(6, .int .i64 z.1), (4, .slice z.2.2.2.1 z.2.1.length z.2.2.2.2), (5, strV z.2.2.1), (0, strV text)]) (fun z => strs z.2.2.2.1 z.2.2.2.2 z.2.1 :: H) (fun z => z.1 ≤ text.length ∧ cutC 10 (text.take z.1) = z.2.1 ++ [z.2.2.1]) (fun z => text.length - z.1) (0, [], [], some ⟨g5, 0, none⟩, 0) ⟨Nat.zero_le _, rfl⟩ ?_ (fun w hw => hw) ?_
  · (repeat (first | exact sub_nil _ | (apply sub_cons; first | exact rfl | exact congrArg (fun z : Int => some (Value.int .i64 z)) (by omega))))
  rintro ⟨i, o, wd, A, cap⟩ ⟨hi, hcut⟩ K hK
  dsimp only at hi hcut ⊢
  have hcl := cut_count (c := 10) (text.take i)
  have hwl := cut_len (c := 10) (l := text.take i) wd (by rw [hcut]; simp)
  rw [hcut, List.length_append, List.length_take, List.length_singleton] at hcl
  rw [List.length_take] at hwl
  by_cases hlt : i < text.length
  · obtain ⟨b, hb⟩ : ∃ b, text[i]? = some b := ⟨_, List.getElem?_eq_getElem hlt⟩
    have htk : text.take (i + 1) = text.take i ++ [b] := by rw [List.take_add_one, hb, Option.toList_some]
    have hbb := b.toNat_lt
    unfold strs
    by_cases hbc : b = 10
    · subst hbc
      have hcn := cut_here hcut
      rw [← htk] at hcn
      have hcc : (UInt8.toNat 10 : Int) = 10 := rfl
      repeat' (first | (apply VL_byte text 10; exact rfl; exact rfl; exact rfl; exact hb; omega) | apply (zs1 ?_) | apply (zs2 ?_) | (apply zg4; refine zs14 ?_) | (apply zg7; (refine zs15 ?_ ?_ <;> intro _ <;> try (exfalso; omega))) | (apply (zs17 ?_ ?_) <;> intro _ <;> try (exfalso; omega)) | (apply zg13; refine zs30 ?_) | (apply zg21; (refine zs49 ?_; intro _ _)) | (apply zg26; (refine zs56 ?_; intro _)) | apply (zs65 ?_) | apply (zs68 ?_) | apply (zs69 ?_) | apply (zs70 ?_) | (apply zg27; refine zs71 ?_) | apply (zs73 ?_) | apply (zs76 ?_) | apply (zs79 ?_) | fail)
      rename_i A' cap'
      apply hK (i + 1, o ++ [wd], [], A', cap')
      · exact ⟨by show i + 1 ≤ _; omega, hcn⟩
      · show _ - (i + 1) < _ - i
        omega
      · dsimp only
        rw [List.length_append]
        (repeat (first | exact sub_nil _ | (apply sub_cons; first | exact rfl | exact congrArg (fun z : Int => some (Value.int .i64 z)) (by omega))))
      · intro w hw
        dsimp only
        rw [← strs_snoc]
        revert w
        (intro w hw; refine hw.perm ?_; focus repeat (first | with_reducible exact Perm.refl _ | (with_reducible apply perm_take; focus ((repeat (first | with_reducible exact rem_here | with_reducible apply rem_there)); done)) | with_reducible apply Perm.dropK))
    · have hcn := cut_on hbc hcut
      rw [← htk] at hcn
      have hbn : b.toNat ≠ 10 := fun h => hbc (UInt8.toNat_inj.1 h)
      repeat' (first | (apply VL_byte text b; exact rfl; exact rfl; exact rfl; exact hb; omega) | (apply VL_char text b; exact rfl; exact rfl; exact rfl; exact rfl; exact hb; omega) | (apply VL_cat wd [b]; exact rfl; exact rfl; exact rfl; (show _ + 1 ≤ _; omega)) | apply (zs1 ?_) | apply (zs2 ?_) | (apply zg4; refine zs14 ?_) | (apply zg7; (refine zs15 ?_ ?_ <;> intro _ <;> try (exfalso; omega))) | (apply (zs17 ?_ ?_) <;> intro _ <;> try (exfalso; omega)) | (apply zg13; refine zs30 ?_) | apply (zs65 ?_) | apply (zs68 ?_) | apply (zs69 ?_) | apply (zs70 ?_) | (apply zg27; first | refine zs71 ?_ | refine zs72 ?_) | apply (zs73 ?_) | apply (zs76 ?_) | apply (zs79 ?_) | fail)
      apply hK (i + 1, o, wd ++ [b], A, cap)
      · exact ⟨by show i + 1 ≤ _; omega, hcn⟩
      · show _ - (i + 1) < _ - i
        omega
      · (repeat (first | exact sub_nil _ | (apply sub_cons; first | exact rfl | exact congrArg (fun z : Int => some (Value.int .i64 z)) (by omega))))
      · exact fun w hw => hw
  · obtain rfl : i = text.length := by omega
    rw [List.take_length] at hcut
    rw [rlines_eq hcut]
    unfold strs
    repeat' (first | (apply VL_wneq wd []; exact rfl; exact rfl; exact rfl; all_goals intro hwd) | apply (zs1 ?_) | apply (zs2 ?_) | (apply zg4; refine zs14 ?_) | (apply (zs17 ?_ ?_) <;> intro _ <;> try (exfalso; omega)) | (apply zg21; (refine zs49 ?_; intro _ _)) | (apply zg26; (refine zs56 ?_; intro _)) | apply (zs65 ?_) | apply (zs68 ?_) | apply (zs69 ?_) | apply (zs70 ?_) | (apply zg27; first | refine zs71 ?_ | refine zs72 ?_) | apply (zs74 ?_) | apply (zs75 ?_) | apply (zs76 ?_) | apply (zs77 ?_) | apply (zs80 ?_) | apply (zs81 ?_) | fail)
    · rename_i A' cap'
      apply VQ_st (strs A' cap' (o ++ [wd]) :: H)
      · intro w hw
        rw [← strs_snoc]
        revert w
        (intro w hw; refine hw.perm ?_; focus repeat (first | with_reducible exact Perm.refl _ | (with_reducible apply perm_take; focus ((repeat (first | with_reducible exact rem_here | with_reducible apply rem_there)); done)) | with_reducible apply Perm.dropK))
      apply VQ_ret2; exact rfl; exact rfl; exact rfl
      rw [if_neg hwd]
      exact ⟨A', cap', by rw [List.length_append]; rfl, rfl⟩
    · apply VQ_ret2; exact rfl; exact rfl; exact rfl
      rw [if_pos hwd]
      exact ⟨A, cap, rfl, rfl⟩
set_option maxRecDepth 10000 in
set_option maxHeartbeats 1000000 in
theorem rwords_spec (text : List UInt8) (hl : text.length ≤ 100000) {B : Nat} {w0 : World} {H : List HP} {w : World} (hw : St B w0 H w) :
    Calls Tryz.prog 100 [strV text].toArray w (Post B w0 fun v K => ∃ A cap, v = .slice A (cutC 32 text).length cap ∧ K = strs A cap (cutC 32 text) :: H) := by
  have hs : (⟨text.toArray⟩ : ByteArray).size = text.length := by simp [ByteArray.size]
  refine Calls_of_VC Tryz.func100 Tryz.ntmps100 rfl rfl hw ?_
  repeat' (first | (apply VL_buildSlice0 T; exact rfl; exact rfl; intro g5) | apply (zs2 ?_) | apply (zs65 ?_) | apply (zs68 ?_) | apply (zs69 ?_) | apply (zs70 ?_) | apply (zs73 ?_) | fail)
  refine VC_loop1 (fun (z : Nat × List (List UInt8) × List UInt8 × Option Addr × Nat) => [(5, .int .i64 z.1), (3, .slice z.2.2.2.1 z.2.1.length z.2.2.2.2), (4, strV z.2.2.1), (0, strV text)]) (fun z => strs z.2.2.2.1 z.2.2.2.2 z.2.1 :: H) (fun z => z.1 ≤ text.length ∧ cutC 32 (text.take z.1) = z.2.1 ++ [z.2.2.1]) (fun z => text.length - z.1) (0, [], [], some ⟨g5, 0, none⟩, 0) ⟨Nat.zero_le _, rfl⟩ ?_ (fun w hw => hw) ?_
  · (repeat (first | exact sub_nil _ | (apply sub_cons; first | exact rfl | exact congrArg (fun z : Int => some (Value.int .i64 z)) (by omega))))
  rintro ⟨i, o, wd, A, cap⟩ ⟨hi, hcut⟩ K hK
  dsimp only at hi hcut ⊢
  have hcl := cut_count (c := 32) (text.take i)
  have hwl := cut_len (c := 32) (l := text.take i) wd (by rw [hcut]; simp)
  rw [hcut, List.length_append, List.length_take, List.length_singleton] at hcl
  rw [List.length_take] at hwl
  by_cases hlt : i < text.length
  · obtain ⟨b, hb⟩ : ∃ b, text[i]? = some b := ⟨_, List.getElem?_eq_getElem hlt⟩
    have htk : text.take (i + 1) = text.take i ++ [b] := by rw [List.take_add_one, hb, Option.toList_some]
    have hbb := b.toNat_lt
    unfold strs
    by_cases hbc : b = 32
    · subst hbc
      have hcn := cut_here hcut
      rw [← htk] at hcn
      have hcc : (UInt8.toNat 32 : Int) = 32 := rfl
      repeat' (first | (apply VL_byte text 32; exact rfl; exact rfl; exact rfl; exact hb; omega) | apply (zs1 ?_) | apply (zs2 ?_) | (apply zg4; refine zs14 ?_) | (apply zg7; (refine zs15 ?_ ?_ <;> intro _ <;> try (exfalso; omega))) | (apply (zs17 ?_ ?_) <;> intro _ <;> try (exfalso; omega)) | (apply zg13; refine zs30 ?_) | (apply zg21; (refine zs49 ?_; intro _ _)) | (apply zg26; (refine zs56 ?_; intro _)) | apply (zs65 ?_) | apply (zs68 ?_) | apply (zs69 ?_) | apply (zs70 ?_) | (apply zg27; refine zs71 ?_) | apply (zs73 ?_) | apply (zs76 ?_) | apply (zs79 ?_) | fail)
      rename_i A' cap'
      apply hK (i + 1, o ++ [wd], [], A', cap')
      · exact ⟨by show i + 1 ≤ _; omega, hcn⟩
      · show _ - (i + 1) < _ - i
        omega
      · dsimp only
        rw [List.length_append]
        (repeat (first | exact sub_nil _ | (apply sub_cons; first | exact rfl | exact congrArg (fun z : Int => some (Value.int .i64 z)) (by omega))))
      · intro w hw
        dsimp only
        rw [← strs_snoc]
        revert w
        (intro w hw; refine hw.perm ?_; focus repeat (first | with_reducible exact Perm.refl _ | (with_reducible apply perm_take; focus ((repeat (first | with_reducible exact rem_here | with_reducible apply rem_there)); done)) | with_reducible apply Perm.dropK))
    · have hcn := cut_on hbc hcut
      rw [← htk] at hcn
      have hbn : b.toNat ≠ 32 := fun h => hbc (UInt8.toNat_inj.1 h)
      repeat' (first | (apply VL_byte text b; exact rfl; exact rfl; exact rfl; exact hb; omega) | (apply VL_char text b; exact rfl; exact rfl; exact rfl; exact rfl; exact hb; omega) | (apply VL_cat wd [b]; exact rfl; exact rfl; exact rfl; (show _ + 1 ≤ _; omega)) | apply (zs1 ?_) | apply (zs2 ?_) | (apply zg4; refine zs14 ?_) | (apply zg7; (refine zs15 ?_ ?_ <;> intro _ <;> try (exfalso; omega))) | (apply (zs17 ?_ ?_) <;> intro _ <;> try (exfalso; omega)) | (apply zg13; refine zs30 ?_) | apply (zs65 ?_) | apply (zs68 ?_) | apply (zs69 ?_) | apply (zs70 ?_) | (apply zg27; first | refine zs71 ?_ | refine zs72 ?_) | apply (zs73 ?_) | apply (zs76 ?_) | apply (zs79 ?_) | fail)
      apply hK (i + 1, o, wd ++ [b], A, cap)
      · exact ⟨by show i + 1 ≤ _; omega, hcn⟩
      · show _ - (i + 1) < _ - i
        omega
      · (repeat (first | exact sub_nil _ | (apply sub_cons; first | exact rfl | exact congrArg (fun z : Int => some (Value.int .i64 z)) (by omega))))
      · exact fun w hw => hw
  · obtain rfl : i = text.length := by omega
    rw [List.take_length] at hcut
    rw [hcut]
    unfold strs
    repeat' (first | apply (zs1 ?_) | apply (zs2 ?_) | (apply zg4; refine zs14 ?_) | (apply (zs17 ?_ ?_) <;> intro _ <;> try (exfalso; omega)) | (apply zg21; (refine zs49 ?_; intro _ _)) | (apply zg26; (refine zs56 ?_; intro _)) | apply (zs65 ?_) | apply (zs68 ?_) | apply (zs69 ?_) | apply (zs70 ?_) | (apply zg27; refine zs72 ?_) | apply (zs74 ?_) | apply (zs75 ?_) | apply (zs80 ?_) | apply (zs81 ?_) | fail)
    rename_i A' cap'
    apply VQ_st (strs A' cap' (o ++ [wd]) :: H)
    · intro w hw
      rw [← strs_snoc]
      revert w
      (intro w hw; refine hw.perm ?_; focus repeat (first | with_reducible exact Perm.refl _ | (with_reducible apply perm_take; focus ((repeat (first | with_reducible exact rem_here | with_reducible apply rem_there)); done)) | with_reducible apply Perm.dropK))
    apply VQ_ret1; exact rfl; exact rfl
    exact ⟨A', cap', by rw [List.length_append]; rfl, rfl⟩
set_option maxRecDepth 10000 in
set_option maxHeartbeats 1000000 in
theorem rnumber_spec (wd : List UInt8) (hl : wd.length ≤ 100000) {B : Nat} {w0 : World} {H : List HP} {w : World} (hw : St B w0 H w) :
    Calls Tryz.prog 101 [strV wd].toArray w (Post B w0 fun v K => v = .int .i64 (numW wd) ∧ K = H) := by
  have hs : (⟨wd.toArray⟩ : ByteArray).size = wd.length := by simp [ByteArray.size]
  refine Calls_of_VC Tryz.func101 Tryz.ntmps101 rfl rfl hw ?_
  rcases Nat.eq_zero_or_pos wd.length with h0 | h0
  · have hn : numW wd = -1 := by unfold numW; rw [if_pos (.inl (by omega))]
    rw [hn]
    repeat' (first | apply (zs1 ?_) | apply (zs2 ?_) | (apply zg1; refine zs3 ?_) | (apply zg4; refine zs14 ?_) | (apply zg6; refine zs11 ?_) | (apply (zs17 ?_ ?_) <;> intro _ <;> try (exfalso; omega)) | apply (zs65 ?_) | apply (zs68 ?_) | apply (zs69 ?_) | apply (zs70 ?_) | (apply zg27; refine zs71 ?_) | apply (zs74 ?_) | apply (zs77 ?_) | fail)
    apply VQ_ret1; exact rfl; exact rfl; exact ⟨rfl, rfl⟩
  obtain ⟨b0, hb0⟩ : ∃ b, wd[(0 : Int).toNat]? = some b := ⟨_, List.getElem?_eq_getElem h0⟩
  have hh : wd.head? = some b0 := by rw [List.head?_eq_getElem?]; exact hb0
  have hbb := b0.toNat_lt
  have h48 : wd.head? = some 48 ↔ b0.toNat = 48 := by
    rw [hh, Option.some.injEq]
    exact ⟨fun h => by rw [h]; rfl, fun h => UInt8.toNat_inj.1 h⟩
  by_cases hbad : 4 < wd.length ∨ (1 < wd.length ∧ wd.head? = some 48)
  · have hn : numW wd = -1 := by unfold numW; rw [if_pos (hbad.elim (fun h => .inr (.inl h)) (fun h => .inr (.inr (.inl h))))]
    rw [hn]
    have hbn : wd.length ≤ 4 → 1 < wd.length ∧ b0.toNat = 48 := fun h => by
      rcases hbad with h1 | ⟨h1, h2⟩
      · omega
      · exact ⟨h1, h48.1 h2⟩
    by_cases h4 : 4 < wd.length
    · repeat' (first | apply (zs1 ?_) | apply (zs2 ?_) | (apply zg1; first | refine zs3 ?_ | refine zs4 ?_) | (apply zg4; refine zs14 ?_) | (apply zg6; first | refine zs11 ?_ | refine zs12 ?_) | (apply (zs17 ?_ ?_) <;> intro _ <;> try (exfalso; omega)) | (apply (zs19 ?_ ?_) <;> intro _ <;> try (exfalso; omega)) | apply (zs65 ?_) | apply (zs68 ?_) | apply (zs69 ?_) | apply (zs70 ?_) | (apply zg27; refine zs71 ?_) | apply (zs74 ?_) | apply (zs77 ?_) | fail)
      apply VQ_ret1; exact rfl; exact rfl; exact ⟨rfl, rfl⟩
    · obtain ⟨h1, h2⟩ := hbn (by omega)
      repeat' (first | (apply VL_byte wd b0; exact rfl; exact rfl; exact rfl; exact hb0; omega) | apply (zs1 ?_) | apply (zs2 ?_) | (apply zg1; refine zs4 ?_) | (apply zg4; refine zs14 ?_) | (apply zg6; first | refine zs11 ?_ | refine zs12 ?_) | (apply zg7; (refine zs15 ?_ ?_ <;> intro _ <;> try (exfalso; omega))) | (apply (zs17 ?_ ?_) <;> intro _ <;> try (exfalso; omega)) | (apply (zs19 ?_ ?_) <;> intro _ <;> try (exfalso; omega)) | apply (zs65 ?_) | apply (zs68 ?_) | apply (zs69 ?_) | apply (zs70 ?_) | (apply zg27; refine zs71 ?_) | apply (zs74 ?_) | apply (zs77 ?_) | fail)
      apply VQ_ret1; exact rfl; exact rfl; exact ⟨rfl, rfl⟩
  have h4 : wd.length ≤ 4 := Nat.not_lt.1 fun h => hbad (.inl h)
  have hbn : 1 < wd.length → b0.toNat ≠ 48 := fun h1 h2 => hbad (.inr ⟨h1, h48.2 h2⟩)
  have hnum : numW wd = if wd.all digB = false then -1 else (valN wd : Int) := by
    unfold numW
    by_cases ha : wd.all digB = false
    · rw [if_pos (.inr (.inr (.inr ha))), if_pos ha]
    · rw [if_neg, if_neg ha]
      rintro (h | h | h | h)
      · omega
      · omega
      · exact hbad (.inr h)
      · exact ha h
  rw [hnum]
  repeat' (first | (apply VL_byte wd b0; exact rfl; exact rfl; exact rfl; exact hb0; omega) | apply (zs1 ?_) | apply (zs2 ?_) | (apply zg1; first | refine zs3 ?_ | refine zs4 ?_) | (apply zg4; refine zs14 ?_) | (apply zg6; first | refine zs11 ?_ | refine zs12 ?_) | (apply zg7; (refine zs15 ?_ ?_ <;> intro _ <;> try (exfalso; omega))) | (apply (zs17 ?_ ?_) <;> intro _ <;> try (exfalso; omega)) | (apply (zs19 ?_ ?_) <;> intro _ <;> try (exfalso; omega)) | apply (zs65 ?_) | apply (zs68 ?_) | apply (zs69 ?_) | apply (zs70 ?_) | (apply zg27; refine zs72 ?_) | apply (zs73 ?_) | apply (zs76 ?_) | fail)
  all_goals (
    refine VC_loop1 (fun (i : Nat) => [(4, .int .i64 i), (3, .int .i64 (valN (wd.take i) : Nat)), (0, strV wd)]) (fun _ => H) (fun i => i ≤ wd.length ∧ (wd.take i).all digB = true) (fun i => wd.length - i) 0 ⟨Nat.zero_le _, rfl⟩ ?_ (fun w hw => hw) ?_
    · (repeat (first | exact sub_nil _ | (apply sub_cons; first | exact rfl | exact congrArg (fun z : Int => some (Value.int .i64 z)) (by omega))))
    rintro i ⟨hi, hall⟩ K hK
    have hvb := val_bd hall
    have hpw : 10 ^ (wd.take i).length ≤ 10 ^ 4 := Nat.pow_le_pow_right (by omega) (by rw [List.length_take]; omega)
    have hvl : valN (wd.take i) < 10000 := Nat.lt_of_lt_of_le hvb hpw
    by_cases hlt : i < wd.length
    · obtain ⟨b, hb⟩ : ∃ b, wd[i]? = some b := ⟨_, List.getElem?_eq_getElem hlt⟩
      have htk : wd.take (i + 1) = wd.take i ++ [b] := by rw [List.take_add_one, hb, Option.toList_some]
      have hb8 := b.toNat_lt
      by_cases hd : 48 ≤ b.toNat ∧ b.toNat ≤ 57
      · have hv := val_snoc (wd.take i) b
        rw [← htk] at hv
        repeat' (first | (apply VL_byte wd b; exact rfl; exact rfl; exact rfl; exact hb; omega) | (apply VL_sub8; exact rfl; exact rfl; exact rfl; omega) | apply (zs1 ?_) | apply (zs2 ?_) | (apply zg1; refine zs4 ?_) | (apply zg4; refine zs14 ?_) | (apply zg6; refine zs12 ?_) | (apply (zs17 ?_ ?_) <;> intro _ <;> try (exfalso; omega)) | (apply (zs19 ?_ ?_) <;> intro _ <;> try (exfalso; omega)) | (apply zg13; refine zs30 ?_) | (apply zg15; refine zs32 ?_) | (apply zg19; refine zs44 ?_) | apply (zs65 ?_) | apply (zs68 ?_) | apply (zs69 ?_) | apply (zs70 ?_) | (apply zg27; first | refine zs71 ?_ | refine zs72 ?_) | apply (zs73 ?_) | apply (zs76 ?_) | apply (zs79 ?_) | fail)
        apply hK (i + 1)
        · refine ⟨by omega, ?_⟩
          rw [htk, List.all_append, hall]
          simp [digB, hd]
        · omega
        · rw [hv]
          (repeat (first | exact sub_nil _ | (apply sub_cons; first | exact rfl | exact congrArg (fun z : Int => some (Value.int .i64 z)) (by omega))))
        · exact fun w hw => hw
      · have hna : wd.all digB = false := by
          rw [List.all_eq_false]
          exact ⟨b, List.mem_of_getElem? hb, by unfold digB; rw [decide_eq_true_eq]; exact hd⟩
        rw [if_pos hna]
        clear hK
        repeat' (first | (apply VL_byte wd b; exact rfl; exact rfl; exact rfl; exact hb; omega) | apply (zs1 ?_) | apply (zs2 ?_) | (apply zg1; first | refine zs3 ?_ | refine zs4 ?_) | (apply zg4; refine zs14 ?_) | (apply zg6; first | refine zs11 ?_ | refine zs12 ?_) | (apply (zs17 ?_ ?_) <;> intro _ <;> try (exfalso; omega)) | (apply (zs19 ?_ ?_) <;> intro _ <;> try (exfalso; omega)) | apply (zs65 ?_) | apply (zs68 ?_) | apply (zs69 ?_) | apply (zs70 ?_) | (apply zg27; refine zs71 ?_) | apply (zs73 ?_) | apply (zs74 ?_) | apply (zs76 ?_) | apply (zs77 ?_) | apply (zs78 ?_) | fail)
        all_goals (apply VQ_ret1; exact rfl; exact rfl; exact ⟨rfl, rfl⟩)
    · repeat' (first | apply (zs1 ?_) | apply (zs2 ?_) | (apply zg4; refine zs14 ?_) | (apply (zs17 ?_ ?_) <;> intro _ <;> try (exfalso; omega)) | apply (zs65 ?_) | apply (zs68 ?_) | apply (zs69 ?_) | apply (zs70 ?_) | (apply zg27; refine zs72 ?_) | apply (zs74 ?_) | apply (zs75 ?_) | apply (zs80 ?_) | apply (zs81 ?_) | fail)
      apply VQ_ret1; exact rfl; exact rfl
      have hie : wd.take i = wd := List.take_of_length_le (by omega)
      rw [hie] at hall ⊢
      rw [if_neg (by simp [hall])]
      exact ⟨rfl, rfl⟩)
set_option maxRecDepth 10000 in
set_option maxHeartbeats 2000000 in
theorem rread_spec (line word : List UInt8) (many : Nat) (hl : line.length ≤ 100000) (hm : 1 ≤ many ∧ many ≤ 100) {B : Nat} {w0 : World} {H : List HP} {w : World} (hw : St B w0 H w) :
    Calls Tryz.prog 64 [strV line, strV word, .int .i64 many].toArray w (Post B w0 (OutR H (readE line word many))) := by
  refine Calls_of_VC Tryz.func64 Tryz.ntmps64 rfl rfl hw ?_
  repeat' (first | apply (zs1 ?_) | apply (zs2 ?_) | apply (zs65 ?_) | apply (zs68 ?_) | apply (zs69 ?_) | apply (zs70 ?_) | fail)
  apply VL_call _ en100
  (repeat (first | exact args_nil | (apply args_cons; exact rfl)))
  exact rfl
  exact fun _ hw => (rwords_spec line hl (hw))
  rintro _ _ ⟨A, cap, rfl, rfl⟩
  obtain ⟨ps, hps⟩ : ∃ ps, cutC 32 line = ps := ⟨_, rfl⟩
  have hrd : readE line word many = if ps.length ≠ many + 1 ∨ ps.headD [] ≠ word then none else numsW ps.tail := by unfold readE; rw [hps]
  have hne : ps ≠ [] := hps ▸ cut_ne 32 line
  have hp0 : 1 ≤ ps.length := List.length_pos_iff.2 hne
  have hpc : ps.length ≤ 100001 := by have := cut_count (c := 32) line; rw [hps] at this; omega
  have h0 : ps[(0 : Int).toNat]? = some (ps.headD []) := by
    cases ps with
    | nil => exact absurd rfl hne
    | cons p ps => rfl
  rw [hps]
  have hrp : Rd B w0 (strs A cap ps :: H) A (ps.flatMap strL) := Rd.sl (.head _)
  repeat' (first | (apply VL_wneq (ps.headD []) word; exact rfl; exact rfl; exact rfl; all_goals intro hwd) | (apply VL_buildSlice0 T; exact rfl; exact rfl; intro g5) | apply (zs1 ?_) | apply (zs2 ?_) | (apply zg1; first | refine zs3 ?_ | refine zs4 ?_) | (apply zg3; refine zs60 ?_) | (apply zg4; refine zs9 ?_) | (apply zg5; refine zs10 ?_) | (apply zg6; first | refine zs11 ?_ | refine zs12 ?_) | (apply zg8; (refine zs16 ?_ ?_ <;> intro _ <;> try (exfalso; omega))) | (apply zg13; refine zs30 ?_) | apply (zs65 ?_) | apply (zs68 ?_) | apply (zs69 ?_) | apply (zs70 ?_) | (apply zg27; first | refine zs71 ?_ | refine zs72 ?_) | apply (zs73 ?_) | apply (zs74 ?_) | apply (zs76 ?_) | apply (zs77 ?_) | fail)
  · rw [hrd, if_pos (.inl (by omega))]
    apply VQ_tail; apply VQ_ret2; exact rfl; exact rfl; exact rfl; exact ⟨rfl, rfl⟩
  · rw [hrd, if_pos (.inr hwd)]
    apply VQ_tail; apply VQ_ret2; exact rfl; exact rfl; exact rfl; exact ⟨rfl, rfl⟩
  have hpl : ps.length = many + 1 := by omega
  rw [hrd, if_neg (by rintro (h | h); exact h hpl; exact h hwd)]
  obtain ⟨ws, hws⟩ : ∃ ws, ps.tail = ws := ⟨_, rfl⟩
  have hwl : ws.length = many := by rw [← hws, List.length_tail]; omega
  have hwm : ∀ p ∈ ws, p.length ≤ 100000 := fun p hp => by
    have h1 := cut_len (c := 32) (l := line) p (by rw [hps]; exact List.mem_of_mem_tail (hws ▸ hp))
    omega
  rw [hws]
  have hnone : ∀ {p : List UInt8}, p ∈ ws → numW p < 0 → numsW ws = none := fun hp hn => nums_none hp hn
  refine VC_loop1 (fun (z : Nat × Option Addr × Nat) => [(10, .int .i64 ((z.1 : Int) + 1)), (8, .slice A ps.length cap), (9, .slice z.2.1 ((ws.take z.1).map numW).length z.2.2)]) (fun z => nrs z.2.1 z.2.2 ((ws.take z.1).map numW) :: strs A cap ps :: H) (fun z => z.1 ≤ ws.length ∧ ∀ p ∈ ws.take z.1, 0 ≤ numW p) (fun z => ws.length - z.1) (0, some ⟨g5, 0, none⟩, 0) ⟨Nat.zero_le _, fun p hp => by cases hp⟩ ?_ (fun w hw => hw) ?_
  · (repeat (first | exact sub_nil _ | (apply sub_cons; first | exact rfl | exact congrArg (fun z : Int => some (Value.int .i64 z)) (by omega))))
  rintro ⟨i, A9, cap9⟩ ⟨hi, hall⟩ K hK
  dsimp only at hi hall ⊢
  have hlen : ((ws.take i).map numW).length = i := by rw [List.length_map, List.length_take]; omega
  have hrw' := hrp.cons (X := nrs A9 cap9 ((ws.take i).map numW))
  clear hrp
  by_cases hlt : i < ws.length
  · obtain ⟨p, hp⟩ : ∃ p, ws[i]? = some p := ⟨_, List.getElem?_eq_getElem hlt⟩
    have hpm := List.mem_of_getElem? hp
    have hpl2 := hwm p hpm
    have hget : ps[((i : Int) + 1).toNat]? = some p := by
      rw [show ((i : Int) + 1).toNat = i + 1 by omega, ← hp, ← hws, List.getElem?_tail]
    by_cases hv : numW p < 0
    · clear hK
      repeat' (first | ((first | apply VL_callt en101 | apply VL_callq en101); (repeat (first | exact args_nil | (apply args_cons; exact rfl))); exact rfl; exact fun _ hw => (rnumber_spec p hpl2 hw)) | apply (zs1 ?_) | apply (zs2 ?_) | (apply zg3; refine zs60 ?_) | (apply zg4; refine zs9 ?_) | (apply zg5; refine zs10 ?_) | (apply (zs17 ?_ ?_) <;> intro _ <;> try (exfalso; omega)) | apply (zs65 ?_) | apply (zs68 ?_) | apply (zs69 ?_) | apply (zs70 ?_) | (apply zg27; refine zs71 ?_) | apply (zs73 ?_) | apply (zs74 ?_) | apply (zs76 ?_) | apply (zs77 ?_) | apply (zs78 ?_) | fail)
      rw [hnone hpm hv]
      apply VQ_st H
      · (intro w hw; refine hw.perm ?_; focus repeat (first | with_reducible exact Perm.refl _ | (with_reducible apply perm_take; focus ((repeat (first | with_reducible exact rem_here | with_reducible apply rem_there)); done)) | with_reducible apply Perm.dropK))
      apply VQ_ret2; exact rfl; exact rfl; exact rfl; exact ⟨rfl, rfl⟩
    · have e5 : (ws.take i).map numW ++ [numW p] = (ws.take (i + 1)).map numW := by rw [List.take_add_one, hp, Option.toList_some, List.map_append, List.map_cons, List.map_nil]
      repeat' (first | ((first | apply VL_callt en101 | apply VL_callq en101); (repeat (first | exact args_nil | (apply args_cons; exact rfl))); exact rfl; exact fun _ hw => (rnumber_spec p hpl2 hw)) | apply (zs1 ?_) | apply (zs2 ?_) | (apply zg3; refine zs60 ?_) | (apply zg4; refine zs9 ?_) | (apply zg5; refine zs10 ?_) | (apply (zs17 ?_ ?_) <;> intro _ <;> try (exfalso; omega)) | (apply zg13; refine zs30 ?_) | (apply zg21; (refine zs49 ?_; intro _ _)) | (apply zg26; (refine zs56 ?_; intro _)) | apply (zs65 ?_) | apply (zs68 ?_) | apply (zs69 ?_) | apply (zs70 ?_) | (apply zg27; first | refine zs71 ?_ | refine zs72 ?_) | apply (zs73 ?_) | apply (zs76 ?_) | apply (zs79 ?_) | fail)
      rename_i xA xcap
      rw [nrs_snoc, e5]
      apply hK (i + 1, xA, xcap)
      · refine ⟨by show i + 1 ≤ _; omega, fun p' hp' => ?_⟩
        dsimp only at hp'
        rw [List.take_add_one, hp, Option.toList_some, List.mem_append, List.mem_singleton] at hp'
        rcases hp' with hp' | rfl
        · exact hall p' hp'
        · omega
      · dsimp only; omega
      · rw [show ((ws.take i).map numW).length + 1 = ((ws.take (i + 1)).map numW).length from (by rw [← e5]; simp)]
        (repeat (first | exact sub_nil _ | (apply sub_cons; first | exact rfl | exact congrArg (fun z : Int => some (Value.int .i64 z)) (by omega))))
      · (intro w hw; refine hw.perm ?_; focus repeat (first | with_reducible exact Perm.refl _ | (with_reducible apply perm_take; focus ((repeat (first | with_reducible exact rem_here | with_reducible apply rem_there)); done)) | with_reducible apply Perm.dropK))
  · have hie : i = ws.length := by omega
    rw [hie, List.take_length] at hall
    rw [nums_some hall]
    repeat' (first | apply (zs1 ?_) | apply (zs2 ?_) | (apply zg4; refine zs9 ?_) | (apply (zs17 ?_ ?_) <;> intro _ <;> try (exfalso; omega)) | apply (zs65 ?_) | apply (zs68 ?_) | apply (zs69 ?_) | apply (zs70 ?_) | (apply zg27; refine zs72 ?_) | apply (zs74 ?_) | apply (zs75 ?_) | apply (zs80 ?_) | apply (zs81 ?_) | fail)
    rw [hie, List.take_length]
    apply VQ_st (nrs A9 cap9 (ws.map numW) :: H)
    · (intro w hw; refine hw.perm ?_; focus repeat (first | with_reducible exact Perm.refl _ | (with_reducible apply perm_take; focus ((repeat (first | with_reducible exact rem_here | with_reducible apply rem_there)); done)) | with_reducible apply Perm.dropK))
    apply VQ_ret2; exact rfl; exact rfl; exact rfl
    exact ⟨A9, cap9, rfl, rfl⟩
end Go.Proofs.YtnkpfpgmbpnbgaaGreatDoor

/- Walks: the reference's Parse. -/
namespace Go.Proofs.YtnkpfpgmbpnbgaaGreatDoor
open Go.RowKit Go.Eng Go.Nw

theorem rlines_sub (text : List UInt8) : ∃ k, (rlines text).1 = (cutC 10 text).take k := by
  unfold rlines
  split
  · exact ⟨_, rfl⟩
  · exact ⟨_, List.take_length.symm⟩
set_option maxRecDepth 10000 in
set_option maxHeartbeats 4000000 in
theorem rparse_spec (text : List UInt8) (hl : text.length ≤ 100000) {B : Nat} {w0 : World} {H : List HP} {w : World} (hw : St B w0 H w) :
    Calls Tryz.prog 19 [strV text].toArray w (Post B w0 (OutP H (parseE text))) := by
  refine Calls_of_VC Tryz.func19 Tryz.ntmps19 rfl rfl hw ?_
  obtain ⟨k0, hk0⟩ := rlines_sub text
  have hpe : parseE text = rparseL (rlines text).1 (rlines text).2 := (rparse_eq text).symm
  repeat' (first | apply (zs1 ?_) | apply (zs2 ?_) | (apply zg24; (refine zs54 ?_; intro _)) | apply (zs65 ?_) | apply (zs68 ?_) | apply (zs69 ?_) | apply (zs70 ?_) | fail)
  apply VL_call _ en63
  (repeat (first | exact args_nil | (apply args_cons; exact rfl)))
  exact rfl
  exact fun _ hw => (rlines_spec text hl (hw))
  rintro _ _ ⟨A5, cap5, rfl, rfl⟩
  obtain ⟨⟨ls, whole⟩, hR⟩ : ∃ R, rlines text = R := ⟨_, rfl⟩
  rw [hR] at hpe hk0 ⊢
  dsimp only at hpe hk0 ⊢
  have hlc : ls.length ≤ 100001 := by have := cut_count (c := 10) text; rw [hk0, List.length_take]; omega
  have hll : ∀ p ∈ ls, p.length ≤ 100000 := fun p hp => by have := cut_len (c := 10) (l := text) p (List.mem_of_mem_take (hk0 ▸ hp)); omega
  have hrp : ∀ {L : List HP}, strs A5 cap5 ls ∈ L → Rd B w0 L A5 (ls.flatMap strL) := fun h => Rd.sl h
  rw [hpe]
  have hpl : rparseL ls whole = if ls.length = 0 then (zeroS, (0, 3)) else if (firstF (rbad ls whole) ls.length 0).2 ≠ 0 then (zeroS, firstF (rbad ls whole) ls.length 0)
    else if formE (schTo ls ls.length) = false then (zeroS, (-1, 1)) else (schTo ls ls.length, (-1, 0)) := rfl
  by_cases hl0 : ls.length = 0
  · repeat' (first | apply (zs1 ?_) | apply (zs2 ?_) | (apply zg4; refine zs9 ?_) | apply (zs13 ?_) | (apply zg7; (refine zs15 ?_ ?_ <;> intro _ <;> try (exfalso; omega))) | (apply zg22; refine zs51 ?_) | (apply zg24; (refine zs54 ?_; intro _)) | (apply zg25; refine zs55 ?_) | apply (zs65 ?_) | apply (zs68 ?_) | apply (zs69 ?_) | apply (zs70 ?_) | (apply zg27; refine zs71 ?_) | apply (zs74 ?_) | apply (zs77 ?_) | fail)
    apply VQ_retc3 T (H2 := cels none 0 [] :: H); exact rfl; exact rfl; exact rfl; exact rfl; (focus repeat (first | with_reducible exact List.mem_cons_self | with_reducible apply List.mem_cons_of_mem | assumption)); exact rfl; exact rfl; (intro w hw; refine St.nilSlice (H := H) ?_ _ _; revert w; (intro w hw; refine hw.perm ?_; focus repeat (first | with_reducible exact Perm.refl _ | (with_reducible apply perm_take; focus ((repeat (first | with_reducible exact rem_here | with_reducible apply rem_there)); done)) | with_reducible apply Perm.dropK)))
    exact outP_no 0 3 (by rw [hpl, if_pos hl0]) rfl
  rw [if_neg hl0] at hpl
  repeat' (first | apply (zs1 ?_) | apply (zs2 ?_) | (apply zg4; refine zs9 ?_) | apply (zs13 ?_) | (apply zg7; (refine zs15 ?_ ?_ <;> intro _ <;> try (exfalso; omega))) | (apply zg22; refine zs51 ?_) | (apply zg24; (refine zs54 ?_; intro _)) | (apply zg25; refine zs55 ?_) | apply (zs65 ?_) | apply (zs68 ?_) | apply (zs69 ?_) | apply (zs70 ?_) | (apply zg27; refine zs72 ?_) | apply (zs73 ?_) | apply (zs76 ?_) | fail)
  rename_i gr gs _
  refine VC_loop1 (fun (z : Nat × Option Addr × Nat) => [(8, .int .i64 z.1), (5, .slice A5 ls.length cap5), (6, .bool whole), (7, .pointer (some ⟨gs, 0, none⟩)), (2, .pointer (some ⟨gr, 0, none⟩))])
    (fun z => schP gs (schTo ls z.1) z.2.1 z.2.2 :: cels z.2.1 z.2.2 (schTo ls z.1).cells :: strs A5 cap5 ls :: blk gr (.cells #[.int .i64 0, .int .i64 0, .slice none 0 0] 30 (0, 0)) :: H) (fun z => z.1 ≤ ls.length ∧ ∀ k, k < z.1 → rbad ls whole k = 0) (fun z => ls.length - z.1) (0, none, 0) ⟨Nat.zero_le _, fun k hk => absurd hk (Nat.not_lt_zero _)⟩ ?_ (fun w hw => ?_) ?_
  · (repeat (first | exact sub_nil _ | (apply sub_cons; first | exact rfl | exact congrArg (fun z : Int => some (Value.int .i64 z)) (by omega))))
  · exact (hw.nilSlice _ _).perm (.swap _ _ _)
  rintro ⟨i, A, cap⟩ ⟨hi, hall⟩ K hK
  dsimp only at hi hall ⊢
  have hcl := schTo_len ls i
  obtain ⟨SC, hSC⟩ : ∃ SC, schTo ls i = SC := ⟨_, rfl⟩
  rw [hSC] at hcl ⊢
  unfold schP
  by_cases hlti : i < ls.length
  · have hget : ls[i]? = some (lineAt ls i) := by
      unfold lineAt
      rw [List.getD_eq_getElem?_getD, List.getElem?_eq_getElem (by omega)]
      rfl
    have hrt' : Rd B w0 (blk gs (.cells #[.int .i64 SC.len, .int .i64 SC.off, .slice A SC.cells.length cap] 30 (0, 0)) :: cels A cap SC.cells :: strs A5 cap5 ls :: blk gr (.cells #[.int .i64 0, .int .i64 0, .slice none 0 0] 30 (0, 0)) :: H) A5 (ls.flatMap strL) := hrp (by (focus repeat (first | with_reducible exact List.mem_cons_self | with_reducible apply List.mem_cons_of_mem | assumption)))
    have hlm : (lineAt ls i).length ≤ 100000 := hll _ (List.mem_of_getElem? hget)
    rcases Nat.eq_zero_or_pos i with h0 | h0
    · subst h0
      have hsc : SC = zeroS := hSC.symm
      subst hsc
      repeat' (first | apply (zs1 ?_) | apply (zs2 ?_) | (apply zg3; refine zs60 ?_) | (apply zg4; refine zs9 ?_) | (apply zg5; refine zs10 ?_) | (apply zg7; (refine zs15 ?_ ?_ <;> intro _ <;> try (exfalso; omega))) | (apply (zs17 ?_ ?_) <;> intro _ <;> try (exfalso; omega)) | apply (zs65 ?_) | apply (zs68 ?_) | apply (zs69 ?_) | apply (zs70 ?_) | (apply zg27; refine zs71 ?_) | apply (zs73 ?_) | apply (zs76 ?_) | fail)
      apply VL_call _ en64
      (repeat (first | exact args_nil | (apply args_cons; exact rfl)))
      exact rfl
      exact fun _ hw => (rread_spec (lineAt ls 0) wordS 2 hlm (by omega) (hw))
      intro v9 K9 hr9
      cases hrow : readE (lineAt ls 0) wordS 2 with
      | none =>
        rw [hrow] at hr9
        obtain ⟨rfl, rfl⟩ := hr9
        have hbr : rbad ls whole 0 = 3 := by unfold rbad; rw [show rowE 0 (lineAt ls 0) = none from hrow]; exact if_pos (.inl rfl)
        have hfa := firstF_at (f := rbad ls whole) (r := ls.length) (i0 := 0) (i := 0) (fun k _ hk => absurd hk (Nat.not_lt_zero _)) (Nat.le_refl _) (by omega) (by rw [hbr]; decide)
        repeat' (first | apply (zs1 ?_) | apply (zs2 ?_) | (apply zg1; refine zs3 ?_) | (apply zg6; refine zs11 ?_) | apply (zs13 ?_) | (apply zg20; refine zs48 ?_) | (apply zg22; refine zs51 ?_) | (apply zg25; refine zs55 ?_) | apply (zs65 ?_) | apply (zs68 ?_) | apply (zs69 ?_) | apply (zs70 ?_) | (apply zg27; refine zs71 ?_) | apply (zs74 ?_) | apply (zs77 ?_) | apply (zs78 ?_) | fail)
        apply VQ_retc3 T (H2 := cels none 0 [] :: H); exact rfl; exact rfl; exact rfl; exact rfl; (focus repeat (first | with_reducible exact List.mem_cons_self | with_reducible apply List.mem_cons_of_mem | assumption)); exact rfl; exact rfl; (intro w hw; refine St.nilSlice (H := H) ?_ _ _; revert w; (intro w hw; refine hw.perm ?_; focus repeat (first | with_reducible exact Perm.refl _ | (with_reducible apply perm_take; focus ((repeat (first | with_reducible exact rem_here | with_reducible apply rem_there)); done)) | with_reducible apply Perm.dropK)))
        exact outP_no 0 3 (by rw [hpl, hfa, hbr]; rfl) rfl
      | some x =>
        rw [hrow] at hr9
        obtain ⟨Ax, capx, rfl, rfl⟩ := hr9
        obtain ⟨xa, xb, rfl⟩ : ∃ a b, x = [a, b] := by
          have h2 := (read_some hrow).2.1
          match x, h2 with
          | [a, b], _ => exact ⟨a, b, rfl⟩
        by_cases hbd : ls.length = 1 ∧ whole = false
        · obtain ⟨hl1, rfl⟩ := hbd
          have hbr : rbad ls false 0 = 3 := if_pos (.inr ⟨by omega, rfl⟩)
          have hfa := firstF_at (f := rbad ls false) (r := ls.length) (i0 := 0) (i := 0) (fun k _ hk => absurd hk (Nat.not_lt_zero _)) (Nat.le_refl _) (by omega) (by rw [hbr]; decide)
          repeat' (first | apply (zs1 ?_) | apply (zs2 ?_) | (apply zg1; refine zs4 ?_) | (apply zg4; refine zs9 ?_) | (apply zg6; first | refine zs11 ?_ | refine zs12 ?_) | apply (zs13 ?_) | (apply zg7; (refine zs15 ?_ ?_ <;> intro _ <;> try (exfalso; omega))) | (apply zg14; refine zs31 ?_) | (apply zg20; first | refine zs47 ?_ | refine zs48 ?_) | (apply zg22; refine zs51 ?_) | (apply zg25; refine zs55 ?_) | apply (zs65 ?_) | apply (zs68 ?_) | apply (zs69 ?_) | apply (zs70 ?_) | (apply zg27; refine zs71 ?_) | apply (zs74 ?_) | apply (zs77 ?_) | apply (zs78 ?_) | fail)
          apply VQ_retc3 T (H2 := cels none 0 [] :: H); exact rfl; exact rfl; exact rfl; exact rfl; (focus repeat (first | with_reducible exact List.mem_cons_self | with_reducible apply List.mem_cons_of_mem | assumption)); exact rfl; exact rfl; (intro w hw; refine St.nilSlice (H := H) ?_ _ _; revert w; (intro w hw; refine hw.perm ?_; focus repeat (first | with_reducible exact Perm.refl _ | (with_reducible apply perm_take; focus ((repeat (first | with_reducible exact rem_here | with_reducible apply rem_there)); done)) | with_reducible apply Perm.dropK)))
          exact outP_no 0 3 (by rw [hpl, hfa, hbr]; rfl) rfl
        have hbr : rbad ls whole 0 = 0 := by
          unfold rbad
          rw [show rowE 0 (lineAt ls 0) = some [xa, xb] from hrow]
          exact if_neg (by rintro (h | ⟨h1, h2⟩); cases h; exact hbd ⟨by omega, h2⟩)
        have hst : schTo ls 1 = ⟨xa, xb, []⟩ := by
          show stepS 0 zeroS _ = _
          rw [show rowE 0 (lineAt ls 0) = some [xa, xb] from hrow]; rfl
        unfold nrs
        rw [show ([xa, xb] : List Int).length = 2 from rfl, show ([xa, xb] : List Int).flatMap numF = [.int .i64 xa, .int .i64 xb] from rfl]
        have hwh : ls.length = 1 → whole = true := fun h => by cases whole with | true => rfl | false => exact absurd ⟨h, rfl⟩ hbd
        by_cases hl1 : ls.length = 1
        · obtain rfl := hwh hl1
          repeat' (first | apply (zs1 ?_) | apply (zs2 ?_) | (apply zg1; refine zs4 ?_) | (apply zg4; refine zs9 ?_) | (apply zg6; first | refine zs11 ?_ | refine zs12 ?_) | apply (zs13 ?_) | (apply zg7; (refine zs15 ?_ ?_ <;> intro _ <;> try (exfalso; omega))) | (apply zg14; refine zs31 ?_) | (apply zg20; refine zs47 ?_) | apply (zs65 ?_) | apply (zs68 ?_) | apply (zs69 ?_) | apply (zs70 ?_) | (apply zg27; first | refine zs71 ?_ | refine zs72 ?_) | apply (zs76 ?_) | fail)
          apply VC_heldH [0, 1, 2, 3, 4, 5, 6, 7] [8, 9] [true, false]
          kernel_rfl
          kernel_rfl
          (repeat (first | with_reducible exact split_nil | with_reducible apply split_t | with_reducible apply split_f))
          (simp only [pickOps, nthO]; rfl)
          (simp only [pickOps, nthO]; rfl)
          repeat' (first | (apply VL_load_sl T; exact rfl; (focus repeat (first | with_reducible exact List.mem_cons_self | with_reducible apply List.mem_cons_of_mem | assumption)); exact rfl; exact rfl; exact rfl) | apply (zs1 ?_) | apply (zs2 ?_) | (apply zg2; refine zs6 ?_) | (apply zg5; refine zs10 ?_) | (apply zg13; refine zs30 ?_) | (apply zg22; refine zs50 ?_) | apply (zs65 ?_) | (apply VL_nilh; (repeat (first | with_reducible exact app_nil | with_reducible apply app_cons | exact app_niln _))) | apply (zs68 ?_) | apply (zs70 ?_) | apply (zs79 ?_) | apply (zs87 ?_) | (apply VQ_heldq; (repeat (first | with_reducible exact pull_nil | (with_reducible apply pull_cons; (repeat (first | with_reducible exact rem_here | with_reducible apply rem_there)))))) | apply (zs93 ?_) | apply (zs94 ?_) | fail)
          apply hK (0 + 1, A, cap)
          · refine ⟨by show 0 + 1 ≤ ls.length; omega, fun k hk => ?_⟩
            obtain rfl : k = 0 := by have : k < 0 + 1 := hk; omega
            exact hbr
          · show ls.length - (0 + 1) < ls.length - 0
            omega
          · (repeat (first | exact sub_nil _ | (apply sub_cons; first | exact rfl | exact congrArg (fun z : Int => some (Value.int .i64 z)) (by omega))))
          · intro w hw
            have h5 : St B w0 (blk gs (.cells #[.int .i64 xa, .int .i64 xb, .slice A zeroS.cells.length cap] 30 (0, 0)) :: cels A cap zeroS.cells :: strs A5 cap5 ls :: blk gr (.cells #[.int .i64 0, .int .i64 0, .slice none 0 0] 30 (0, 0)) :: H) w := by
              revert w
              (intro w hw; refine hw.perm ?_; focus repeat (first | with_reducible exact Perm.refl _ | (with_reducible apply perm_take; focus ((repeat (first | with_reducible exact rem_here | with_reducible apply rem_there)); done)) | with_reducible apply Perm.dropK))
            dsimp only
            rw [hst]
            exact h5
        · skip
          repeat' (first | apply (zs1 ?_) | apply (zs2 ?_) | (apply zg1; first | refine zs3 ?_ | refine zs4 ?_) | (apply zg4; refine zs9 ?_) | (apply zg6; refine zs12 ?_) | apply (zs13 ?_) | (apply zg7; (refine zs15 ?_ ?_ <;> intro _ <;> try (exfalso; omega))) | (apply zg14; refine zs31 ?_) | (apply zg20; refine zs47 ?_) | apply (zs65 ?_) | apply (zs68 ?_) | apply (zs69 ?_) | apply (zs70 ?_) | (apply zg27; first | refine zs71 ?_ | refine zs72 ?_) | apply (zs76 ?_) | fail)
          apply VC_heldH [0, 1, 2, 3, 4, 5, 6, 7] [8, 9] [true, false]
          kernel_rfl
          kernel_rfl
          (repeat (first | with_reducible exact split_nil | with_reducible apply split_t | with_reducible apply split_f))
          (simp only [pickOps, nthO]; rfl)
          (simp only [pickOps, nthO]; rfl)
          repeat' (first | (apply VL_load_sl T; exact rfl; (focus repeat (first | with_reducible exact List.mem_cons_self | with_reducible apply List.mem_cons_of_mem | assumption)); exact rfl; exact rfl; exact rfl) | apply (zs1 ?_) | apply (zs2 ?_) | (apply zg2; refine zs6 ?_) | (apply zg5; refine zs10 ?_) | (apply zg13; refine zs30 ?_) | (apply zg22; refine zs50 ?_) | apply (zs65 ?_) | (apply VL_nilh; (repeat (first | with_reducible exact app_nil | with_reducible apply app_cons | exact app_niln _))) | apply (zs68 ?_) | apply (zs70 ?_) | apply (zs79 ?_) | apply (zs87 ?_) | (apply VQ_heldq; (repeat (first | with_reducible exact pull_nil | (with_reducible apply pull_cons; (repeat (first | with_reducible exact rem_here | with_reducible apply rem_there)))))) | apply (zs93 ?_) | apply (zs94 ?_) | fail)
          apply hK (0 + 1, A, cap)
          · refine ⟨by show 0 + 1 ≤ ls.length; omega, fun k hk => ?_⟩
            obtain rfl : k = 0 := by have : k < 0 + 1 := hk; omega
            exact hbr
          · show ls.length - (0 + 1) < ls.length - 0
            omega
          · (repeat (first | exact sub_nil _ | (apply sub_cons; first | exact rfl | exact congrArg (fun z : Int => some (Value.int .i64 z)) (by omega))))
          · intro w hw
            have h5 : St B w0 (blk gs (.cells #[.int .i64 xa, .int .i64 xb, .slice A zeroS.cells.length cap] 30 (0, 0)) :: cels A cap zeroS.cells :: strs A5 cap5 ls :: blk gr (.cells #[.int .i64 0, .int .i64 0, .slice none 0 0] 30 (0, 0)) :: H) w := by
              revert w
              (intro w hw; refine hw.perm ?_; focus repeat (first | with_reducible exact Perm.refl _ | (with_reducible apply perm_take; focus ((repeat (first | with_reducible exact rem_here | with_reducible apply rem_there)); done)) | with_reducible apply Perm.dropK))
            dsimp only
            rw [hst]
            exact h5
    · obtain ⟨i1, hi1⟩ : ∃ i1, i = i1 + 1 := ⟨i - 1, by omega⟩
      repeat' (first | apply (zs1 ?_) | apply (zs2 ?_) | (apply zg3; refine zs60 ?_) | (apply zg4; refine zs9 ?_) | (apply zg5; refine zs10 ?_) | (apply zg7; (refine zs15 ?_ ?_ <;> intro _ <;> try (exfalso; omega))) | (apply (zs17 ?_ ?_) <;> intro _ <;> try (exfalso; omega)) | apply (zs65 ?_) | apply (zs68 ?_) | apply (zs69 ?_) | apply (zs70 ?_) | (apply zg27; first | refine zs71 ?_ | refine zs72 ?_) | apply (zs73 ?_) | apply (zs76 ?_) | fail)
      apply VL_call _ en64
      (repeat (first | exact args_nil | (apply args_cons; exact rfl)))
      exact rfl
      exact fun _ hw => (rread_spec (lineAt ls i) wordC 5 hlm (by omega) (hw))
      intro v9 K9 hr9
      have hro : rowE i (lineAt ls i) = readE (lineAt ls i) wordC 5 := by
        unfold rowE wordOf manyOf
        rw [if_neg (by omega), if_neg (by omega)]
      cases hrow : readE (lineAt ls i) wordC 5 with
      | none =>
        rw [hrow] at hr9
        obtain ⟨rfl, rfl⟩ := hr9
        have hbr : rbad ls whole i = 3 := by unfold rbad; rw [hro, hrow]; exact if_pos (.inl rfl)
        have hfa := firstF_at (f := rbad ls whole) (r := ls.length) (i0 := 0) (i := i) (fun k _ hk => hall k hk) (Nat.zero_le _) (by omega) (by rw [hbr]; decide)
        repeat' (first | apply (zs1 ?_) | apply (zs2 ?_) | (apply zg1; refine zs3 ?_) | (apply zg6; refine zs11 ?_) | apply (zs13 ?_) | (apply zg20; refine zs48 ?_) | (apply zg22; refine zs51 ?_) | (apply zg25; refine zs55 ?_) | apply (zs65 ?_) | apply (zs68 ?_) | apply (zs69 ?_) | apply (zs70 ?_) | (apply zg27; refine zs71 ?_) | apply (zs74 ?_) | apply (zs77 ?_) | apply (zs78 ?_) | fail)
        apply VQ_retc3 T (H2 := cels none 0 [] :: H); exact rfl; exact rfl; exact rfl; exact rfl; (focus repeat (first | with_reducible exact List.mem_cons_self | with_reducible apply List.mem_cons_of_mem | assumption)); exact rfl; exact rfl; (intro w hw; refine St.nilSlice (H := H) ?_ _ _; revert w; (intro w hw; refine hw.perm ?_; focus repeat (first | with_reducible exact Perm.refl _ | (with_reducible apply perm_take; focus ((repeat (first | with_reducible exact rem_here | with_reducible apply rem_there)); done)) | with_reducible apply Perm.dropK)))
        exact outP_no i 3 (by rw [hpl, hfa, hbr]; rfl) rfl
      | some x =>
        rw [hrow] at hr9
        obtain ⟨Ax, capx, rfl, rfl⟩ := hr9
        obtain ⟨x1, x2, x3, x4, x5, rfl⟩ : ∃ a b c d e, x = [a, b, c, d, e] := by
          have h2 := (read_some hrow).2.1
          match x, h2 with
          | [a, b, c, d, e], _ => exact ⟨a, b, c, d, e, rfl⟩
        by_cases hbd : ls.length = i + 1 ∧ whole = false
        · obtain ⟨hl1, rfl⟩ := hbd
          have hbr : rbad ls false i = 3 := if_pos (.inr ⟨by omega, rfl⟩)
          have hfa := firstF_at (f := rbad ls false) (r := ls.length) (i0 := 0) (i := i) (fun k _ hk => hall k hk) (Nat.zero_le _) (by omega) (by rw [hbr]; decide)
          repeat' (first | apply (zs1 ?_) | apply (zs2 ?_) | (apply zg1; refine zs4 ?_) | (apply zg4; refine zs9 ?_) | (apply zg6; first | refine zs11 ?_ | refine zs12 ?_) | apply (zs13 ?_) | (apply zg7; (refine zs15 ?_ ?_ <;> intro _ <;> try (exfalso; omega))) | (apply zg14; refine zs31 ?_) | (apply zg20; first | refine zs47 ?_ | refine zs48 ?_) | (apply zg22; refine zs51 ?_) | (apply zg25; refine zs55 ?_) | apply (zs65 ?_) | apply (zs68 ?_) | apply (zs69 ?_) | apply (zs70 ?_) | (apply zg27; refine zs71 ?_) | apply (zs74 ?_) | apply (zs77 ?_) | apply (zs78 ?_) | fail)
          apply VQ_retc3 T (H2 := cels none 0 [] :: H); exact rfl; exact rfl; exact rfl; exact rfl; (focus repeat (first | with_reducible exact List.mem_cons_self | with_reducible apply List.mem_cons_of_mem | assumption)); exact rfl; exact rfl; (intro w hw; refine St.nilSlice (H := H) ?_ _ _; revert w; (intro w hw; refine hw.perm ?_; focus repeat (first | with_reducible exact Perm.refl _ | (with_reducible apply perm_take; focus ((repeat (first | with_reducible exact rem_here | with_reducible apply rem_there)); done)) | with_reducible apply Perm.dropK)))
          exact outP_no i 3 (by rw [hpl, hfa, hbr]; rfl) rfl
        have hbr : rbad ls whole i = 0 := by
          unfold rbad
          rw [hro, hrow]
          exact if_neg (by rintro (h | ⟨h1, h2⟩); cases h; exact hbd ⟨by omega, h2⟩)
        have hst : schTo ls (i + 1) = ⟨SC.len, SC.off, SC.cells ++ [(x1, x2, x3, x4, x5)]⟩ := by
          show stepS i (schTo ls i) _ = _
          rw [hro, hrow, hSC]
          unfold stepS
          rw [if_neg (by omega)]
          rfl
        unfold nrs cels
        rw [show ([x1, x2, x3, x4, x5] : List Int).length = 5 from rfl, show ([x1, x2, x3, x4, x5] : List Int).flatMap numF = [.int .i64 x1, .int .i64 x2, .int .i64 x3, .int .i64 x4, .int .i64 x5] from rfl]
        have hwh : ls.length = i + 1 → whole = true := fun h => by cases whole with | true => rfl | false => exact absurd ⟨h, rfl⟩ hbd
        by_cases hl1 : ls.length = i + 1
        · obtain rfl := hwh hl1
          repeat' (first | apply (zs1 ?_) | apply (zs2 ?_) | (apply zg1; refine zs4 ?_) | (apply zg4; refine zs9 ?_) | (apply zg6; first | refine zs11 ?_ | refine zs12 ?_) | apply (zs13 ?_) | (apply zg7; (refine zs15 ?_ ?_ <;> intro _ <;> try (exfalso; omega))) | (apply zg14; refine zs31 ?_) | (apply zg20; refine zs47 ?_) | apply (zs65 ?_) | apply (zs68 ?_) | apply (zs69 ?_) | apply (zs70 ?_) | (apply zg27; refine zs72 ?_) | apply (zs76 ?_) | fail)
          apply VC_heldH [0, 1, 2, 3, 4, 5, 6, 7, 8, 9, 10, 11, 12, 13, 14, 15, 16, 17, 18] [19, 20, 21] [true, true, false]
          kernel_rfl
          kernel_rfl
          (repeat (first | with_reducible exact split_nil | with_reducible apply split_t | with_reducible apply split_f))
          (simp only [pickOps, nthO]; rfl)
          (simp only [pickOps, nthO]; rfl)
          repeat' (first | (apply VL_load_sl T; exact rfl; (focus repeat (first | with_reducible exact List.mem_cons_self | with_reducible apply List.mem_cons_of_mem | assumption)); exact rfl; exact rfl; exact rfl) | apply (zs1 ?_) | apply (zs2 ?_) | (apply zg2; refine zs6 ?_) | (apply zg3; refine zs7 ?_) | (apply zg5; refine zs10 ?_) | (apply zg13; refine zs30 ?_) | (apply zg21; (refine zs49 ?_; intro _ _)) | (apply zg22; refine zs50 ?_) | (apply zg25; refine zs55 ?_) | (apply zg26; (refine zs56 ?_; intro _)) | apply (zs65 ?_) | (apply VL_nilh; (repeat (first | with_reducible exact app_nil | with_reducible apply app_cons | exact app_niln _))) | apply (zs68 ?_) | apply (zs70 ?_) | apply (zs79 ?_) | apply (zs87 ?_) | (apply VQ_heldq; (repeat (first | with_reducible exact pull_nil | (with_reducible apply pull_cons; (repeat (first | with_reducible exact rem_here | with_reducible apply rem_there)))))) | apply (zs93 ?_) | apply (zs94 ?_) | fail)
          rename_i gq A' cap'
          apply hK (i + 1, A', cap')
          · refine ⟨by show i + 1 ≤ ls.length; omega, fun k hk => ?_⟩
            have hk : k < i + 1 := hk
            by_cases e : k = i
            · rw [e]; exact hbr
            · exact hall k (by omega)
          · show ls.length - (i + 1) < ls.length - i
            omega
          · (repeat (first | exact sub_nil _ | (apply sub_cons; first | exact rfl | exact congrArg (fun z : Int => some (Value.int .i64 z)) (by omega))))
          · intro w hw
            have e6 : sl 51 5 A' (SC.cells.length + 1) cap' (SC.cells.flatMap celF ++ #[Value.int .i64 x1, .int .i64 x2, .int .i64 x3, .int .i64 x4, .int .i64 x5].toList) = cels A' cap' (SC.cells ++ [(x1, x2, x3, x4, x5)]) := cels_snocR A' cap' SC.cells (x1, x2, x3, x4, x5)
            rw [e6, len_snoc SC.cells (x1, x2, x3, x4, x5)] at hw
            dsimp only
            rw [hst]
            unfold schP
            dsimp only
            revert w
            (intro w hw; refine hw.perm ?_; focus repeat (first | with_reducible exact Perm.refl _ | (with_reducible apply perm_take; focus ((repeat (first | with_reducible exact rem_here | with_reducible apply rem_there)); done)) | with_reducible apply Perm.dropK))
        · skip
          repeat' (first | apply (zs1 ?_) | apply (zs2 ?_) | (apply zg1; first | refine zs3 ?_ | refine zs4 ?_) | (apply zg4; refine zs9 ?_) | (apply zg6; refine zs12 ?_) | apply (zs13 ?_) | (apply zg7; (refine zs15 ?_ ?_ <;> intro _ <;> try (exfalso; omega))) | (apply zg14; refine zs31 ?_) | (apply zg20; refine zs47 ?_) | apply (zs65 ?_) | apply (zs68 ?_) | apply (zs69 ?_) | apply (zs70 ?_) | (apply zg27; refine zs72 ?_) | apply (zs76 ?_) | fail)
          apply VC_heldH [0, 1, 2, 3, 4, 5, 6, 7, 8, 9, 10, 11, 12, 13, 14, 15, 16, 17, 18] [19, 20, 21] [true, true, false]
          kernel_rfl
          kernel_rfl
          (repeat (first | with_reducible exact split_nil | with_reducible apply split_t | with_reducible apply split_f))
          (simp only [pickOps, nthO]; rfl)
          (simp only [pickOps, nthO]; rfl)
          repeat' (first | (apply VL_load_sl T; exact rfl; (focus repeat (first | with_reducible exact List.mem_cons_self | with_reducible apply List.mem_cons_of_mem | assumption)); exact rfl; exact rfl; exact rfl) | apply (zs1 ?_) | apply (zs2 ?_) | (apply zg2; refine zs6 ?_) | (apply zg3; refine zs7 ?_) | (apply zg5; refine zs10 ?_) | (apply zg13; refine zs30 ?_) | (apply zg21; (refine zs49 ?_; intro _ _)) | (apply zg22; refine zs50 ?_) | (apply zg25; refine zs55 ?_) | (apply zg26; (refine zs56 ?_; intro _)) | apply (zs65 ?_) | (apply VL_nilh; (repeat (first | with_reducible exact app_nil | with_reducible apply app_cons | exact app_niln _))) | apply (zs68 ?_) | apply (zs70 ?_) | apply (zs79 ?_) | apply (zs87 ?_) | (apply VQ_heldq; (repeat (first | with_reducible exact pull_nil | (with_reducible apply pull_cons; (repeat (first | with_reducible exact rem_here | with_reducible apply rem_there)))))) | apply (zs93 ?_) | apply (zs94 ?_) | fail)
          rename_i gq A' cap'
          apply hK (i + 1, A', cap')
          · refine ⟨by show i + 1 ≤ ls.length; omega, fun k hk => ?_⟩
            have hk : k < i + 1 := hk
            by_cases e : k = i
            · rw [e]; exact hbr
            · exact hall k (by omega)
          · show ls.length - (i + 1) < ls.length - i
            omega
          · (repeat (first | exact sub_nil _ | (apply sub_cons; first | exact rfl | exact congrArg (fun z : Int => some (Value.int .i64 z)) (by omega))))
          · intro w hw
            have e6 : sl 51 5 A' (SC.cells.length + 1) cap' (SC.cells.flatMap celF ++ #[Value.int .i64 x1, .int .i64 x2, .int .i64 x3, .int .i64 x4, .int .i64 x5].toList) = cels A' cap' (SC.cells ++ [(x1, x2, x3, x4, x5)]) := cels_snocR A' cap' SC.cells (x1, x2, x3, x4, x5)
            rw [e6, len_snoc SC.cells (x1, x2, x3, x4, x5)] at hw
            dsimp only
            rw [hst]
            unfold schP
            dsimp only
            revert w
            (intro w hw; refine hw.perm ?_; focus repeat (first | with_reducible exact Perm.refl _ | (with_reducible apply perm_take; focus ((repeat (first | with_reducible exact rem_here | with_reducible apply rem_there)); done)) | with_reducible apply Perm.dropK))
  · obtain rfl : i = ls.length := by omega
    have hz : firstF (rbad ls whole) ls.length 0 = (-1, 0) := firstF_no fun k _ hk => hall k (by omega)
    rw [hpl, hz, if_neg (by simp), hSC]
    have hrc : ∀ X, Rd B w0 (blk gs (.cells #[.int .i64 SC.len, .int .i64 SC.off, .slice A SC.cells.length cap] 30 (0, 0)) :: cels A cap SC.cells :: X) A (SC.cells.flatMap celF) := fun X => Rd.cels (cap := cap) (.tail _ (.head _))
    obtain ⟨SM, hSM⟩ : ∃ SM : SchM, SM = ⟨SC.len, SC.off, A, cap, SC.cells⟩ := ⟨_, rfl⟩
    have hss : SM.sch = SC := by rw [hSM]; rfl
    have hfc := fun {H' : List HP} {w : World} (hr : Rd B w0 H' SM.A (SM.cells.flatMap celF)) (hw : St B w0 H' w) => rformed_spec SM hr (by rw [hSM]; show SC.cells.length ≤ _; omega) hw
    rw [hss, hSM] at hfc
    cases hf : formE SC with
    | false =>
      rw [hf] at hfc
      repeat' (first | ((first | apply VL_callt en58 | apply VL_callq en58); (repeat (first | exact args_nil | (apply args_cons; exact rfl))); exact rfl; exact fun _ hw => (hfc (hrc _) hw)) | apply (zs1 ?_) | apply (zs2 ?_) | (apply zg3; refine zs8 ?_) | (apply zg4; refine zs9 ?_) | (apply (zs17 ?_ ?_) <;> intro _ <;> try (exfalso; omega)) | (apply zg20; refine zs48 ?_) | (apply zg22; refine zs51 ?_) | (apply zg25; refine zs55 ?_) | apply (zs65 ?_) | apply (zs68 ?_) | apply (zs69 ?_) | apply (zs70 ?_) | (apply zg27; first | refine zs71 ?_ | refine zs72 ?_) | apply (zs74 ?_) | apply (zs75 ?_) | apply (zs77 ?_) | apply (zs80 ?_) | apply (zs81 ?_) | fail)
      apply VQ_retc3 T (H2 := cels none 0 [] :: H); exact rfl; exact rfl; exact rfl; exact rfl; (focus repeat (first | with_reducible exact List.mem_cons_self | with_reducible apply List.mem_cons_of_mem | assumption)); exact rfl; exact rfl; (intro w hw; refine St.nilSlice (H := H) ?_ _ _; revert w; (intro w hw; refine hw.perm ?_; focus repeat (first | with_reducible exact Perm.refl _ | (with_reducible apply perm_take; focus ((repeat (first | with_reducible exact rem_here | with_reducible apply rem_there)); done)) | with_reducible apply Perm.dropK)))
      exact outP_no (-1) 1 (by rw [if_pos rfl]) rfl
    | true =>
      rw [hf] at hfc
      repeat' (first | ((first | apply VL_callt en58 | apply VL_callq en58); (repeat (first | exact args_nil | (apply args_cons; exact rfl))); exact rfl; exact fun _ hw => (hfc (hrc _) hw)) | apply (zs1 ?_) | apply (zs2 ?_) | (apply zg3; refine zs8 ?_) | (apply zg4; refine zs9 ?_) | (apply (zs17 ?_ ?_) <;> intro _ <;> try (exfalso; omega)) | (apply zg20; refine zs47 ?_) | (apply zg22; refine zs51 ?_) | apply (zs65 ?_) | apply (zs68 ?_) | apply (zs69 ?_) | apply (zs70 ?_) | (apply zg27; refine zs72 ?_) | apply (zs74 ?_) | apply (zs75 ?_) | apply (zs76 ?_) | apply (zs80 ?_) | apply (zs81 ?_) | fail)
      apply VQ_retc3 T (H2 := cels A cap SC.cells :: H); exact rfl; exact rfl; exact rfl; exact rfl; (focus repeat (first | with_reducible exact List.mem_cons_self | with_reducible apply List.mem_cons_of_mem | assumption)); exact rfl; exact rfl; (intro w hw; refine hw.perm ?_; focus repeat (first | with_reducible exact Perm.refl _ | (with_reducible apply perm_take; focus ((repeat (first | with_reducible exact rem_here | with_reducible apply rem_there)); done)) | with_reducible apply Perm.dropK))
      exact ⟨A, cap, rfl, rfl⟩
end Go.Proofs.YtnkpfpgmbpnbgaaGreatDoor

/- Walks: the law ScheduleTexts. -/
namespace Go.Proofs.YtnkpfpgmbpnbgaaGreatDoor
open Go.RowKit Go.Eng Go.Nw

theorem parseE_len (text : List UInt8) : (parseE text).1.cells.length ≤ text.length + 1 := by
  have hc := cut_count (c := 10) text
  unfold parseE parseL
  split
  · exact Nat.zero_le _
  · split
    · exact Nat.zero_le _
    · split
      · exact Nat.zero_le _
      · have := schTo_len (cutC 10 text) ((cutC 10 text).length - 1)
        show (schTo (cutC 10 text) ((cutC 10 text).length - 1)).cells.length ≤ _
        omega
set_option maxRecDepth 10000 in
set_option maxHeartbeats 1000000 in
theorem law_texts (s : SchM) (text : List UInt8) {B : Nat} {w0 : World} {H : List HP} {w : World} (ht : TabsB B w0) (hr : Rd B w0 H s.A (s.cells.flatMap celF)) (hw : St B w0 H w) :
    Calls Tryz.prog 4 [s.val, strV text].toArray w (Post B w0 fun v K => v = .bool true ∧ K = H) := by
  have hs : (⟨text.toArray⟩ : ByteArray).size = text.length := by simp [ByteArray.size]
  refine Calls_of_VC Tryz.func4 Tryz.ntmps4 rfl rfl hw ?_
  cases hfw : fewS s.sch with
  | false =>
    repeat' (first | ((first | apply VL_callt en11 | apply VL_callq en11); (repeat (first | exact args_nil | (apply args_cons; exact rfl))); exact rfl; exact fun _ hw => (wake_spec ht hw)) | ((first | apply VL_callt en13 | apply VL_callq en13); (repeat (first | exact args_nil | (apply args_cons; exact rfl))); exact rfl; exact fun _ hw => (calls_val (congrArg Value.bool hfw) (fun _ hw => rfew_spec s hw) hw)) | apply (zs1 ?_) | apply (zs2 ?_) | (apply zg1; refine zs3 ?_) | (apply zg3; refine zs8 ?_) | (apply zg6; refine zs11 ?_) | (apply zg20; first | refine zs47 ?_ | refine zs48 ?_) | (apply zg23; (refine zs52 ?_; intro _)) | apply (zs65 ?_) | apply (zs68 ?_) | apply (zs69 ?_) | apply (zs70 ?_) | (apply zg27; first | refine zs71 ?_ | refine zs72 ?_) | apply (zs74 ?_) | apply (zs76 ?_) | apply (zs77 ?_) | fail)
    apply VQ_st H
    · (intro w hw; refine hw.perm ?_; focus repeat (first | with_reducible exact Perm.refl _ | (with_reducible apply perm_take; focus ((repeat (first | with_reducible exact rem_here | with_reducible apply rem_there)); done)) | with_reducible apply Perm.dropK))
    apply VQ_ret1; exact rfl; exact rfl; exact ⟨rfl, rfl⟩
  | true =>
  have hg : s.cells.length ≤ 60 ∨ s.cells.length = 512 ∨ s.cells.length = 513 := of_decide_eq_true hfw
  by_cases hg2 : 2000 < text.length
  · skip
    repeat' (first | ((first | apply VL_callt en11 | apply VL_callq en11); (repeat (first | exact args_nil | (apply args_cons; exact rfl))); exact rfl; exact fun _ hw => (wake_spec ht hw)) | ((first | apply VL_callt en13 | apply VL_callq en13); (repeat (first | exact args_nil | (apply args_cons; exact rfl))); exact rfl; exact fun _ hw => (calls_val (congrArg Value.bool hfw) (fun _ hw => rfew_spec s hw) hw)) | apply (zs1 ?_) | apply (zs2 ?_) | (apply zg1; refine zs4 ?_) | (apply zg3; refine zs8 ?_) | (apply zg4; refine zs14 ?_) | (apply zg6; refine zs12 ?_) | (apply (zs19 ?_ ?_) <;> intro _ <;> try (exfalso; omega)) | (apply zg20; refine zs47 ?_) | (apply zg23; (refine zs52 ?_; intro _)) | apply (zs65 ?_) | apply (zs68 ?_) | apply (zs69 ?_) | apply (zs70 ?_) | (apply zg27; first | refine zs71 ?_ | refine zs72 ?_) | apply (zs74 ?_) | apply (zs76 ?_) | apply (zs77 ?_) | fail)
    all_goals (
      apply VQ_st H
      · (intro w hw; refine hw.perm ?_; focus repeat (first | with_reducible exact Perm.refl _ | (with_reducible apply perm_take; focus ((repeat (first | with_reducible exact rem_here | with_reducible apply rem_there)); done)) | with_reducible apply Perm.dropK))
      apply VQ_ret1; exact rfl; exact rfl; exact ⟨rfl, rfl⟩)
  have hl : s.cells.length ≤ 1000000000000 := by omega
  have hlt : text.length ≤ 100000 := by omega
  have hlen := parseE_len text
  have hp1 : ∀ {H' : List HP} {w : World}, Rd B w0 H' s.A (s.cells.flatMap celF) → St B w0 H' w → Calls Tryz.prog 16 [s.val].toArray w (Post B w0 fun v K => v = .tuple #[strV (printE s.sch).1, .int .i64 (printE s.sch).2] ∧ K = H') := fun hr hw => print_spec s ht hr hl hw
  have hp2 : ∀ {H' : List HP} {w : World}, Rd B w0 H' s.A (s.cells.flatMap celF) → St B w0 H' w → Calls Tryz.prog 17 [s.val].toArray w (Post B w0 fun v K => v = .tuple #[strV (printE s.sch).1, .int .i64 (printE s.sch).2] ∧ K = H') := fun hr hw => rprint_spec s hr hl hw
  have hq1 : ∀ {H' : List HP} {w : World}, St B w0 H' w → Calls Tryz.prog 18 [strV text].toArray w (Post B w0 (OutP H' (parseE text))) := fun hw => parse_spec text hlt ht hw
  have hq2 : ∀ {H' : List HP} {w : World}, St B w0 H' w → Calls Tryz.prog 19 [strV text].toArray w (Post B w0 (OutP H' (parseE text))) := fun hw => rparse_spec text hlt hw
  obtain ⟨⟨pt, pe⟩, hP⟩ : ∃ R, printE s.sch = R := ⟨_, rfl⟩
  obtain ⟨⟨⟨ul, uo, uc⟩, ui, ue⟩, hR⟩ : ∃ R, parseE text = R := ⟨_, rfl⟩
  rw [hR] at hlen
  rw [hP] at hp1 hp2
  unfold OutP at hq1 hq2
  rw [hR] at hq1 hq2
  dsimp only at hp1 hp2 hq1 hq2 hlen
  repeat' (first | ((first | apply VL_callt en11 | apply VL_callq en11); (repeat (first | exact args_nil | (apply args_cons; exact rfl))); exact rfl; exact fun _ hw => (wake_spec ht hw)) | ((first | apply VL_callt en13 | apply VL_callq en13); (repeat (first | exact args_nil | (apply args_cons; exact rfl))); exact rfl; exact fun _ hw => (calls_val (congrArg Value.bool hfw) (fun _ hw => rfew_spec s hw) hw)) | apply (zs1 ?_) | apply (zs2 ?_) | (apply zg1; refine zs4 ?_) | (apply zg3; refine zs8 ?_) | (apply zg4; refine zs14 ?_) | (apply zg6; refine zs12 ?_) | (apply (zs19 ?_ ?_) <;> intro _ <;> try (exfalso; omega)) | (apply zg20; refine zs47 ?_) | (apply zg23; (refine zs52 ?_; intro _)) | apply (zs65 ?_) | apply (zs68 ?_) | apply (zs69 ?_) | apply (zs70 ?_) | (apply zg27; refine zs72 ?_) | apply (zs76 ?_) | fail)
  first | apply VL_callt en16 | apply VL_callq en16
  (repeat (first | exact args_nil | (apply args_cons; exact rfl)))
  exact rfl
  exact fun _ hw => (hp1 hr.cons hw)
  repeat' (first | apply (zs1 ?_) | apply (zs2 ?_) | (apply zg3; refine zs8 ?_) | apply (zs13 ?_) | apply (zs65 ?_) | apply (zs68 ?_) | apply (zs69 ?_) | apply (zs70 ?_) | fail)
  first | apply VL_callt en17 | apply VL_callq en17
  (repeat (first | exact args_nil | (apply args_cons; exact rfl)))
  exact rfl
  exact fun _ hw => (hp2 hr.cons hw)
  repeat' (first | apply (zs1 ?_) | apply (zs2 ?_) | apply (zs13 ?_) | apply (zs65 ?_) | apply (zs68 ?_) | apply (zs69 ?_) | apply (zs70 ?_) | fail)
  apply VL_call _ en18
  (repeat (first | exact args_nil | (apply args_cons; exact rfl)))
  exact rfl
  exact fun _ hw => (hq1 (hw))
  rintro _ _ ⟨A1, cap1, rfl, rfl⟩
  repeat' (first | apply (zs1 ?_) | apply (zs2 ?_) | apply (zs13 ?_) | (apply zg22; refine zs51 ?_) | (apply zg24; (refine zs54 ?_; intro _)) | apply (zs65 ?_) | apply (zs68 ?_) | apply (zs69 ?_) | apply (zs70 ?_) | fail)
  apply VL_call _ en19
  (repeat (first | exact args_nil | (apply args_cons; exact rfl)))
  exact rfl
  exact fun _ hw => (hq2 (hw))
  rintro _ _ ⟨A2, cap2, rfl, rfl⟩
  have hsm : ∀ {H' : List HP} {w : World}, Rd B w0 H' A1 (uc.flatMap celF) → Rd B w0 H' A2 (uc.flatMap celF) → St B w0 H' w → Calls Tryz.prog 20 [.agg #[.int .i64 ul, .int .i64 uo, .slice A1 uc.length cap1], .agg #[.int .i64 ul, .int .i64 uo, .slice A2 uc.length cap2]].toArray w (Post B w0 fun v K => v = .bool true ∧ K = H') := fun hr hr2 hw => by
    have h := rsame_spec ⟨ul, uo, A1, cap1, uc⟩ ⟨ul, uo, A2, cap2, uc⟩ (by show uc.length ≤ _; omega) (by show uc.length ≤ _; omega) hr hr2 hw
    rw [decide_eq_true ⟨rfl, rfl, rfl⟩] at h
    exact h
  repeat' (first | (apply VL_seql; exact rfl; exact rfl; exact rfl; all_goals (intro hE; try (exact absurd rfl hE))) | ((first | apply VL_callt en20 | apply VL_callq en20); (repeat (first | exact args_nil | (apply args_cons; exact rfl))); exact rfl; exact fun _ hw => (hsm (Rd.cels (cap := cap1) (by (focus repeat (first | with_reducible exact List.mem_cons_self | with_reducible apply List.mem_cons_of_mem | assumption)))) (Rd.cels (cap := cap2) (by (focus repeat (first | with_reducible exact List.mem_cons_self | with_reducible apply List.mem_cons_of_mem | assumption)))) hw)) | apply (zs1 ?_) | apply (zs2 ?_) | (apply zg1; refine zs4 ?_) | (apply zg3; refine zs8 ?_) | (apply zg6; refine zs11 ?_) | apply (zs13 ?_) | (apply zg7; (refine zs15 ?_ ?_ <;> intro _ <;> try (exfalso; omega))) | (apply zg22; refine zs51 ?_) | (apply zg24; (refine zs54 ?_; intro _)) | apply (zs65 ?_) | apply (zs68 ?_) | apply (zs69 ?_) | apply (zs70 ?_) | apply (zs74 ?_) | fail)
  apply VQ_st H
  · (intro w hw; refine hw.perm ?_; focus repeat (first | with_reducible exact Perm.refl _ | (with_reducible apply perm_take; focus ((repeat (first | with_reducible exact rem_here | with_reducible apply rem_there)); done)) | with_reducible apply Perm.dropK))
  apply VQ_ret1; exact rfl; exact rfl; exact ⟨rfl, rfl⟩
end Go.Proofs.YtnkpfpgmbpnbgaaGreatDoor

/- From a walk to a row: a law that returns true and leaves memory below as it was. -/
namespace Go.Proofs.YtnkpfpgmbpnbgaaGreatDoor
open Go.ChangeShapes Go.WideShapes Go.ChangeAt Go.RowKit

section
variable {H : Type} {enc : TypeId × Value → H} {P : Program}

theorem trodAll_keep (hl : laidOutB P = true) {W W' : World} {sp : Nat → Bool} : ∀ {ts : List TypeId} {vs : List Value} {ds : List (DataW H)} {ps : List MemPlace}, (ts.all fun t => P.readableRec t && decide (t < P.types.size)) = true →
    DataW.TrodAll enc P W 0 (fun _ => true) true ts vs ds ps → (∀ p ∈ ps, W.sameAt W' p) → (∀ p ∈ ps, sp p.block = true) → DataW.TrodAll enc P W' 0 sp true ts vs ds ps
  | [], [], [], _, _, h, _, _ => h
  | [], [], _ :: _, _, _, h, _, _ => h.elim
  | [], _ :: _, _, _, _, h, _, _ => h.elim
  | _ :: _, [], _, _, _, h, _, _ => h.elim
  | _ :: _, _ :: _, [], _, _, h, _, _ => h.elim
  | t :: ts, v :: vs, d :: ds, ps, hr, h, hs, hp => by
    obtain ⟨p, q, h1, h2, rfl⟩ := h
    simp only [List.all_cons, Bool.and_eq_true, decide_eq_true_eq] at hr
    exact ⟨p, q, WideElems.Trod_stays hl hr.1.1 hr.1.2 h1 (fun x hx => hs x (by simp [hx])) (fun x hx => hp x (by simp [hx])), trodAll_keep hl hr.2 h2 (fun x hx => hs x (by simp [hx])) (fun x hx => hp x (by simp [hx])), rfl⟩

/-- The call returned true, and below the heap's old end nothing is changed: what the row asks. -/
theorem post_true {f : Func} {s : ChangeSpec} {apart fresh handsOn again : Bool} {W W' : World} {args : Array Value} {ds gs : List (DataW H)} {before : List MemPlace} {tb : TypeId} (hl : laidOutB P = true)
    (hrd : (f.params.toList.all fun t => P.readableRec t && decide (t < P.types.size)) = true) (hv : s.vars = []) (hrt : f.resultTypes = #[tb]) (htb : P.underlying tb = some .bool)
    (hW : DataW.Whole enc P f.params.toList s.vars apart W args.toList ds gs before) (hb : Below W.heap.size W W')
    (hres : (s.fn H (ds ++ gs)).results = [.lit (.bool true)]) (hargs : (s.fn H (ds ++ gs)).args = ds) (hvars : (s.fn H (ds ++ gs)).vars = []) :
    s.post enc P f apart fresh handsOn again W args (.bool true) W' := by
  have hlt : ∀ p ∈ before, p.block < W.heap.size := fun p hp => hW.lt p hp
  have hW0 := hW
  obtain ⟨p, q, hA, hV, rfl, hz, hn⟩ := hW
  rw [hv] at hV
  have hq : gs = [] ∧ q = [] := by
    cases gs with
    | nil => exact ⟨rfl, hV⟩
    | cons _ _ => exact hV.elim
  obtain ⟨rfl, rfl⟩ := hq
  have hkeep : ∀ sp : Nat → Bool, (∀ x ∈ p ++ [], sp x.block = true) → DataW.TrodAll enc P W' 0 sp true f.params.toList args.toList ds p := fun sp hsp =>
    trodAll_keep hl hrd hA (fun x hx => hb.same (hlt x (by simpa using hx))) (fun x hx => hsp x (by simpa using hx))
  have hR : ∀ (b : Nat) (sp : Nat → Bool) (hd : Bool), DataW.TrodAll enc P W' b sp hd f.resultTypes.toList ((Value.bool true).resultList f.resultTypes.size) (s.fn H (ds ++ [])).results [] := by
    intro b sp hd
    rw [hres, hrt]
    exact trodAll_mk1 (shut_bool htb true)
  have hok := ok_one (P := P) (W' := W') (f := f) (v := .bool true) hrt rfl (okWide_bool_mk htb true)
  have hold : ∀ x ∈ p ++ [], (fun b => decide (b < W.heap.size)) x.block = true := fun x hx => by simpa using hlt x hx
  refine ⟨ds, [], p ++ [], [], p, [], hW0, hR _ _ _, by rw [hargs]; exact hkeep _ hold, by rw [hvars, hv]; rfl, World.keptBut_mono (fun x hx => ⟨hx, Or.inr (by simpa using hx)⟩) (hb.frame (· ∈ p ++ [])), fun _ => ?_⟩
  refine ⟨hok, _, _, ([] ++ p) ++ [], ⟨[] ++ p, [], trodAll_append (hkeep _ (fun _ _ => rfl)) (hR _ _ _), (show DataW.TrodVars enc P W' (fun _ => true) s.vars [] [] by rw [hv]; rfl), rfl, ?_, ?_⟩, ?_⟩
  · intro b off hp
    have hin : MemPlace.cell b off ∈ p ++ [] := by simpa using hp
    rw [hb.frozen (hlt _ hin)]
    exact hz b off hin
  · intro ha
    simpa using hn ha
  · intro x hx _
    simpa using hx
end
end Go.Proofs.YtnkpfpgmbpnbgaaGreatDoor
