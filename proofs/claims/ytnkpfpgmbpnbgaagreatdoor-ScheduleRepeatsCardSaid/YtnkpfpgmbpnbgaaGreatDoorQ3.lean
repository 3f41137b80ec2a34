/- The law ScheduleRepeats returns true at every input, and its arguments read behind the call as they read before: the statement Rows.ScheduleRepeatsCardSaid. Condition: the listed package-level variables start as the program's text lays them, to which the card ties them. -/
import Derived.Lib.Builder
import Derived.Lib.AtoiAllCases
import Derived.ProofKit
import Derived.Below
import Derived.ChangeSame
import Derived.Carry
import Derived.Test.YtnkpfpgmbpnbgaaGreatDoorRows
import Derived.Lib.LaidU8
import Derived.LaidMore
import Derived.Deep.DeepLaidRun
import Derived.Stop.Joined
import Derived.Deep.Slices
import Derived.Lib.SmallJoins
import Derived.OpenShut
import Derived.Test.YtnkpfpgmbpnbgaaGreatDoorCards
import Derived.Test.YtnkpfpgmbpnbgaaGreatDoorTie
import Derived.SevenTiedAt
import Derived.Test.YtnkpfpgmbpnbgaaGreatDoorQ2

/- Walks: At. -/
namespace Go.Proofs.YtnkpfpgmbpnbgaaGreatDoor
open Go.RowKit Go.Eng Go.Nw

/-- The cells of a slot that an iterator handed over so far. -/
def celsIn (s : Sch) (slot : Int) (k : Nat) : List Cel := ((inI s slot s.cells.length).take k).map (celAt s)
theorem celsIn_all (s : Sch) (slot : Int) : celsIn s slot (inXs s slot).length = s.cells.filter fun c => decide (c.1 = slot) := by
  have e : s.cells = (List.range s.cells.length).map (celAt s) := by
    apply List.ext_getElem?
    intro i
    by_cases h : i < s.cells.length
    · rw [celAt_some h, List.getElem?_map, List.getElem?_range h]; rfl
    · rw [List.getElem?_eq_none (by omega), List.getElem?_eq_none (by simpa using h)]
  unfold celsIn inXs
  rw [List.length_map, List.take_length]
  conv => rhs; rw [e]
  rw [List.filter_map]
  rfl
theorem celsIn_step {s : Sch} {slot : Int} {k i : Nat} (h : (inI s slot s.cells.length)[k]? = some i) : celsIn s slot (k + 1) = celsIn s slot k ++ [celAt s i] := by
  unfold celsIn
  rw [List.take_add_one, h, List.map_append]; rfl
theorem inXs_get {s : Sch} {slot : Int} {k : Nat} {args : List Value} (h : (inXs s slot)[k]? = some args) : ∃ i, (inI s slot s.cells.length)[k]? = some i ∧ i < s.cells.length ∧ args = [.int .i64 (i : Int)] := by
  unfold inXs at h
  rw [List.getElem?_map] at h
  cases hi : (inI s slot s.cells.length)[k]? with
  | none => rw [hi] at h; cases h
  | some i =>
    rw [hi] at h
    cases h
    exact ⟨i, rfl, (inI_mem.1 (List.mem_of_getElem? hi)).1, rfl⟩
theorem celsIn_le {s : Sch} {slot : Int} {k : Nat} : (celsIn s slot k).length ≤ s.cells.length := by
  unfold celsIn inI
  rw [List.length_map, List.length_take]
  have := List.length_filter_le (fun i => decide ((celAt s i).1 = slot)) (List.range s.cells.length)
  rw [List.length_range] at this
  omega
structure AcM where
  A : Option Addr
  cap : Nat
  l : List Cel

set_option maxRecDepth 10000 in
set_option maxHeartbeats 1000000 in
theorem at_spec (s : SchM) (slot : Int) {B : Nat} {w0 : World} {H : List HP} {w : World} (hr : Rd B w0 H s.A (s.cells.flatMap celF)) (hl : s.cells.length ≤ 1000000000000) (hw : St B w0 H w) :
    Calls Tryz.prog 23 [s.val, .int .i64 slot].toArray w (Post B w0 fun v K => ∃ A cap, v = .slice A (atE s.sch slot).length cap ∧ K = cels A cap (atE s.sch slot) :: H) := by
  refine Calls_of_VCm Tryz.func23 Tryz.ntmps23 rfl rfl hw ?_
  have e1 : s.sch.cells = s.cells := rfl
  by_cases hf : formE s.sch = true
  rotate_left
  · have hf : formE s.sch = false := by simpa using hf
    repeat' (first | ((first | apply VL_callt en53 | apply VL_callq en53); (repeat (first | exact args_nil | (apply args_cons; exact rfl))); exact rfl; exact fun _ hw => (calls_val (congrArg Value.bool hf) (fun _ hw => form_spec s hr.cons hl hw) hw)) | apply (zs1 ?_) | apply (zs2 ?_) | (apply zg1; refine zs3 ?_) | (apply zg3; refine zs8 ?_) | (apply zg6; refine zs11 ?_) | (apply zg20; refine zs48 ?_) | (apply zg23; (refine zs52 ?_; intro _)) | apply (zs65 ?_) | apply (zs68 ?_) | apply (zs69 ?_) | apply (zs70 ?_) | (apply zg27; refine zs71 ?_) | apply (zs74 ?_) | apply (zs77 ?_) | fail)
    apply VQ_st (cels none 0 [] :: H)
    · exact fun w hw => hw.tail.nilSlice _ _
    apply VQ_m
    apply VQ_ret1; exact rfl; exact rfl
    exact ⟨none, 0, by rw [atE, if_pos (.inl hf)]; rfl, by rw [atE, if_pos (.inl hf)]⟩
  have hfr := form_iff.1 hf
  have hsz : 1 ≤ s.len ∧ s.len ≤ 512 := by
    have := of_decide_eq_true hfr.sized
    exact ⟨this.1, this.2.1⟩
  by_cases h0 : slot < 0
  · skip
    repeat' (first | ((first | apply VL_callt en53 | apply VL_callq en53); (repeat (first | exact args_nil | (apply args_cons; exact rfl))); exact rfl; exact fun _ hw => (calls_val (congrArg Value.bool hf) (fun _ hw => form_spec s hr.cons hl hw) hw)) | apply (zs1 ?_) | apply (zs2 ?_) | (apply zg1; refine zs4 ?_) | (apply zg3; refine zs8 ?_) | (apply zg6; refine zs12 ?_) | (apply (zs17 ?_ ?_) <;> intro _ <;> try (exfalso; omega)) | (apply zg20; refine zs47 ?_) | (apply zg23; (refine zs52 ?_; intro _)) | apply (zs65 ?_) | apply (zs68 ?_) | apply (zs69 ?_) | apply (zs70 ?_) | (apply zg27; refine zs71 ?_) | apply (zs74 ?_) | apply (zs77 ?_) | fail)
    apply VQ_st (cels none 0 [] :: H)
    · exact fun w hw => hw.tail.nilSlice _ _
    apply VQ_m
    apply VQ_ret1; exact rfl; exact rfl
    exact ⟨none, 0, by rw [atE, if_pos (.inr h0)]; rfl, by rw [atE, if_pos (.inr h0)]⟩
  obtain ⟨tz, hto⟩ : ∃ tz, slot % s.len = tz := ⟨_, rfl⟩
  have hat : atE s.sch slot = s.cells.filter fun c => decide (c.1 = tz) := by
    rw [atE, if_neg (by simp [hf, h0]), ← hto, ← Int.tmod_eq_emod_of_nonneg (by omega)]; rfl
  rw [hat]
  repeat' (first | ((first | apply VL_callt en53 | apply VL_callq en53); (repeat (first | exact args_nil | (apply args_cons; exact rfl))); exact rfl; exact fun _ hw => (calls_val (congrArg Value.bool hf) (fun _ hw => form_spec s hr.cons hl hw) hw)) | apply (zs1 ?_) | apply (zs2 ?_) | (apply zg1; refine zs4 ?_) | (apply zg3; refine zs8 ?_) | (apply zg6; refine zs12 ?_) | (apply (zs17 ?_ ?_) <;> intro _ <;> try (exfalso; omega)) | (apply zg20; refine zs47 ?_) | (apply zg23; (refine zs52 ?_; intro _)) | (apply zg24; (refine zs54 ?_; intro _)) | apply (zs65 ?_) | apply (zs68 ?_) | apply (zs69 ?_) | apply (zs70 ?_) | (apply zg27; refine zs72 ?_) | apply (zs76 ?_) | fail)
  rename_i gB _ gO
  apply VC_held [0, 1, 2, 3, 4] [5] [true, true]
  kernel_rfl
  kernel_rfl
  (repeat (first | with_reducible exact split_nil | with_reducible apply split_t | with_reducible apply split_f))
  (simp only [pickOps, nthO]; rfl)
  (simp only [pickOps, nthO]; rfl)
  repeat' (first | apply (zs1 ?_) | (apply zg2; refine zs6 ?_) | (apply zg3; first | refine zs7 ?_ | refine zs8 ?_) | (apply zg17; refine zs37 ?_) | (apply VL_nilh; (repeat (first | with_reducible exact app_nil | with_reducible apply app_cons | exact app_niln _))) | apply (zs93 ?_) | fail)
  apply VL_call _ en65
  (repeat (first | exact args_nil | (apply args_cons; exact rfl)))
  exact rfl
  exact fun _ hw => (inS_spec s _ (hw))
  rintro _ _ ⟨gs, gt, rfl, rfl⟩
  rw [hto]
  repeat' (first | apply (zs65 ?_) | apply (zs68 ?_) | apply (zs73 ?_) | apply (zs94 ?_) | fail)
  have hr4 : Rd B w0 (intB gt tz :: schB gs s :: schB gB s :: H) s.A (s.cells.flatMap celF) := hr.cons.cons.cons
  refine VC_nilSlice 51 5 ?_
  refine VC_rangeFunc (gf := 102) (lb := [.pointer (some ⟨gs, 0, none⟩), .pointer (some ⟨gt, 0, none⟩)]) (xs := inXs s.sch tz) (intB gt tz :: schB gs s :: schB gB s :: H) (fun x : AcM => [blk gO (.cells #[.slice x.A x.l.length x.cap] 28 (0, 0)), cels x.A x.cap x.l]) (fun i x => x.l = celsIn s.sch tz i) (fun _ _ => False) ⟨none, 0, []⟩ rfl en102 (in1_iter s tz gs gt hr4 hl (.tail _ (.head _)) (.head _)) rfl ?_ (by kernel_rfl) (by kernel_rfl) ?_ rfl ?_ ?_ (fun _ _ _ h => h.elim)
  · intro args h
    obtain ⟨k, hk⟩ := List.mem_iff_getElem?.1 h
    obtain ⟨i, _, _, rfl⟩ := inXs_get hk
    rfl
  · unfold schB intB cels
    simp only [List.cons_append, List.nil_append, List.length_nil, List.flatMap_nil]
    exact fun w hw => hw.perm (.trans (.cons _ (.cons _ (.swap _ _ _))) (.trans (.cons _ (.swap _ _ _)) (.swap _ _ _)))
  · rintro l k args R ⟨A, cap, xs⟩ hk hI
    obtain ⟨i, hi, hlt, rfl⟩ := inXs_get hk
    have hlt2 : i < s.cells.length := hlt
    dsimp only at hI ⊢
    dsimp only [putEnv, List.cons_append, List.nil_append]
    have hget : s.cells[i]? = some (celAt s.sch i) := celAt_some (s := s.sch) hlt
    repeat' (first | apply (zs2 ?_) | apply (zs65 ?_) | apply (zs70 ?_) | fail)
    apply VQ_assign rem_here
    intro R'
    unfold cels intB schB
    refine VC_st (R' :: blk gO (.cells #[.slice A xs.length cap] 28 (0, 0)) :: sl 51 5 A xs.length cap (xs.flatMap celF) :: blk gt (.cells #[.int .i64 tz] 3 (0, 0)) :: blk gs (.cells #[.int .i64 s.len, .int .i64 s.off, .slice s.A s.cells.length s.cap] 30 (0, 0)) :: blk gB (.cells #[.int .i64 s.len, .int .i64 s.off, .slice s.A s.cells.length s.cap] 30 (0, 0)) :: [many H]) (fun w hw => hw.perm (.cons _ (.cons _ (.cons _ (.cons _ (.cons _ (.cons _ (.closeT _)))))))) ?_
    have hrt : Rd B w0 [many H] s.A (s.cells.flatMap celF) := hr.tail
    repeat' (first | apply (zs73 ?_) | fail)
    apply VC_heldH [0, 1, 2, 3, 4, 5, 6] [7, 8] [false, true, false, false, false, true, true]
    kernel_rfl
    kernel_rfl
    (repeat (first | with_reducible exact split_nil | with_reducible apply split_t | with_reducible apply split_f))
    (simp only [pickOps, nthO]; rfl)
    (simp only [pickOps, nthO]; rfl)
    have hxl : xs.length ≤ 512 := by
      have h1 := celsIn_le (s := s.sch) (slot := tz) (k := k)
      rw [← hI] at h1
      exact Nat.le_trans h1 hfr.few
    repeat' (first | apply (zs1 ?_) | (apply zg2; refine zs6 ?_) | (apply zg3; first | refine zs7 ?_ | refine zs61 ?_) | (apply zg5; refine zs57 ?_) | (apply zg21; (refine zs49 ?_; intro _ _)) | (apply zg22; refine zs50 ?_) | (apply zg26; (refine zs56 ?_; intro _)) | apply (zs65 ?_) | (apply VL_nilh; (repeat (first | with_reducible exact app_nil | with_reducible apply app_cons | exact app_niln _))) | apply (zs79 ?_) | apply (zs87 ?_) | (apply VQ_heldq; (repeat (first | with_reducible exact pull_nil | (with_reducible apply pull_cons; (repeat (first | with_reducible exact rem_here | with_reducible apply rem_there)))))) | apply (zs93 ?_) | apply (zs94 ?_) | fail)
    rename_i A' cap'
    apply VQ_body (AcM.mk A' cap' (xs ++ [celAt s.sch i]))
    · show xs ++ [celAt s.sch i] = celsIn s.sch tz (k + 1)
      rw [celsIn_step hi, hI]
    · intro w hw
      rw [cels_snocR, len_snoc xs (celAt s.sch i)] at hw
      unfold cels at hw
      have h5 : St B w0 (R' :: blk gO (.cells #[.slice A' (xs ++ [celAt s.sch i]).length cap'] 28 (0, 0)) :: sl 51 5 A' (xs ++ [celAt s.sch i]).length cap' ((xs ++ [celAt s.sch i]).flatMap celF) :: blk gt (.cells #[.int .i64 tz] 3 (0, 0)) :: blk gs (.cells #[.int .i64 s.len, .int .i64 s.off, .slice s.A s.cells.length s.cap] 30 (0, 0)) :: blk gB (.cells #[.int .i64 s.len, .int .i64 s.off, .slice s.A s.cells.length s.cap] 30 (0, 0)) :: [many H]) w := by
        revert w
        (intro w hw; refine hw.perm ?_; focus repeat (first | with_reducible exact Perm.refl _ | (with_reducible apply perm_take; focus ((repeat (first | with_reducible exact rem_here | with_reducible apply rem_there)); done)) | with_reducible apply Perm.dropK))
      exact h5.perm (.cons _ (.cons _ (.cons _ (.cons _ (.cons _ (.cons _ (.openT _)))))))
  · rintro D ⟨A, cap, xs⟩ hI
    dsimp only at hI ⊢
    rw [celsIn_all, e1] at hI
    subst hI
    dsimp only [List.cons_append, List.nil_append]
    unfold cels intB schB
    repeat' (first | apply (zs2 ?_) | (apply zg3; refine zs7 ?_) | apply (zs65 ?_) | apply (zs68 ?_) | apply (zs69 ?_) | apply (zs70 ?_) | apply (zs74 ?_) | apply (zs79 ?_) | fail)
    apply VQ_mark rem_here
    apply VQ_m
    apply VQ_st (cels A cap (s.cells.filter fun c => decide (c.1 = tz)) :: H)
    · unfold cels
      (intro w hw; refine hw.perm ?_; focus repeat (first | with_reducible exact Perm.refl _ | (with_reducible apply perm_take; focus ((repeat (first | with_reducible exact rem_here | with_reducible apply rem_there)); done)) | with_reducible apply Perm.dropK))
    apply VQ_ret1; exact rfl; exact rfl
    exact ⟨A, cap, rfl, rfl⟩
end Go.Proofs.YtnkpfpgmbpnbgaaGreatDoor

/- Walks: strings.Builder; a line of a text; Print. -/
namespace Go.Proofs.YtnkpfpgmbpnbgaaGreatDoor
open Go.RowKit Go.Eng Go.Nw

section
variable {m : Eng.Mode} {n : Shp} {B d : Nat} {w0 : World} {ops : Array Oper} {Q : Exit → Act → World → Prop} {rest : List Oper} {env : Env} {H : List HP} {ty : TypeId} {pos : String} {after : Array Edge} {x y : Operand}
theorem VL_cat (a b : List UInt8) (hx : evo env x = some (strV a)) (hy : evo env y = some (strV b)) (hn : Nat.ble (d + 1) n.k = true) (hb : a.length + b.length ≤ 1000000) (h : VL Tryz.prog m n B w0 ops Q rest ((d, strV (a ++ b)) :: env) H) :
    VL Tryz.prog m n B w0 ops Q (⟨some d, .binOp .add 9 x y 9, ty, pos, after, none⟩ :: rest) env H := by
  have hs : ∀ l : List UInt8, (⟨l.toArray⟩ : ByteArray).size = l.length := fun l => by simp [ByteArray.size]
  refine VL_scat hx hy hn (by rw [hs, hs]; omega) ?_
  have e : (⟨a.toArray⟩ : ByteArray) ++ ⟨b.toArray⟩ = ⟨(a ++ b).toArray⟩ := by
    apply ByteArray.ext
    simp
  rw [e]
  exact h
theorem VL_toUns {g : Nat} {cs : Array Value} {fr : Nat × Nat} (hx : evo env x = some (.pointer (some ⟨g, 0, none⟩))) (hm : blk g (.cells cs 83 fr) ∈ H) (hc : cs.size = 2) (hn : Nat.ble (d + 1) n.k = true)
    (h : VL Tryz.prog none n B w0 ops Q rest ((d, .pointer (some ⟨g, 0, none⟩)) :: env) H) : VL Tryz.prog none n B w0 ops Q (⟨some d, .convert 80 138 x, ty, pos, after, none⟩ :: rest) env H := by
  refine VL_opE (fun v K' => v = .pointer (some ⟨g, 0, none⟩) ∧ K' = H) rfl rfl hn (fun a w ha hw => ?_) (by rintro _ _ ⟨rfl, rfl⟩; exact h)
  have hb := (hw.blk hm).1
  obtain ⟨j, hj, hjs⟩ := Option.map_eq_some_iff.1 (show (Tryz.prog.info? 83).map (·.size) = some 2 by kernel_rfl)
  have hr := Lib.run_to_unsafe (P := Tryz.prog) w ⟨g, 0, none⟩ Tryz.underlying80 Tryz.underlying138 hj (by rw [hjs]; decide) (show w.shape? g = some (83, 2) by simp [World.shape?, hb, hc]) (Nat.zero_lt_succ 1)
  exact ⟨_, H, w, by simp [execOp, ha.eval hx, hr], hw, rfl, rfl⟩
theorem VL_ofUns {g : Nat} {cs : Array Value} {fr : Nat × Nat} (hx : evo env x = some (.pointer (some ⟨g, 0, none⟩))) (hm : blk g (.cells cs 83 fr) ∈ H) (hc : cs.size = 2) (hn : Nat.ble (d + 1) n.k = true)
    (h : VL Tryz.prog none n B w0 ops Q rest ((d, .pointer (some ⟨g, 0, none⟩)) :: env) H) : VL Tryz.prog none n B w0 ops Q (⟨some d, .convert 138 80 x, ty, pos, after, none⟩ :: rest) env H := by
  refine VL_opE (fun v K' => v = .pointer (some ⟨g, 0, none⟩) ∧ K' = H) rfl rfl hn (fun a w ha hw => ?_) (by rintro _ _ ⟨rfl, rfl⟩; exact h)
  have hb := (hw.blk hm).1
  obtain ⟨j, hj, hjs⟩ := Option.map_eq_some_iff.1 (show (Tryz.prog.info? 83).map (·.size) = some 2 by kernel_rfl)
  have hr := Lib.run_from_unsafe (P := Tryz.prog) w ⟨g, 0, none⟩ Tryz.underlying138 Tryz.underlying80 hj (show w.shape? g = some (83, 2) by simp [World.shape?, hb, hc]) (by kernel_rfl)
  exact ⟨_, H, w, by simp [execOp, ha.eval hx, hr], hw, rfl, rfl⟩
theorem VL_noEsc {v : Value} {tys : Array TypeId} (hx : evo env x = some v) (hn : Nat.ble (d + 1) n.k = true) (h : VL Tryz.prog none n B w0 ops Q rest ((d, v) :: env) H) :
    VL Tryz.prog none n B w0 ops Q (⟨some d, .call ⟨.value (.func 132), #[x], tys⟩, ty, pos, after, none⟩ :: rest) env H := by
  refine VL_opE (fun u K' => u = v ∧ K' = H) rfl rfl hn (fun a w ha hw => ⟨v, H, w, ?_, hw, rfl, rfl⟩) (by rintro _ _ ⟨rfl, rfl⟩; exact h)
  have hr := run_callFunc_extern (P := Tryz.prog) Tryz.func132 (by kernel_rfl) (by kernel_rfl) (by kernel_rfl) (e := Extern.AbiNoEscape.same) (by kernel_rfl) #[v] w
  have he : a.eval (.func 132) = .func (.func 132) #[] #[] := rfl
  simp [execOp, resolve, invoke, ha.eval hx, he, Deferred.ofValue, hr, Lib.run_noEscape, Result.andThen]
theorem VL_pneqs {g : Addr} (hx : evo env x = some (.pointer (some g))) (hy : evo env y = some (.pointer (some g))) (hn : Nat.ble (d + 1) n.k = true) (h : VL Tryz.prog m n B w0 ops Q rest ((d, .bool false) :: env) H) :
    VL Tryz.prog m n B w0 ops Q (⟨some d, .binOp .neq 80 x y 80, ty, pos, after, none⟩ :: rest) env H := by
  obtain ⟨j, hj, hjs⟩ := Option.map_eq_some_iff.1 (show (Tryz.prog.info? 83).map (·.size) = some 2 by kernel_rfl)
  exact VL_bin hx hy hn (fun _ => rfl) (fun w => Lib.run_neq_ptr_same w g Tryz.underlying80 hj) h
end
set_option maxRecDepth 10000 in
theorem copyCheck_spec (b : Nat) (p v : Value) (hp : p = .pointer none ∨ p = .pointer (some ⟨b, 0, none⟩)) {B : Nat} {w0 : World} {H : List HP} {w : World} (hw : St B w0 (blk b (.cells #[p, v] 83 (0, 0)) :: H) w) :
    Calls Tryz.prog 95 [.pointer (some ⟨b, 0, none⟩)].toArray w (Post B w0 fun u K => u = .tuple #[] ∧ K = blk b (.cells #[.pointer (some ⟨b, 0, none⟩), v] 83 (0, 0)) :: H) := by
  refine Calls_of_VC Tryz.func95 Tryz.ntmps95 rfl rfl hw ?_
  rcases hp with rfl | rfl
  · skip
    repeat' (first | (apply VL_peql0; exact rfl; exact rfl; kernel_rfl) | (apply VL_toUns; exact rfl; (focus repeat (first | with_reducible exact List.mem_cons_self | with_reducible apply List.mem_cons_of_mem | assumption)); exact rfl; exact rfl) | (apply VL_ofUns; exact rfl; (focus repeat (first | with_reducible exact List.mem_cons_self | with_reducible apply List.mem_cons_of_mem | assumption)); exact rfl; exact rfl) | (apply VL_noEsc; exact rfl; exact rfl) | (apply VL_pneqs; exact rfl; exact rfl; exact rfl) | apply (zs1 ?_) | apply (zs5 ?_) | (apply zg2; refine zs6 ?_) | (apply zg3; refine zs7 ?_) | (apply zg22; refine zs50 ?_) | apply (zs65 ?_) | apply (zs68 ?_) | apply (zs69 ?_) | apply (zs70 ?_) | (apply zg27; refine zs71 ?_) | fail)
    apply VQ_end0; exact rfl; exact ⟨rfl, rfl⟩
  · skip
    repeat' (first | (apply VL_peql0; exact rfl; exact rfl; kernel_rfl) | (apply VL_pneqs; exact rfl; exact rfl; exact rfl) | apply (zs1 ?_) | apply (zs5 ?_) | (apply zg2; refine zs6 ?_) | (apply zg3; refine zs7 ?_) | apply (zs65 ?_) | apply (zs68 ?_) | apply (zs69 ?_) | apply (zs70 ?_) | (apply zg27; refine zs72 ?_) | apply (zs76 ?_) | fail)
    apply VQ_end0; exact rfl; exact ⟨rfl, rfl⟩
def bdP (b : Nat) (p : Value) (A : Option Addr) (cap : Nat) (l : List UInt8) (H : List HP) : List HP := blk b (.cells #[p, .slice A l.length cap] 83 (0, 0)) :: sl 5 1 A l.length cap (Lib.byteCells l) :: H
set_option maxRecDepth 10000 in
theorem write_spec (b : Nat) (p : Value) (hp : p = .pointer none ∨ p = .pointer (some ⟨b, 0, none⟩)) (A : Option Addr) (cap : Nat) (l s : List UInt8) (hl : l.length + s.length ≤ 1000000) {B : Nat} {w0 : World} {H : List HP} {w : World} (hw : St B w0 (bdP b p A cap l H) w) :
    Calls Tryz.prog 54 [.pointer (some ⟨b, 0, none⟩), strV s].toArray w (Post B w0 fun u K => u = .tuple #[.int .i64 s.length, .nilIface] ∧ ∃ A' cap', K = bdP b (.pointer (some ⟨b, 0, none⟩)) A' cap' (l ++ s) H) := by
  have hs : (⟨s.toArray⟩ : ByteArray).size = s.length := by simp [ByteArray.size]
  refine Calls_of_VC Tryz.func54 Tryz.ntmps54 rfl rfl hw ?_
  unfold bdP
  repeat' (first | apply (zs1 ?_) | apply (zs2 ?_) | apply (zs65 ?_) | apply (zs68 ?_) | apply (zs69 ?_) | apply (zs70 ?_) | fail)
  apply VL_call _ en95
  (repeat (first | exact args_nil | (apply args_cons; exact rfl)))
  exact rfl
  exact fun _ hw => (copyCheck_spec b p _ hp (hw))
  rintro _ _ ⟨rfl, rfl⟩
  repeat' (first | (apply VL_appendStr T (e := 5); exact rfl; exact rfl; exact rfl; kernel_rfl; exact rfl; exact rfl; (intro _ _; (repeat (first | with_reducible exact Upd.here _ | with_reducible apply Upd.there))); (rw [hs]; omega); intro A' cap') | apply (zs1 ?_) | apply (zs2 ?_) | apply (zs5 ?_) | (apply zg2; refine zs6 ?_) | (apply zg3; refine zs7 ?_) | (apply zg4; refine zs14 ?_) | (apply zg22; refine zs50 ?_) | apply (zs65 ?_) | apply (zs68 ?_) | apply (zs69 ?_) | apply (zs70 ?_) | apply (zs74 ?_) | fail)
  have e1 : Lib.byteCells l ++ Lib.strCells ⟨s.toArray⟩ = Lib.byteCells (l ++ s) := by
    unfold Lib.byteCells Lib.strCells
    rw [List.map_append]
  have e2 : l.length + (⟨s.toArray⟩ : ByteArray).size = (l ++ s).length := by rw [hs, List.length_append]
  apply VQ_ret2; exact rfl; exact rfl; exact rfl
  refine ⟨by rw [hs], A', cap', ?_⟩
  rw [e1, e2]
theorem bdP_is {b : Nat} {p : Value} {A : Option Addr} {cap : Nat} {l : List UInt8} {B : Nat} {w0 w : World} {H : List HP} (hp : p = .pointer none ∨ p = .pointer (some ⟨b, 0, none⟩)) (hw : St B w0 (bdP b p A cap l H) w) : Lib.IsBuilder 83 5 B b (Lib.byteCells l) w := by
  obtain ⟨_, _, S1, S2, k1, k2, k3, ⟨k4, k5⟩, S3, S4, j1, j2, j3, ⟨⟨j4, j5⟩, j6⟩, j7⟩ := hw
  have hl : (Lib.byteCells l).length = l.length := by unfold Lib.byteCells; rw [List.length_map]
  have hat : Lib.BuilderAt 83 5 B b p (Lib.byteCells l) w := by
    refine ⟨(k1 b k4).1, .slice A l.length cap, k5, ⟨by rw [hl]; omega, ?_⟩, ?_⟩
    · rw [hl]
      rcases j5 with j5 | ⟨g, c, cur, e1, e2, e3⟩
      · exact .inl j5
      · refine .inr ⟨g, c, cur, e1, ?_, e3⟩
        injection e1 with e1
        exact (k2 g (j1 g (j6 _ e1))).1
    · intro e
      cases A with
      | none => cases e
      | some a =>
        simp only [Value.ownBlock, Option.some.injEq] at e
        have := j6 a rfl
        rw [e] at this
        exact k3 b k4 (j1 b this)
  rcases hp with rfl | rfl
  · exact .inl hat
  · exact .inr hat
theorem string_spec {b : Nat} {p : Value} {A : Option Addr} {cap : Nat} {l : List UInt8} {B : Nat} {w0 w : World} {H : List HP} (hp : p = .pointer none ∨ p = .pointer (some ⟨b, 0, none⟩)) (hw : St B w0 (bdP b p A cap l H) w) :
    Calls Tryz.prog 57 [.pointer (some ⟨b, 0, none⟩)].toArray w (Post B w0 fun v K => v = strV l ∧ K = []) := by
  refine (Tryz.Builder_String_any B b l w (bdP_is hp hw) hw.le).mono ?_
  rintro e w' ⟨rfl, hb⟩
  exact ⟨_, [], rfl, ⟨hw.below.trans hb, Nat.le_trans hw.le hb.size, trivial⟩, rfl, rfl⟩
theorem itoa_len {n : Int} (h : 0 ≤ n ∧ n < 10000) : (Lib.itoa n).length ≤ 4 := by
  rw [itoa_nat h.1]; exact dec_len (by omega)
theorem body_len {w : List UInt8} : ∀ {l : List Int}, (∀ n ∈ l, 0 ≤ n ∧ n < 10000) → (bodyB w l).length ≤ w.length + 5 * l.length
  | [], _ => by simp [bodyB]
  | n :: l, h => by
    have ih := body_len (w := w) (l := l) fun m hm => h m (List.mem_cons_of_mem _ hm)
    have h1 := itoa_len (h n List.mem_cons_self)
    unfold bodyB at ih ⊢
    simp only [List.flatMap_cons, List.length_append, List.length_cons] at ih ⊢
    omega
theorem body_snoc (w : List UInt8) (l : List Int) (n : Int) : bodyB w (l ++ [n]) = bodyB w l ++ ([32] ++ Lib.itoa n) := by
  unfold bodyB; simp
set_option maxRecDepth 10000 in
theorem line_spec (word : List UInt8) (l : List Int) (h : ∀ n ∈ l, 0 ≤ n ∧ n < 10000) (h5 : l.length ≤ 100) (hwd : word.length ≤ 100) {A : Option Addr} {cap B : Nat} {w0 : World} {H : List HP} {w : World} (ht : TabsB B w0) (hr : Rd B w0 H A (l.flatMap numF)) (hw : St B w0 H w) :
    Calls Tryz.prog 55 [strV word, .slice A l.length cap].toArray w (Post B w0 fun v K => v = strV (lineB word l) ∧ K = H) := by
  refine Calls_of_VC Tryz.func55 Tryz.ntmps55 rfl rfl hw ?_
  repeat' (first | apply (zs1 ?_) | apply (zs2 ?_) | (apply zg4; refine zs9 ?_) | apply (zs65 ?_) | apply (zs68 ?_) | apply (zs69 ?_) | apply (zs70 ?_) | apply (zs73 ?_) | fail)
  refine VC_loop1 (fun (i : Nat) => [(9, .int .i64 i), (8, .int .i64 l.length), (7, .slice A l.length cap), (0, strV (bodyB word (l.take i)))]) (fun _ => H) (fun i => i ≤ l.length) (fun i => l.length - i) 0 (Nat.zero_le _) ?_ (fun w hw => hw) ?_
  · have e0 : bodyB word (l.take 0) = word := by simp [bodyB]
    rw [e0]
    (repeat (first | exact sub_nil _ | (apply sub_cons; first | exact rfl | exact congrArg (fun z : Int => some (Value.int .i64 z)) (by omega))))
  intro i hi K hK
  have hbl := body_len (w := word) (l := l.take i) fun n hn => h n (List.mem_of_mem_take hn)
  have hlt0 : (l.take i).length ≤ 100 := by rw [List.length_take]; omega
  by_cases hlt : i < l.length
  · obtain ⟨n, hn⟩ : ∃ n, l[i]? = some n := ⟨_, List.getElem?_eq_getElem hlt⟩
    have hnb := h n (List.mem_of_getElem? hn)
    have hil := itoa_len hnb
    repeat' (first | ((first | apply VL_callt en96 | apply VL_callq en96); (repeat (first | exact args_nil | (apply args_cons; exact rfl))); exact rfl; exact fun _ hw => (itoa_spec n (by omega) (by omega) ht hw)) | (apply VL_cat [32] (Lib.itoa n); exact rfl; exact rfl; exact rfl; (show 1 + _ ≤ _; omega)) | (apply VL_cat (bodyB word (l.take i)) ([32] ++ Lib.itoa n); exact rfl; exact rfl; exact rfl; (rw [List.length_append]; show _ + (1 + _) ≤ _; omega)) | apply (zs1 ?_) | apply (zs2 ?_) | (apply zg3; refine zs60 ?_) | (apply zg5; refine zs57 ?_) | (apply (zs17 ?_ ?_) <;> intro _ <;> try (exfalso; omega)) | (apply zg13; refine zs30 ?_) | apply (zs65 ?_) | apply (zs68 ?_) | apply (zs69 ?_) | apply (zs70 ?_) | (apply zg27; refine zs71 ?_) | apply (zs73 ?_) | apply (zs76 ?_) | apply (zs79 ?_) | fail)
    apply hK (i + 1)
    · show i + 1 ≤ l.length
      omega
    · omega
    · rw [List.take_add_one, hn, Option.toList_some, body_snoc]
      (repeat (first | exact sub_nil _ | (apply sub_cons; first | exact rfl | exact congrArg (fun z : Int => some (Value.int .i64 z)) (by omega))))
    · exact fun w hw => hw
  · skip
    repeat' (first | (apply VL_cat (bodyB word (l.take i)) [10]; exact rfl; exact rfl; exact rfl; (show _ + 1 ≤ _; omega)) | apply (zs1 ?_) | apply (zs2 ?_) | (apply (zs17 ?_ ?_) <;> intro _ <;> try (exfalso; omega)) | apply (zs65 ?_) | apply (zs68 ?_) | apply (zs69 ?_) | apply (zs70 ?_) | (apply zg27; refine zs72 ?_) | apply (zs74 ?_) | apply (zs75 ?_) | apply (zs80 ?_) | apply (zs81 ?_) | fail)
    apply VQ_ret1; exact rfl; exact rfl
    rw [show i = l.length by omega, List.take_length]
    exact ⟨rfl, rfl⟩

def textTo (s : Sch) (i : Nat) : List UInt8 := lineB wordS [s.len, s.off] ++ (s.cells.take i).flatMap fun c => lineB wordC (nums c)
theorem textTo_step {s : Sch} {i : Nat} (h : i < s.cells.length) : textTo s (i + 1) = textTo s i ++ lineB wordC (nums (celAt s i)) := by
  unfold textTo
  rw [List.take_add_one, celAt_some h, Option.toList_some, List.flatMap_append, List.append_assoc]
  simp
theorem line_len {w : List UInt8} {l : List Int} (h : ∀ n ∈ l, 0 ≤ n ∧ n < 10000) : (lineB w l).length ≤ w.length + 5 * l.length + 1 := by
  unfold lineB
  have := body_len (w := w) h
  rw [List.length_append]
  show _ + 1 ≤ _
  omega
theorem textTo_len {s : Sch} (h : Frm s) : ∀ i, i ≤ s.cells.length → (textTo s i).length ≤ 100 + 40 * i
  | 0, _ => by
    have h1 := line_len (w := wordS) (form_nums h).1
    unfold textTo
    simp only [List.take_zero, List.flatMap_nil, List.append_nil]
    have : wordS.length = 8 := rfl
    simp only [List.length_cons, List.length_nil] at h1
    omega
  | i + 1, hi => by
    have ih := textTo_len h i (by omega)
    have h1 := line_len (w := wordC) ((form_nums h).2 _ (celAt_mem (s := s) (i := i) (by omega)))
    rw [textTo_step (by omega), List.length_append]
    have : wordC.length = 4 := rfl
    have h2 : (nums (celAt s i)).length = 5 := rfl
    omega
set_option maxRecDepth 10000 in
set_option maxHeartbeats 1000000 in
theorem print_in (s : SchM) {B : Nat} {w0 : World} {w : World} (ht : TabsB B w0) (hr : Rd B w0 [] s.A (s.cells.flatMap celF)) (hl : s.cells.length ≤ 1000000000000) (hw : St B w0 [] w) :
    Calls Tryz.prog 16 [s.val].toArray w (Post B w0 fun v _ => v = .tuple #[strV (printE s.sch).1, .int .i64 (printE s.sch).2]) := by
  refine Calls_of_VC Tryz.func16 Tryz.ntmps16 rfl rfl hw ?_
  have e1 : s.sch.cells = s.cells := rfl
  cases hf : formE s.sch with
  | false =>
    repeat' (first | ((first | apply VL_callt en53 | apply VL_callq en53); (repeat (first | exact args_nil | (apply args_cons; exact rfl))); exact rfl; exact fun _ hw => (calls_val (congrArg Value.bool hf) (fun _ hw => form_spec s hr.cons hl hw) hw)) | apply (zs2 ?_) | (apply zg3; refine zs8 ?_) | (apply zg20; refine zs48 ?_) | (apply zg23; (refine zs52 ?_; intro _)) | apply (zs65 ?_) | apply (zs68 ?_) | apply (zs69 ?_) | apply (zs70 ?_) | (apply zg27; refine zs71 ?_) | apply (zs74 ?_) | apply (zs77 ?_) | fail)
    apply VQ_ret2; exact rfl; exact rfl; exact rfl
    rw [printE, if_pos hf]
  | true =>
    have hfr := form_iff.1 hf
    have hle : s.cells.length ≤ 512 := hfr.few
    have hnm := form_nums hfr
    have hln1 := line_len (w := wordS) hnm.1
    repeat' (first | ((first | apply VL_callt en53 | apply VL_callq en53); (repeat (first | exact args_nil | (apply args_cons; exact rfl))); exact rfl; exact fun _ hw => (calls_val (congrArg Value.bool hf) (fun _ hw => form_spec s hr.cons hl hw) hw)) | apply (zs2 ?_) | (apply zg2; refine zs6 ?_) | (apply zg3; first | refine zs7 ?_ | refine zs8 ?_) | (apply zg20; refine zs47 ?_) | (apply zg23; (refine zs52 ?_; intro _)) | (apply zg24; (refine zs54 ?_; intro _)) | (apply zg26; (refine zs56 ?_; intro _)) | apply (zs65 ?_) | apply (zs68 ?_) | apply (zs69 ?_) | apply (zs70 ?_) | (apply zg27; refine zs72 ?_) | apply (zs76 ?_) | fail)
    rename_i gs gb gl
    have hrl : Rd B w0 [blk gl (.cells #[.int .i64 s.len, .int .i64 s.off] 3 (0, 0)), blk gb (.cells (Value.agg #[.pointer none, .slice none 0 0]).cells 83 (0, 0)), blk gs (.cells #[.int .i64 s.len, .int .i64 s.off, .slice s.A s.cells.length s.cap] 30 (0, 0))] (some ⟨gl, 0, none⟩) ([s.sch.len, s.sch.off].flatMap numF) := Rd.blk (cs := #[.int .i64 s.len, .int .i64 s.off]) (.head _)
    first | apply VL_callt en55 | apply VL_callq en55
    (repeat (first | exact args_nil | (apply args_cons; exact rfl)))
    exact rfl
    exact fun _ hw => (line_spec wordS [s.sch.len, s.sch.off] hnm.1 (by show 2 ≤ 100; decide) (by decide) ht hrl hw)
    apply VL_st (bdP gb (.pointer none) none 0 [] [blk gs (.cells #[.int .i64 s.len, .int .i64 s.off, .slice s.A s.cells.length s.cap] 30 (0, 0))])
    · unfold bdP
      intro w hw
      have h5 : St B w0 [blk gb (.cells (Value.agg #[.pointer none, .slice none 0 0]).cells 83 (0, 0)), blk gs (.cells #[.int .i64 s.len, .int .i64 s.off, .slice s.A s.cells.length s.cap] 30 (0, 0))] w := by
        revert w
        (intro w hw; refine hw.perm ?_; focus repeat (first | with_reducible exact Perm.refl _ | (with_reducible apply perm_take; focus ((repeat (first | with_reducible exact rem_here | with_reducible apply rem_there)); done)) | with_reducible apply Perm.dropK))
      exact (h5.nilSlice _ _).perm (.swap _ _ _)
    apply VL_call _ en54
    (repeat (first | exact args_nil | (apply args_cons; exact rfl)))
    exact rfl
    exact fun _ hw => (write_spec gb _ (.inl rfl) none 0 [] (lineB wordS [s.sch.len, s.sch.off]) (by simp only [List.length_nil]; have : wordS.length = 8 := rfl; simp only [List.length_cons, List.length_nil] at hln1; omega) (hw))
    rintro _ _ ⟨rfl, A1, cap1, rfl⟩
    unfold bdP
    repeat' (first | apply (zs1 ?_) | (apply zg2; refine zs6 ?_) | (apply zg3; refine zs7 ?_) | (apply zg4; refine zs9 ?_) | apply (zs65 ?_) | apply (zs68 ?_) | apply (zs69 ?_) | apply (zs70 ?_) | apply (zs73 ?_) | fail)
    refine VC_loop1 (fun (z : Nat × Option Addr × Nat) => [(21, .int .i64 z.1), (20, .int .i64 s.cells.length), (19, .slice s.A s.cells.length s.cap), (4, .pointer (some ⟨gb, 0, none⟩))]) (fun z => bdP gb (.pointer (some ⟨gb, 0, none⟩)) z.2.1 z.2.2 (textTo s.sch z.1) [blk gs (.cells #[.int .i64 s.len, .int .i64 s.off, .slice s.A s.cells.length s.cap] 30 (0, 0))]) (fun z => z.1 ≤ s.cells.length) (fun z => s.cells.length - z.1) (0, A1, cap1) (Nat.zero_le _) ?_ ?_ ?_
    · (repeat (first | exact sub_nil _ | (apply sub_cons; first | exact rfl | exact congrArg (fun z : Int => some (Value.int .i64 z)) (by omega))))
    · have e0 : textTo s.sch 0 = [] ++ lineB wordS [s.sch.len, s.sch.off] := by unfold textTo; simp
      rw [e0]
      unfold bdP
      exact fun w hw => hw
    rintro ⟨i, A2, cap2⟩ hi K hK
    dsimp only at hi ⊢
    have htl := textTo_len hfr i hi
    by_cases hlt : i < s.cells.length
    · have hget : s.cells[i]? = some (celAt s.sch i) := celAt_some (s := s.sch) hlt
      have hnc := hnm.2 _ (celAt_mem (s := s.sch) hlt)
      have hln := line_len (w := wordC) hnc
      have hr' : Rd B w0 (bdP gb (.pointer (some ⟨gb, 0, none⟩)) A2 cap2 (textTo s.sch i) [blk gs (.cells #[.int .i64 s.len, .int .i64 s.off, .slice s.A s.cells.length s.cap] 30 (0, 0))]) s.A (s.cells.flatMap celF) := hr.cons.cons.cons
      repeat' (first | ((first | apply VL_callt en56 | apply VL_callq en56); (repeat (first | exact args_nil | (apply args_cons; exact rfl))); exact rfl; exact fun _ hw => (numbers_spec _ hw)) | (apply VL_slice_all T (e := 3); exact rfl; exact rfl; exact rfl) | (apply zg3; first | refine zs8 ?_ | refine zs61 ?_) | (apply zg5; refine zs57 ?_) | (apply (zs17 ?_ ?_) <;> intro _ <;> try (exfalso; omega)) | (apply zg22; refine zs51 ?_) | (apply zg24; (refine zs54 ?_; intro _)) | apply (zs65 ?_) | apply (zs68 ?_) | apply (zs69 ?_) | apply (zs70 ?_) | (apply zg27; refine zs71 ?_) | apply (zs73 ?_) | apply (zs76 ?_) | fail)
      rename_i gc ga
      have hra : ∀ X, Rd B w0 (blk ga (.cells (celF (celAt s.sch i)).toArray 89 (0, 0)) :: X) (some ⟨ga, 0, none⟩) ((nums (celAt s.sch i)).flatMap numF) := fun X => Rd.blk (cs := (celF (celAt s.sch i)).toArray) (.head _)
      first | apply VL_callt en55 | apply VL_callq en55
      (repeat (first | exact args_nil | (apply args_cons; exact rfl)))
      exact rfl
      exact fun _ hw => (line_spec wordC (nums (celAt s.sch i)) hnc (by show 5 ≤ 100; decide) (by decide) ht (hra _) hw)
      apply VL_st (bdP gb (.pointer (some ⟨gb, 0, none⟩)) A2 cap2 (textTo s.sch i) [blk gs (.cells #[.int .i64 s.len, .int .i64 s.off, .slice s.A s.cells.length s.cap] 30 (0, 0))])
      · exact fun w hw => hw.tail.tail
      have h5n : (nums (celAt s.sch i)).length = 5 := rfl
      have h4w : wordC.length = 4 := rfl
      apply VL_call _ en54
      (repeat (first | exact args_nil | (apply args_cons; exact rfl)))
      exact rfl
      exact fun _ hw => (write_spec gb _ (.inr rfl) A2 cap2 (textTo s.sch i) (lineB wordC (nums (celAt s.sch i))) (by omega) (hw))
      rintro _ _ ⟨rfl, A3, cap3, rfl⟩
      rw [← textTo_step hlt]
      repeat' (first | apply (zs1 ?_) | (apply zg13; refine zs30 ?_) | apply (zs65 ?_) | apply (zs68 ?_) | apply (zs70 ?_) | apply (zs79 ?_) | fail)
      apply hK (i + 1, A3, cap3)
      · show i + 1 ≤ s.cells.length
        omega
      · dsimp only; omega
      · (repeat (first | exact sub_nil _ | (apply sub_cons; first | exact rfl | exact congrArg (fun z : Int => some (Value.int .i64 z)) (by omega))))
      · exact fun w hw => hw
    · repeat' (first | (apply (zs17 ?_ ?_) <;> intro _ <;> try (exfalso; omega)) | apply (zs65 ?_) | apply (zs68 ?_) | apply (zs69 ?_) | apply (zs70 ?_) | (apply zg27; refine zs72 ?_) | apply (zs75 ?_) | apply (zs80 ?_) | apply (zs81 ?_) | fail)
      apply VL_call _ en57
      (repeat (first | exact args_nil | (apply args_cons; exact rfl)))
      exact rfl
      exact fun _ hw => (string_spec (l := textTo s.sch i) (.inr rfl) (hw))
      rintro _ _ ⟨rfl, rfl⟩
      repeat' (first | apply (zs2 ?_) | apply (zs65 ?_) | apply (zs68 ?_) | apply (zs74 ?_) | fail)
      apply VQ_ret2; exact rfl; exact rfl; exact rfl
      rw [printE, if_neg (by simp [hf])]
      rw [show i = s.sch.cells.length from (by have : s.sch.cells.length = s.cells.length := rfl; omega), show textTo s.sch s.sch.cells.length = textE s.sch from (by unfold textTo textE; rw [List.take_length])]
theorem print_spec (s : SchM) {B : Nat} {w0 : World} {H : List HP} {w : World} (ht : TabsB B w0) (hr : Rd B w0 H s.A (s.cells.flatMap celF)) (hl : s.cells.length ≤ 1000000000000) (hw : St B w0 H w) :
    Calls Tryz.prog 16 [s.val].toArray w (Post B w0 fun v K => v = .tuple #[strV (printE s.sch).1, .int .i64 (printE s.sch).2] ∧ K = H) :=
  calls_inner hw (print_in s (ht.here hw) (hr.here hw) hl (St.start w))
end Go.Proofs.YtnkpfpgmbpnbgaaGreatDoor

/- Walks: the numbers of a line; Parse. -/
namespace Go.Proofs.YtnkpfpgmbpnbgaaGreatDoor
open Go.RowKit Go.Eng Go.Nw

section
variable {m : Eng.Mode} {n : Shp} {B d : Nat} {w0 : World} {ops : Array Oper} {Q : Exit → Act → World → Prop} {rest : List Oper} {env : Env} {H : List HP} {ty : TypeId} {pos : String} {after : Array Edge} {x y : Operand}
theorem strV_inj {a b : List UInt8} : (⟨a.toArray⟩ : ByteArray) = ⟨b.toArray⟩ ↔ a = b := by
  constructor
  · intro h
    have h1 := congrArg (fun s : ByteArray => s.data.toList) h
    simpa using h1
  · rintro rfl; rfl
theorem VL_wneq (a b : List UInt8) (hx : evo env x = some (strV a)) (hy : evo env y = some (strV b)) (hn : Nat.ble (d + 1) n.k = true) (h1 : a ≠ b → VL Tryz.prog m n B w0 ops Q rest ((d, .bool true) :: env) H) (h2 : a = b → VL Tryz.prog m n B w0 ops Q rest ((d, .bool false) :: env) H) :
    VL Tryz.prog m n B w0 ops Q (⟨some d, .binOp .neq 9 x y 9, ty, pos, after, none⟩ :: rest) env H :=
  VL_sneq hx hy hn (fun h => h1 fun e => h (strV_inj.2 e)) (fun h => h2 (strV_inj.1 h))
theorem VL_errN (hx : evo env x = some .nilIface) (hn : Nat.ble (d + 1) n.k = true) (h : VL Tryz.prog m n B w0 ops Q rest ((d, .bool false) :: env) H) :
    VL Tryz.prog m n B w0 ops Q (⟨some d, .binOp .neq 85 x (.const .nilIface) 85, ty, pos, after, none⟩ :: rest) env H :=
  VL_bin (y := .const .nilIface) hx rfl hn (fun w => by simp [eqGuard]) (fun w => run_neq_nil_nil (P := Tryz.prog) (w := w) 85 (by kernel_rfl)) h
theorem VL_errS {t : TypeId} {p : Value} (hx : evo env x = some (.iface t p)) (hn : Nat.ble (d + 1) n.k = true) (h : VL Tryz.prog m n B w0 ops Q rest ((d, .bool true) :: env) H) :
    VL Tryz.prog m n B w0 ops Q (⟨some d, .binOp .neq 85 x (.const .nilIface) 85, ty, pos, after, none⟩ :: rest) env H :=
  VL_bin (y := .const .nilIface) hx rfl hn (fun w => by simp [eqGuard]) (fun w => run_neq_held_nil (P := Tryz.prog) (w := w) 85 t p (by kernel_rfl)) h
end
abbrev nrs (A : Option Addr) (cap : Nat) (l : List Int) : HP := sl 3 1 A l.length cap (l.flatMap numF)
theorem nrs_snoc (A : Option Addr) (cap : Nat) (l : List Int) (z : Int) : sl 3 1 A (l.length + 1) cap (l.flatMap numF ++ #[Value.int .i64 z].toList) = nrs A cap (l ++ [z]) := by simp [nrs, List.flatMap_append, numF]
theorem strs_flat (ps : List (List UInt8)) : (ps.map strV) = ps.flatMap strL := by induction ps with | nil => rfl | cons a l ih => simp [strL, List.flatMap_cons, ih]
theorem nums_some {ws : List (List UInt8)} (h : ∀ w ∈ ws, 0 ≤ numW w) : numsW ws = some (ws.map numW) := by
  unfold numsW
  rw [if_neg]
  rw [Bool.not_eq_true, List.any_eq_false]
  intro w hw
  have := h w hw
  simp; omega
theorem nums_none {ws : List (List UInt8)} {w : List UInt8} (hw : w ∈ ws) (h : numW w < 0) : numsW ws = none := by
  unfold numsW
  rw [if_pos]
  rw [List.any_eq_true]
  exact ⟨w, hw, by simpa using h⟩
theorem cut_len {c : UInt8} : ∀ {l : List UInt8}, ∀ p ∈ cutC c l, p.length ≤ l.length
  | [], p, hp => by
    simp only [cutC, List.mem_singleton] at hp
    subst hp; simp
  | x :: l, p, hp => by
    have ih := cut_len (c := c) (l := l)
    unfold cutC at hp
    split at hp
    · rcases List.mem_cons.1 hp with rfl | hp
      · simp
      · have := ih p hp; simp only [List.length_cons]; omega
    · cases hc : cutC c l with
      | nil => rw [hc] at hp; simp at hp; subst hp; simp
      | cons q qs =>
        rw [hc] at hp ih
        simp only [List.mem_cons] at hp ih
        rcases hp with rfl | hp
        · have := ih q (.inl rfl); simp only [List.length_cons]; omega
        · have := ih p (.inr hp); simp only [List.length_cons]; omega
def OutR (H : List HP) (r : Option (List Int)) (v : Value) (K : List HP) : Prop :=
  match r with
  | none => v = .tuple #[.slice none 0 0, .bool false] ∧ K = H
  | some x => ∃ A cap, v = .tuple #[.slice A x.length cap, .bool true] ∧ K = nrs A cap x :: H
set_option maxRecDepth 10000 in
set_option maxHeartbeats 2000000 in
theorem read_spec (line word : List UInt8) (many : Nat) (hl : line.length ≤ 100000) (hm : 1 ≤ many ∧ many ≤ 100) {B : Nat} {w0 : World} {H : List HP} {w : World} (ht : TabsB B w0) (hw : St B w0 H w) :
    Calls Tryz.prog 62 [strV line, strV word, .int .i64 many].toArray w (Post B w0 (OutR H (readE line word many))) := by
  refine Calls_of_VC Tryz.func62 Tryz.ntmps62 rfl rfl hw ?_
  repeat' (first | apply (zs1 ?_) | apply (zs2 ?_) | apply (zs65 ?_) | apply (zs68 ?_) | apply (zs69 ?_) | apply (zs70 ?_) | fail)
  apply VL_call _ en61
  (repeat (first | exact args_nil | (apply args_cons; exact rfl)))
  exact rfl
  exact fun _ hw => (split_spec line 32 (by omega) ht (hw))
  rintro _ _ ⟨g, rfl, rfl⟩
  obtain ⟨ps, hps⟩ : ∃ ps, cutC 32 line = ps := ⟨_, rfl⟩
  have hrd : readE line word many = if ps.length ≠ many + 1 ∨ ps.headD [] ≠ word then none else numsW ps.tail := by unfold readE; rw [hps]
  have hne : ps ≠ [] := hps ▸ cut_ne 32 line
  have hp0 : 1 ≤ ps.length := List.length_pos_iff.2 hne
  have hrp : Rd B w0 (blk g (.cells (ps.map strV).toArray 9 (0, 0)) :: H) (some ⟨g, 0, none⟩) (ps.flatMap strL) := by
    rw [← strs_flat]
    exact Rd.blk (cs := (ps.map strV).toArray) (.head _)
  have h0 : ps[0]? = some (ps.headD []) := by
    cases ps with
    | nil => exact absurd rfl hne
    | cons p ps => rfl
  rw [hps]
  repeat' (first | (apply VL_wneq (ps.headD []) word; exact rfl; exact rfl; exact rfl; all_goals intro hwd) | apply (zs1 ?_) | apply (zs2 ?_) | (apply zg1; first | refine zs3 ?_ | refine zs4 ?_) | (apply zg3; refine zs60 ?_) | (apply zg4; refine zs9 ?_) | (apply zg5; refine zs57 ?_) | (apply zg6; first | refine zs11 ?_ | refine zs12 ?_) | (apply zg8; (refine zs16 ?_ ?_ <;> intro _ <;> try (exfalso; omega))) | (apply zg13; refine zs30 ?_) | apply (zs65 ?_) | apply (zs68 ?_) | apply (zs69 ?_) | apply (zs70 ?_) | (apply zg27; first | refine zs71 ?_ | refine zs72 ?_) | apply (zs74 ?_) | apply (zs76 ?_) | apply (zs77 ?_) | fail)
  · rw [hrd, if_pos (.inl (by omega))]
    apply VQ_tail; apply VQ_ret2; exact rfl; exact rfl; exact rfl; exact ⟨rfl, rfl⟩
  · rw [hrd, if_pos (.inr hwd)]
    apply VQ_tail; apply VQ_ret2; exact rfl; exact rfl; exact rfl; exact ⟨rfl, rfl⟩
  have hpl : ps.length = many + 1 := by omega
  rw [hrd, if_neg (by rintro (h | h); exact h hpl; exact h hwd)]
  obtain ⟨ws, hws⟩ : ∃ ws, ps.tail = ws := ⟨_, rfl⟩
  have hwl : ws.length = many := by rw [← hws, List.length_tail]; omega
  have hwm : ∀ p ∈ ws, p.length ≤ 100000 := fun p hp => by
    have h1 := cut_len (c := 32) (l := line) p (by rw [hps]; exact List.mem_of_mem_tail (hws ▸ hp))
    omega
  rw [hws]
  apply VL_slice_lo T (n' := ws.length); exact rfl; exact rfl; exact rfl; exact rfl; omega; (rw [hwl]; show ps.length - 1 = many; omega)
  have hrw : Rd B w0 (blk g (.cells (ps.map strV).toArray 9 (0, 0)) :: H) (subA (some ⟨g, 0, none⟩) 1 ps.length 1) (ws.flatMap strL) := by
    have h1 := Rd.sub (q := 1) (o := 1) (k := ws.length) (cap := ps.length) (fun _ => rfl) hrp (Nat.le_refl _)
    rw [List.drop_one, hws, List.take_length] at h1
    exact h1
  rw [show (1 : Int).toNat = 1 from rfl]
  obtain ⟨A0, hA0⟩ : ∃ A0, subA (some ⟨g, 0, none⟩) 1 ps.length 1 = A0 := ⟨_, rfl⟩
  rw [hA0] at hrw ⊢
  repeat' (first | apply (zs1 ?_) | (apply zg4; refine zs9 ?_) | apply (zs65 ?_) | apply (zs68 ?_) | apply (zs73 ?_) | fail)
  have hnone : ∀ {p : List UInt8}, p ∈ ws → numW p < 0 → numsW ws = none := fun hp hn => nums_none hp hn
  refine VC_loop1 (fun (z : Nat × Option Addr × Nat) => [(31, .int .i64 z.1), (30, .int .i64 ws.length), (29, .slice A0 ws.length (ps.length - 1)), (9, .slice z.2.1 ((ws.take z.1).map numW).length z.2.2)]) (fun z => nrs z.2.1 z.2.2 ((ws.take z.1).map numW) :: blk g (.cells (ps.map strV).toArray 9 (0, 0)) :: H) (fun z => z.1 ≤ ws.length ∧ ∀ p ∈ ws.take z.1, 0 ≤ numW p) (fun z => ws.length - z.1) (0, none, 0) ⟨Nat.zero_le _, by simp⟩ ?_ (fun w hw => hw.nilSlice _ _) ?_
  · (repeat (first | exact sub_nil _ | (apply sub_cons; first | exact rfl | exact congrArg (fun z : Int => some (Value.int .i64 z)) (by omega))))
  rintro ⟨i, A, cap⟩ ⟨hi, hall⟩ K hK
  dsimp only at hi hall ⊢
  have hlen : ((ws.take i).map numW).length = i := by rw [List.length_map, List.length_take]; omega
  have hrw' := hrw.cons (X := nrs A cap ((ws.take i).map numW))
  by_cases hlt : i < ws.length
  · obtain ⟨p, hp⟩ : ∃ p, ws[i]? = some p := ⟨_, List.getElem?_eq_getElem hlt⟩
    have hpm := List.mem_of_getElem? hp
    have hpl := hwm p hpm
    have hs : (⟨p.toArray⟩ : ByteArray).size = p.length := by simp [ByteArray.size]
    by_cases hv : ∃ v, Lib.atoiAll p = .ok v
    · obtain ⟨v, hv⟩ := hv
      have hvb := Lib.atoiAll_bounds hv
      obtain ⟨q1, q2⟩ := prog_num hv
      repeat' (first | ((first | apply VL_callt en99 | apply VL_callq en99); (repeat (first | exact args_nil | (apply args_cons; exact rfl))); exact rfl; exact fun _ hw => (atoi_ok p (by omega) v hv hw)) | ((first | apply VL_callt en96 | apply VL_callq en96); (repeat (first | exact args_nil | (apply args_cons; exact rfl))); exact rfl; exact fun _ hw => (itoa_spec v hvb.1 hvb.2 ht hw)) | (apply VL_errN; exact rfl; exact rfl) | (apply VL_wneq (Lib.itoa v) p; exact rfl; exact rfl; exact rfl; all_goals intro hwd2) | apply (zs1 ?_) | apply (zs2 ?_) | (apply zg1; first | refine zs3 ?_ | refine zs4 ?_) | (apply zg3; refine zs60 ?_) | (apply zg4; refine zs14 ?_) | (apply zg5; refine zs57 ?_) | (apply zg6; first | refine zs11 ?_ | refine zs12 ?_) | apply (zs13 ?_) | (apply (zs17 ?_ ?_) <;> intro _ <;> try (exfalso; omega)) | (apply (zs19 ?_ ?_) <;> intro _ <;> try (exfalso; omega)) | (apply zg13; refine zs30 ?_) | (apply zg21; (refine zs49 ?_; intro _ _)) | (apply zg26; (refine zs56 ?_; intro _)) | apply (zs65 ?_) | apply (zs68 ?_) | apply (zs69 ?_) | apply (zs70 ?_) | (apply zg27; first | refine zs71 ?_ | refine zs72 ?_) | apply (zs73 ?_) | apply (zs74 ?_) | apply (zs76 ?_) | apply (zs77 ?_) | apply (zs78 ?_) | apply (zs79 ?_) | fail)
      all_goals first
        | (apply VQ_st H
           · (intro w hw; refine hw.perm ?_; focus repeat (first | with_reducible exact Perm.refl _ | (with_reducible apply perm_take; focus ((repeat (first | with_reducible exact rem_here | with_reducible apply rem_there)); done)) | with_reducible apply Perm.dropK))
           apply VQ_ret2; exact rfl; exact rfl; exact rfl
           rw [hnone hpm (q2 (by rintro ⟨c1, c2, c3⟩; first | omega | exact hwd2 c2))]
           exact ⟨rfl, rfl⟩)
        | (rename_i xA xcap
           have hq := q1 ⟨by omega, hwd2, by omega⟩
           have e5 : (ws.take i).map numW ++ [v] = (ws.take (i + 1)).map numW := by rw [List.take_add_one, hp, Option.toList_some, List.map_append, List.map_cons, List.map_nil, hq]
           rw [nrs_snoc, e5]
           apply hK (i + 1, xA, xcap)
           · refine ⟨by show i + 1 ≤ _; omega, fun p' hp' => ?_⟩
             dsimp only at hp'
             rw [List.take_add_one, hp, Option.toList_some, List.mem_append, List.mem_singleton] at hp'
             rcases hp' with hp' | rfl
             · exact hall p' hp'
             · omega
           · dsimp only; omega
           · rw [show ((ws.take i).map numW).length + 1 = ((ws.take (i + 1)).map numW).length from (by rw [← e5]; simp)]
             (repeat (first | exact sub_nil _ | (apply sub_cons; first | exact rfl | exact congrArg (fun z : Int => some (Value.int .i64 z)) (by omega))))
           · (intro w hw; refine hw.perm ?_; focus repeat (first | with_reducible exact Perm.refl _ | (with_reducible apply perm_take; focus ((repeat (first | with_reducible exact rem_here | with_reducible apply rem_there)); done)) | with_reducible apply Perm.dropK)))
    · have hbad := prog_bad (fun n hn => hv ⟨n, hn⟩)
      repeat' (first | apply (zs1 ?_) | apply (zs2 ?_) | (apply zg3; refine zs60 ?_) | (apply zg5; refine zs57 ?_) | (apply (zs17 ?_ ?_) <;> intro _ <;> try (exfalso; omega)) | apply (zs65 ?_) | apply (zs68 ?_) | apply (zs69 ?_) | apply (zs70 ?_) | (apply zg27; refine zs71 ?_) | apply (zs73 ?_) | apply (zs76 ?_) | fail)
      apply VL_call _ en99
      (repeat (first | exact args_nil | (apply args_cons; exact rfl)))
      exact rfl
      exact fun _ hw => (atoi_bad p (by omega) (fun n hn => hv ⟨n, hn⟩) ht (hw))
      rintro _ _ ⟨⟨n9, t9, p9, rfl⟩, rfl⟩
      repeat' (first | (apply VL_errS; exact rfl; exact rfl) | apply (zs1 ?_) | apply (zs2 ?_) | (apply zg1; refine zs3 ?_) | (apply zg6; refine zs11 ?_) | apply (zs13 ?_) | apply (zs65 ?_) | apply (zs68 ?_) | apply (zs69 ?_) | apply (zs70 ?_) | (apply zg27; refine zs71 ?_) | apply (zs74 ?_) | apply (zs77 ?_) | apply (zs78 ?_) | fail)
      rw [hnone hpm hbad]
      apply VQ_st H
      · (intro w hw; refine hw.perm ?_; focus repeat (first | with_reducible exact Perm.refl _ | (with_reducible apply perm_take; focus ((repeat (first | with_reducible exact rem_here | with_reducible apply rem_there)); done)) | with_reducible apply Perm.dropK))
      apply VQ_ret2; exact rfl; exact rfl; exact rfl; exact ⟨rfl, rfl⟩
  · have hie : i = ws.length := by omega
    rw [hie, List.take_length] at hall
    rw [nums_some hall]
    repeat' (first | apply (zs1 ?_) | apply (zs2 ?_) | (apply (zs17 ?_ ?_) <;> intro _ <;> try (exfalso; omega)) | apply (zs65 ?_) | apply (zs68 ?_) | apply (zs69 ?_) | apply (zs70 ?_) | (apply zg27; refine zs72 ?_) | apply (zs74 ?_) | apply (zs75 ?_) | apply (zs80 ?_) | apply (zs81 ?_) | fail)
    rw [hie, List.take_length]
    apply VQ_st (nrs A cap (ws.map numW) :: H)
    · (intro w hw; refine hw.perm ?_; focus repeat (first | with_reducible exact Perm.refl _ | (with_reducible apply perm_take; focus ((repeat (first | with_reducible exact rem_here | with_reducible apply rem_there)); done)) | with_reducible apply Perm.dropK))
    apply VQ_ret2; exact rfl; exact rfl; exact rfl
    exact ⟨A, cap, rfl, rfl⟩
end Go.Proofs.YtnkpfpgmbpnbgaaGreatDoor

/- Walks: cells searched; lists of cells copied, one struck; Remove. -/
namespace Go.Proofs.YtnkpfpgmbpnbgaaGreatDoor
open Go.RowKit Go.Eng Go.Nw

def OutS (H : List HP) (R : Sch × Int) (v : Value) (K : List HP) : Prop := ∃ A cap, v = .tuple #[.agg #[.int .i64 R.1.len, .int .i64 R.1.off, .slice A R.1.cells.length cap], .int .i64 R.2] ∧ K = cels A cap R.1.cells :: H
theorem outS_no {H : List HP} {R : Sch × Int} {v : Value} (e : Int) (hR : R = (zeroS, e)) (hv : v = .tuple #[.agg #[.int .i64 0, .int .i64 0, .slice none 0 0], .int .i64 e]) : OutS H R v (cels none 0 [] :: H) := ⟨none, 0, by rw [hR]; exact hv, by rw [hR]; rfl⟩

end Go.Proofs.YtnkpfpgmbpnbgaaGreatDoor

/- Walks: Parse. -/
namespace Go.Eng
open Go.RowKit
theorem VQ_retc3 {P : Program} {B : Nat} {w0 : World} {env : Env} {H : List HP} {n : Nat} (T : Tab P) {fn : Func} {Φ : Value → List HP → Prop} {p g k u s rt : Nat} {x y : Value} {cs : Array Value} {tt : TypeId} {fr : Nat × Nat} (hr : fn.results = #[.cell p rt, .tmp u, .tmp s]) (hp : get env p = some (.pointer (some ⟨g, 0, none⟩))) (hu : get env u = some x) (hs : get env s = some y)
    (hm : blk g (.cells cs tt fr) ∈ H) (ht : look T.ag rt = some k) (hk : cs.size = k) {H2 : List HP} (hH : ∀ w, St B w0 H w → St B w0 H2 w) (h : Φ (.tuple #[.agg cs, x, y]) H2) : VQ ⟨n, [], none⟩ B w0 (bodyPost P fn (Post B w0 Φ)) .ret env H := by
  refine ⟨fun a w ha hw => bodyPost_ret (v := .tuple #[.agg cs, x, y]) ?_ ha.defers ⟨_, H2, rfl, hH w hw, h⟩⟩
  have hp' := ha.slot p _ hp
  simp [results, hr, Array.getD_eq_getD_getElem?, hp', ha.slot u _ hu, ha.slot s _ hs, asAddr, run_load_blk T (hw.blk hm).1 ht hk]
end Go.Eng
namespace Go.Proofs.YtnkpfpgmbpnbgaaGreatDoor
open Go.RowKit Go.Eng Go.Nw

theorem firstF_at {f : Nat → Int} : ∀ {r i0 i : Nat}, (∀ k, i0 ≤ k → k < i → f k = 0) → i0 ≤ i → i < i0 + r → f i ≠ 0 → firstF f r i0 = ((i : Int), f i)
  | 0, i0, i, _, h1, h2, _ => by omega
  | r + 1, i0, i, h0, h1, h2, h3 => by
    unfold firstF
    by_cases e : i0 = i
    · subst e; rw [if_neg h3]
    · rw [if_pos (h0 i0 (Nat.le_refl _) (by omega))]
      exact firstF_at (fun k hk1 hk2 => h0 k (by omega) hk2) (by omega) (by omega) h3
theorem firstF_no {f : Nat → Int} {r i0 : Nat} (h : ∀ k, i0 ≤ k → k < i0 + r → f k = 0) : firstF f r i0 = (-1, 0) := by
  have h2 := firstF_ok.2 h
  exact Prod.ext (firstF_neg h2) h2
theorem cut_count {c : UInt8} : ∀ l : List UInt8, (cutC c l).length ≤ l.length + 1
  | [] => by simp [cutC]
  | x :: l => by
    have ih := cut_count (c := c) l
    unfold cutC
    split
    · simp only [List.length_cons]; omega
    · split
      · simp
      · rename_i h t he
        rw [he] at ih
        simp only [List.length_cons] at ih ⊢
        omega
theorem schTo_len (ls : List (List UInt8)) : ∀ k, (schTo ls k).cells.length ≤ k
  | 0 => by simp [schTo, zeroS]
  | k + 1 => by
    have ih := schTo_len ls k
    show (stepS k (schTo ls k) _).cells.length ≤ k + 1
    unfold stepS
    split
    · show (schTo ls k).cells.length ≤ k + 1
      omega
    · show ((schTo ls k).cells ++ _).length ≤ k + 1
      simp; omega
def OutP (H : List HP) (R : Sch × (Int × Int)) (v : Value) (K : List HP) : Prop := ∃ A cap, v = .tuple #[.agg #[.int .i64 R.1.len, .int .i64 R.1.off, .slice A R.1.cells.length cap], .int .i64 R.2.1, .int .i64 R.2.2] ∧ K = cels A cap R.1.cells :: H
theorem outP_no {H : List HP} {R : Sch × (Int × Int)} {v : Value} (i e : Int) (hR : R = (zeroS, (i, e))) (hv : v = .tuple #[.agg #[.int .i64 0, .int .i64 0, .slice none 0 0], .int .i64 i, .int .i64 e]) : OutP H R v (cels none 0 [] :: H) := ⟨none, 0, by rw [hR]; exact hv, by rw [hR]; rfl⟩
def schP (g : Nat) (s : Sch) (A : Option Addr) (cap : Nat) : HP := blk g (.cells #[.int .i64 s.len, .int .i64 s.off, .slice A s.cells.length cap] 30 (0, 0))
set_option maxRecDepth 10000 in
set_option maxHeartbeats 4000000 in
theorem parse_spec (text : List UInt8) (hl : text.length ≤ 100000) {B : Nat} {w0 : World} {H : List HP} {w : World} (ht : TabsB B w0) (hw : St B w0 H w) :
    Calls Tryz.prog 18 [strV text].toArray w (Post B w0 (OutP H (parseE text))) := by
  refine Calls_of_VC Tryz.func18 Tryz.ntmps18 rfl rfl hw ?_
  repeat' (first | apply (zs1 ?_) | apply (zs2 ?_) | (apply zg24; (refine zs54 ?_; intro _)) | apply (zs65 ?_) | apply (zs68 ?_) | apply (zs69 ?_) | apply (zs70 ?_) | fail)
  apply VL_call _ en61
  (repeat (first | exact args_nil | (apply args_cons; exact rfl)))
  exact rfl
  exact fun _ hw => (split_spec text 10 (by omega) ht (hw))
  rintro _ _ ⟨g, rfl, rfl⟩
  obtain ⟨ls, hls⟩ : ∃ ls, cutC 10 text = ls := ⟨_, rfl⟩
  have hpe : parseE text = parseL ls := by unfold parseE; rw [hls]
  have hlc : ls.length ≤ 100001 := by have := cut_count (c := 10) text; rw [hls] at this; omega
  have hl1 : 1 ≤ ls.length := List.length_pos_iff.2 (hls ▸ cut_ne 10 text)
  have hll : ∀ p ∈ ls, p.length ≤ 100000 := fun p hp => by have := cut_len (c := 10) (l := text) p (hls ▸ hp); omega
  have hrp : ∀ {L : List HP}, blk g (.cells (ls.map strV).toArray 9 (0, 0)) ∈ L → Rd B w0 L (some ⟨g, 0, none⟩) (ls.flatMap strL) := fun h => by
    rw [← strs_flat]
    exact Rd.blk (cs := (ls.map strV).toArray) h
  rw [hls, hpe]
  repeat' (first | apply (zs1 ?_) | apply (zs2 ?_) | (apply zg4; refine zs9 ?_) | (apply zg14; refine zs31 ?_) | (apply zg24; (refine zs54 ?_; intro _)) | apply (zs65 ?_) | apply (zs68 ?_) | apply (zs69 ?_) | apply (zs70 ?_) | fail)
  rename_i gr gs
  obtain ⟨m, hm⟩ : ∃ m, ls.length = m + 1 := ⟨ls.length - 1, by omega⟩
  rw [show ((ls.length : Nat) : Int) - 1 = (m : Int) by omega]
  apply VL_slice_hi_rd T (l := ls) (n' := (ls.take m).length); exact rfl; exact rfl; exact rfl; exact rfl; omega; exact Nat.le_refl _; (rw [List.length_take]; omega)
  rw [subA_zeroC]
  repeat' (first | apply (zs1 ?_) | (apply zg4; refine zs9 ?_) | apply (zs65 ?_) | apply (zs68 ?_) | apply (zs73 ?_) | fail)
  have hlt : (ls.take m).length = m := by rw [List.length_take]; omega
  have hrt : ∀ {L : List HP}, blk g (.cells (ls.map strV).toArray 9 (0, 0)) ∈ L → Rd B w0 L (some ⟨g, 0, none⟩) ((ls.take m).flatMap strL) := fun h => Rd.take (q := 1) m (fun _ => rfl) (hrp h)
  have hpl : parseL ls = if (firstF (badRow ls) m 0).2 ≠ 0 then (zeroS, firstF (badRow ls) m 0)
    else if m = 0 ∨ lineAt ls m ≠ [] then (zeroS, ((m : Int), 3))
    else if formE (schTo ls m) = false then (zeroS, (-1, 1)) else (schTo ls m, (-1, 0)) := by
    unfold parseL
    rw [show ls.length - 1 = m by omega]
  refine VC_loop1 (fun (z : Nat × Option Addr × Nat) => [(23, .int .i64 z.1), (22, .int .i64 (ls.take m).length), (21, .slice (some ⟨g, 0, none⟩) (ls.take m).length ls.length), (5, .slice (some ⟨g, 0, none⟩) ls.length ls.length), (6, .int .i64 m), (7, .pointer (some ⟨gs, 0, none⟩)), (2, .pointer (some ⟨gr, 0, none⟩))])
    (fun z => schP gs (schTo ls z.1) z.2.1 z.2.2 :: cels z.2.1 z.2.2 (schTo ls z.1).cells :: blk g (.cells (ls.map strV).toArray 9 (0, 0)) :: blk gr (.cells #[.int .i64 0, .int .i64 0, .slice none 0 0] 30 (0, 0)) :: H) (fun z => z.1 ≤ m ∧ ∀ k, k < z.1 → badRow ls k = 0) (fun z => m - z.1) (0, none, 0) ⟨Nat.zero_le _, fun k hk => absurd hk (Nat.not_lt_zero _)⟩ ?_ (fun w hw => ?_) ?_
  · (repeat (first | exact sub_nil _ | (apply sub_cons; first | exact rfl | exact congrArg (fun z : Int => some (Value.int .i64 z)) (by omega))))
  · exact (hw.nilSlice _ _).perm (.swap _ _ _)
  rintro ⟨i, A, cap⟩ ⟨hi, hall⟩ K hK
  dsimp only at hi hall ⊢
  have hcl := schTo_len ls i
  obtain ⟨SC, hSC⟩ : ∃ SC, schTo ls i = SC := ⟨_, rfl⟩
  rw [hSC] at hcl ⊢
  unfold schP
  by_cases hlti : i < m
  · have hrt' : Rd B w0 (blk gs (.cells #[.int .i64 SC.len, .int .i64 SC.off, .slice A SC.cells.length cap] 30 (0, 0)) :: cels A cap SC.cells :: blk g (.cells (ls.map strV).toArray 9 (0, 0)) :: blk gr (.cells #[.int .i64 0, .int .i64 0, .slice none 0 0] 30 (0, 0)) :: H) (some ⟨g, 0, none⟩) ((ls.take m).flatMap strL) := hrt (by (focus repeat (first | with_reducible exact List.mem_cons_self | with_reducible apply List.mem_cons_of_mem | assumption)))
    have hget : (ls.take m)[i]? = some (lineAt ls i) := by
      rw [List.getElem?_take, if_pos hlti]
      unfold lineAt
      rw [List.getD_eq_getElem?_getD, List.getElem?_eq_getElem (by omega)]
      rfl
    have hlm : (lineAt ls i).length ≤ 100000 := hll _ (List.mem_of_mem_take (List.mem_of_getElem? hget))
    rcases Nat.eq_zero_or_pos i with h0 | h0
    · subst h0
      have hsc : SC = zeroS := hSC.symm
      subst hsc
      repeat' (first | apply (zs1 ?_) | apply (zs2 ?_) | (apply zg3; refine zs60 ?_) | (apply zg5; refine zs57 ?_) | (apply zg7; (refine zs15 ?_ ?_ <;> intro _ <;> try (exfalso; omega))) | (apply (zs17 ?_ ?_) <;> intro _ <;> try (exfalso; omega)) | apply (zs65 ?_) | apply (zs68 ?_) | apply (zs69 ?_) | apply (zs70 ?_) | (apply zg27; refine zs71 ?_) | apply (zs73 ?_) | apply (zs76 ?_) | fail)
      apply VL_call _ en62
      (repeat (first | exact args_nil | (apply args_cons; exact rfl)))
      exact rfl
      exact fun _ hw => (read_spec (lineAt ls 0) wordS 2 hlm (by omega) ht (hw))
      intro v9 K9 hr9
      cases hrow : readE (lineAt ls 0) wordS 2 with
      | none =>
        rw [hrow] at hr9
        obtain ⟨rfl, rfl⟩ := hr9
        have hbr : badRow ls 0 = 3 := by unfold badRow; rw [show rowE 0 (lineAt ls 0) = none from hrow]; rfl
        have hfa := firstF_at (f := badRow ls) (r := m) (i0 := 0) (i := 0) (fun k _ hk => absurd hk (Nat.not_lt_zero _)) (Nat.le_refl _) (by omega) (by rw [hbr]; decide)
        repeat' (first | apply (zs1 ?_) | apply (zs2 ?_) | apply (zs13 ?_) | (apply zg20; refine zs48 ?_) | (apply zg22; refine zs51 ?_) | (apply zg25; refine zs55 ?_) | apply (zs65 ?_) | apply (zs68 ?_) | apply (zs69 ?_) | apply (zs70 ?_) | (apply zg27; refine zs71 ?_) | apply (zs73 ?_) | apply (zs74 ?_) | apply (zs77 ?_) | apply (zs78 ?_) | fail)
        apply VQ_retc3 T (H2 := cels none 0 [] :: H); exact rfl; exact rfl; exact rfl; exact rfl; (focus repeat (first | with_reducible exact List.mem_cons_self | with_reducible apply List.mem_cons_of_mem | assumption)); exact rfl; exact rfl; (intro w hw; refine St.nilSlice (H := H) ?_ _ _; revert w; (intro w hw; refine hw.perm ?_; focus repeat (first | with_reducible exact Perm.refl _ | (with_reducible apply perm_take; focus ((repeat (first | with_reducible exact rem_here | with_reducible apply rem_there)); done)) | with_reducible apply Perm.dropK)))
        exact outP_no 0 3 (by rw [hpl, hfa, hbr]; rfl) rfl
      | some x =>
        rw [hrow] at hr9
        obtain ⟨Ax, capx, rfl, rfl⟩ := hr9
        have hbr : badRow ls 0 = 0 := by unfold badRow; rw [show rowE 0 (lineAt ls 0) = some x from hrow]; rfl
        obtain ⟨xa, xb, rfl⟩ : ∃ a b, x = [a, b] := by
          have h2 := (read_some hrow).2.1
          match x, h2 with
          | [a, b], _ => exact ⟨a, b, rfl⟩
        have hst : schTo ls 1 = ⟨xa, xb, []⟩ := by
          show stepS 0 zeroS _ = _
          rw [show rowE 0 (lineAt ls 0) = some [xa, xb] from hrow]; rfl
        unfold nrs
        rw [show ([xa, xb] : List Int).length = 2 from rfl, show ([xa, xb] : List Int).flatMap numF = [.int .i64 xa, .int .i64 xb] from rfl]
        repeat' (first | apply (zs1 ?_) | apply (zs2 ?_) | apply (zs13 ?_) | (apply zg7; (refine zs15 ?_ ?_ <;> intro _ <;> try (exfalso; omega))) | (apply zg20; refine zs47 ?_) | apply (zs65 ?_) | apply (zs68 ?_) | apply (zs69 ?_) | apply (zs70 ?_) | (apply zg27; first | refine zs71 ?_ | refine zs72 ?_) | apply (zs73 ?_) | fail)
        apply VC_heldH [0, 1, 2, 3, 4, 5, 6, 7] [8, 9] [true, false]
        kernel_rfl
        kernel_rfl
        (repeat (first | with_reducible exact split_nil | with_reducible apply split_t | with_reducible apply split_f))
        (simp only [pickOps, nthO]; rfl)
        (simp only [pickOps, nthO]; rfl)
        repeat' (first | (apply VL_load_sl T; exact rfl; (focus repeat (first | with_reducible exact List.mem_cons_self | with_reducible apply List.mem_cons_of_mem | assumption)); exact rfl; exact rfl; exact rfl) | apply (zs1 ?_) | (apply zg2; refine zs6 ?_) | (apply zg5; refine zs10 ?_) | (apply zg13; refine zs30 ?_) | (apply zg22; refine zs50 ?_) | apply (zs65 ?_) | (apply VL_nilh; (repeat (first | with_reducible exact app_nil | with_reducible apply app_cons | exact app_niln _))) | apply (zs68 ?_) | apply (zs70 ?_) | apply (zs79 ?_) | apply (zs87 ?_) | (apply VQ_heldq; (repeat (first | with_reducible exact pull_nil | (with_reducible apply pull_cons; (repeat (first | with_reducible exact rem_here | with_reducible apply rem_there)))))) | apply (zs93 ?_) | apply (zs94 ?_) | fail)
        apply hK (0 + 1, A, cap)
        · refine ⟨by show 0 + 1 ≤ m; omega, fun k hk => ?_⟩
          obtain rfl : k = 0 := by have : k < 0 + 1 := hk; omega
          exact hbr
        · show m - (0 + 1) < m - 0
          omega
        · (repeat (first | exact sub_nil _ | (apply sub_cons; first | exact rfl | exact congrArg (fun z : Int => some (Value.int .i64 z)) (by omega))))
        · intro w hw
          have h5 : St B w0 (blk gs (.cells #[.int .i64 xa, .int .i64 xb, .slice A zeroS.cells.length cap] 30 (0, 0)) :: cels A cap zeroS.cells :: blk g (.cells (ls.map strV).toArray 9 (0, 0)) :: blk gr (.cells #[.int .i64 0, .int .i64 0, .slice none 0 0] 30 (0, 0)) :: H) w := by
            revert w
            (intro w hw; refine hw.perm ?_; focus repeat (first | with_reducible exact Perm.refl _ | (with_reducible apply perm_take; focus ((repeat (first | with_reducible exact rem_here | with_reducible apply rem_there)); done)) | with_reducible apply Perm.dropK))
          dsimp only
          rw [hst]
          exact h5
    · have hb : badRow ls i = 0 ∨ badRow ls i = 3 := by unfold badRow; split <;> simp
      repeat' (first | apply (zs1 ?_) | apply (zs2 ?_) | (apply zg3; refine zs60 ?_) | (apply zg5; refine zs57 ?_) | (apply zg7; (refine zs15 ?_ ?_ <;> intro _ <;> try (exfalso; omega))) | (apply (zs17 ?_ ?_) <;> intro _ <;> try (exfalso; omega)) | apply (zs65 ?_) | apply (zs68 ?_) | apply (zs69 ?_) | apply (zs70 ?_) | (apply zg27; first | refine zs71 ?_ | refine zs72 ?_) | apply (zs73 ?_) | apply (zs76 ?_) | fail)
      apply VL_call _ en62
      (repeat (first | exact args_nil | (apply args_cons; exact rfl)))
      exact rfl
      exact fun _ hw => (read_spec (lineAt ls i) wordC 5 hlm (by omega) ht (hw))
      intro v9 K9 hr9
      have hro : rowE i (lineAt ls i) = readE (lineAt ls i) wordC 5 := by
        unfold rowE wordOf manyOf
        rw [if_neg (by omega), if_neg (by omega)]
      cases hrow : readE (lineAt ls i) wordC 5 with
      | none =>
        rw [hrow] at hr9
        obtain ⟨rfl, rfl⟩ := hr9
        have hbr : badRow ls i = 3 := by unfold badRow; rw [hro, hrow]; rfl
        have hfa := firstF_at (f := badRow ls) (r := m) (i0 := 0) (i := i) (fun k _ hk => hall k hk) (Nat.zero_le _) (by omega) (by rw [hbr]; decide)
        repeat' (first | apply (zs1 ?_) | apply (zs2 ?_) | apply (zs13 ?_) | (apply zg20; refine zs48 ?_) | (apply zg22; refine zs51 ?_) | (apply zg25; refine zs55 ?_) | apply (zs65 ?_) | apply (zs68 ?_) | apply (zs69 ?_) | apply (zs70 ?_) | (apply zg27; refine zs71 ?_) | apply (zs73 ?_) | apply (zs74 ?_) | apply (zs77 ?_) | apply (zs78 ?_) | fail)
        apply VQ_retc3 T (H2 := cels none 0 [] :: H); exact rfl; exact rfl; exact rfl; exact rfl; (focus repeat (first | with_reducible exact List.mem_cons_self | with_reducible apply List.mem_cons_of_mem | assumption)); exact rfl; exact rfl; (intro w hw; refine St.nilSlice (H := H) ?_ _ _; revert w; (intro w hw; refine hw.perm ?_; focus repeat (first | with_reducible exact Perm.refl _ | (with_reducible apply perm_take; focus ((repeat (first | with_reducible exact rem_here | with_reducible apply rem_there)); done)) | with_reducible apply Perm.dropK)))
        exact outP_no i 3 (by rw [hpl, hfa, hbr]; rfl) rfl
      | some x =>
        rw [hrow] at hr9
        obtain ⟨Ax, capx, rfl, rfl⟩ := hr9
        have hbr : badRow ls i = 0 := by unfold badRow; rw [hro, hrow]; rfl
        obtain ⟨x1, x2, x3, x4, x5, rfl⟩ : ∃ a b c d e, x = [a, b, c, d, e] := by
          have h2 := (read_some hrow).2.1
          match x, h2 with
          | [a, b, c, d, e], _ => exact ⟨a, b, c, d, e, rfl⟩
        have hst : schTo ls (i + 1) = ⟨SC.len, SC.off, SC.cells ++ [(x1, x2, x3, x4, x5)]⟩ := by
          show stepS i (schTo ls i) _ = _
          rw [hro, hrow, hSC]
          unfold stepS
          rw [if_neg (by omega)]
          rfl
        unfold nrs cels
        rw [show ([x1, x2, x3, x4, x5] : List Int).length = 5 from rfl, show ([x1, x2, x3, x4, x5] : List Int).flatMap numF = [.int .i64 x1, .int .i64 x2, .int .i64 x3, .int .i64 x4, .int .i64 x5] from rfl]
        repeat' (first | apply (zs1 ?_) | apply (zs2 ?_) | apply (zs13 ?_) | (apply zg7; (refine zs15 ?_ ?_ <;> intro _ <;> try (exfalso; omega))) | (apply zg20; refine zs47 ?_) | apply (zs65 ?_) | apply (zs68 ?_) | apply (zs69 ?_) | apply (zs70 ?_) | (apply zg27; refine zs72 ?_) | apply (zs73 ?_) | fail)
        apply VC_heldH [0, 1, 2, 3, 4, 5, 6, 7, 8, 9, 10, 11, 12, 13, 14, 15, 16, 17, 18] [19, 20, 21] [true, true, false]
        kernel_rfl
        kernel_rfl
        (repeat (first | with_reducible exact split_nil | with_reducible apply split_t | with_reducible apply split_f))
        (simp only [pickOps, nthO]; rfl)
        (simp only [pickOps, nthO]; rfl)
        repeat' (first | (apply VL_load_sl T; exact rfl; (focus repeat (first | with_reducible exact List.mem_cons_self | with_reducible apply List.mem_cons_of_mem | assumption)); exact rfl; exact rfl; exact rfl) | apply (zs1 ?_) | (apply zg2; refine zs6 ?_) | (apply zg3; refine zs7 ?_) | (apply zg5; refine zs10 ?_) | (apply zg13; refine zs30 ?_) | (apply zg21; (refine zs49 ?_; intro _ _)) | (apply zg22; refine zs50 ?_) | (apply zg25; refine zs55 ?_) | (apply zg26; (refine zs56 ?_; intro _)) | apply (zs65 ?_) | (apply VL_nilh; (repeat (first | with_reducible exact app_nil | with_reducible apply app_cons | exact app_niln _))) | apply (zs68 ?_) | apply (zs70 ?_) | apply (zs79 ?_) | apply (zs87 ?_) | (apply VQ_heldq; (repeat (first | with_reducible exact pull_nil | (with_reducible apply pull_cons; (repeat (first | with_reducible exact rem_here | with_reducible apply rem_there)))))) | apply (zs93 ?_) | apply (zs94 ?_) | fail)
        rename_i gq A' cap'
        apply hK (i + 1, A', cap')
        · refine ⟨by show i + 1 ≤ m; omega, fun k hk => ?_⟩
          have hk : k < i + 1 := hk
          by_cases e : k = i
          · rw [e]; exact hbr
          · exact hall k (by omega)
        · show m - (i + 1) < m - i
          omega
        · (repeat (first | exact sub_nil _ | (apply sub_cons; first | exact rfl | exact congrArg (fun z : Int => some (Value.int .i64 z)) (by omega))))
        · intro w hw
          have e6 : sl 51 5 A' (SC.cells.length + 1) cap' (SC.cells.flatMap celF ++ #[Value.int .i64 x1, .int .i64 x2, .int .i64 x3, .int .i64 x4, .int .i64 x5].toList) = cels A' cap' (SC.cells ++ [(x1, x2, x3, x4, x5)]) := cels_snocR A' cap' SC.cells (x1, x2, x3, x4, x5)
          rw [e6, len_snoc SC.cells (x1, x2, x3, x4, x5)] at hw
          dsimp only
          rw [hst]
          unfold schP
          dsimp only
          revert w
          (intro w hw; refine hw.perm ?_; focus repeat (first | with_reducible exact Perm.refl _ | (with_reducible apply perm_take; focus ((repeat (first | with_reducible exact rem_here | with_reducible apply rem_there)); done)) | with_reducible apply Perm.dropK))
  · obtain rfl : i = m := by omega
    have hrp' : Rd B w0 (blk gs (.cells #[.int .i64 SC.len, .int .i64 SC.off, .slice A SC.cells.length cap] 30 (0, 0)) :: cels A cap SC.cells :: blk g (.cells (ls.map strV).toArray 9 (0, 0)) :: blk gr (.cells #[.int .i64 0, .int .i64 0, .slice none 0 0] 30 (0, 0)) :: H) (some ⟨g, 0, none⟩) (ls.flatMap strL) := hrp (by (focus repeat (first | with_reducible exact List.mem_cons_self | with_reducible apply List.mem_cons_of_mem | assumption)))
    have hz : firstF (badRow ls) i 0 = (-1, 0) := firstF_no fun k _ hk => hall k (by omega)
    have hgm : ls[(i : Int).toNat]? = some (lineAt ls i) := by
      unfold lineAt
      rw [List.getD_eq_getElem?_getD, Int.toNat_natCast, List.getElem?_eq_getElem (by omega)]
      rfl
    rw [hpl, hz, if_neg (by simp), hSC]
    repeat' (first | (apply VL_wneq (lineAt ls i) []; exact rfl; exact rfl; exact rfl; all_goals intro hwd) | apply (zs1 ?_) | apply (zs2 ?_) | (apply zg1; first | refine zs3 ?_ | refine zs4 ?_) | (apply zg3; first | refine zs8 ?_ | refine zs60 ?_) | (apply zg5; refine zs57 ?_) | (apply zg6; first | refine zs11 ?_ | refine zs12 ?_) | (apply zg7; (refine zs15 ?_ ?_ <;> intro _ <;> try (exfalso; omega))) | (apply (zs17 ?_ ?_) <;> intro _ <;> try (exfalso; omega)) | (apply zg22; refine zs51 ?_) | (apply zg25; refine zs55 ?_) | apply (zs65 ?_) | apply (zs68 ?_) | apply (zs69 ?_) | apply (zs70 ?_) | (apply zg27; first | refine zs71 ?_ | refine zs72 ?_) | apply (zs74 ?_) | apply (zs75 ?_) | apply (zs76 ?_) | apply (zs77 ?_) | apply (zs80 ?_) | apply (zs81 ?_) | fail)
    · apply VQ_retc3 T (H2 := cels none 0 [] :: H); exact rfl; exact rfl; exact rfl; exact rfl; (focus repeat (first | with_reducible exact List.mem_cons_self | with_reducible apply List.mem_cons_of_mem | assumption)); exact rfl; exact rfl; (intro w hw; refine St.nilSlice (H := H) ?_ _ _; revert w; (intro w hw; refine hw.perm ?_; focus repeat (first | with_reducible exact Perm.refl _ | (with_reducible apply perm_take; focus ((repeat (first | with_reducible exact rem_here | with_reducible apply rem_there)); done)) | with_reducible apply Perm.dropK)))
      exact outP_no i 3 (by rw [if_pos (.inl (by omega))]) rfl
    · apply VQ_retc3 T (H2 := cels none 0 [] :: H); exact rfl; exact rfl; exact rfl; exact rfl; (focus repeat (first | with_reducible exact List.mem_cons_self | with_reducible apply List.mem_cons_of_mem | assumption)); exact rfl; exact rfl; (intro w hw; refine St.nilSlice (H := H) ?_ _ _; revert w; (intro w hw; refine hw.perm ?_; focus repeat (first | with_reducible exact Perm.refl _ | (with_reducible apply perm_take; focus ((repeat (first | with_reducible exact rem_here | with_reducible apply rem_there)); done)) | with_reducible apply Perm.dropK)))
      exact outP_no i 3 (by rw [if_pos (.inr hwd)]) rfl
    have hrc : ∀ X, Rd B w0 (blk gs (.cells #[.int .i64 SC.len, .int .i64 SC.off, .slice A SC.cells.length cap] 30 (0, 0)) :: cels A cap SC.cells :: X) A (SC.cells.flatMap celF) := fun X => Rd.cels (cap := cap) (.tail _ (.head _))
    rw [if_neg (by rintro (h | h); omega; exact h hwd)]
    obtain ⟨SM, hSM⟩ : ∃ SM : SchM, SM = ⟨SC.len, SC.off, A, cap, SC.cells⟩ := ⟨_, rfl⟩
    have hss : SM.sch = SC := by rw [hSM]; rfl
    have hfc := fun {H' : List HP} {w : World} (hr : Rd B w0 H' SM.A (SM.cells.flatMap celF)) (hw : St B w0 H' w) => form_spec SM hr (by rw [hSM]; show SC.cells.length ≤ _; omega) hw
    rw [hss, hSM] at hfc
    cases hf : formE SC with
    | false =>
      rw [hf] at hfc
      repeat' (first | ((first | apply VL_callt en53 | apply VL_callq en53); (repeat (first | exact args_nil | (apply args_cons; exact rfl))); exact rfl; exact fun _ hw => (hfc (hrc _) hw)) | apply (zs2 ?_) | (apply zg20; refine zs48 ?_) | (apply zg22; refine zs51 ?_) | (apply zg25; refine zs55 ?_) | apply (zs65 ?_) | apply (zs68 ?_) | apply (zs69 ?_) | apply (zs70 ?_) | (apply zg27; refine zs71 ?_) | apply (zs74 ?_) | apply (zs77 ?_) | fail)
      apply VQ_retc3 T (H2 := cels none 0 [] :: H); exact rfl; exact rfl; exact rfl; exact rfl; (focus repeat (first | with_reducible exact List.mem_cons_self | with_reducible apply List.mem_cons_of_mem | assumption)); exact rfl; exact rfl; (intro w hw; refine St.nilSlice (H := H) ?_ _ _; revert w; (intro w hw; refine hw.perm ?_; focus repeat (first | with_reducible exact Perm.refl _ | (with_reducible apply perm_take; focus ((repeat (first | with_reducible exact rem_here | with_reducible apply rem_there)); done)) | with_reducible apply Perm.dropK)))
      exact outP_no (-1) 1 (by rw [if_pos rfl]) rfl
    | true =>
      rw [hf] at hfc
      repeat' (first | ((first | apply VL_callt en53 | apply VL_callq en53); (repeat (first | exact args_nil | (apply args_cons; exact rfl))); exact rfl; exact fun _ hw => (hfc (hrc _) hw)) | apply (zs2 ?_) | (apply zg3; refine zs8 ?_) | (apply zg20; refine zs47 ?_) | (apply zg22; refine zs51 ?_) | apply (zs65 ?_) | apply (zs68 ?_) | apply (zs69 ?_) | apply (zs70 ?_) | (apply zg27; refine zs72 ?_) | apply (zs74 ?_) | apply (zs76 ?_) | fail)
      apply VQ_retc3 T (H2 := cels A cap SC.cells :: H); exact rfl; exact rfl; exact rfl; exact rfl; (focus repeat (first | with_reducible exact List.mem_cons_self | with_reducible apply List.mem_cons_of_mem | assumption)); exact rfl; exact rfl; (intro w hw; refine hw.perm ?_; focus repeat (first | with_reducible exact Perm.refl _ | (with_reducible apply perm_take; focus ((repeat (first | with_reducible exact rem_here | with_reducible apply rem_there)); done)) | with_reducible apply Perm.dropK))
      exact ⟨A, cap, rfl, rfl⟩
end Go.Proofs.YtnkpfpgmbpnbgaaGreatDoor

/- Walks: the example of the chapter, and awake. -/
namespace Go.Proofs.YtnkpfpgmbpnbgaaGreatDoor
open Go.RowKit Go.Eng Go.Nw

def zeroN : NetM := ⟨0, none, 0, [], 0, 0, none, 0, [], none, 0, []⟩
theorem zeroN_in {B : Nat} {w0 : World} {K : List HP} : zeroN.In B w0 K := ⟨Rd.nil, fun _ h => (by cases h), Rd.nil, Rd.nil, by simp [zeroN], fun _ h => (by cases h), by simp [zeroN], by simp [zeroN]⟩
theorem zeroN_bad : checkE zeroN.net ≠ 0 := by decide
theorem check_arg (n : NetM) (l : Value) (s : SchM) (h : checkE n.net ≠ 0) {B : Nat} {w0 : World} {H : List HP} {w : World} (hin : n.In B w0 H) (hw : St B w0 H w) :
    Calls Tryz.prog 14 [n.val, l, s.val].toArray w (Post B w0 fun v K => v = .tuple #[.int .i64 (-1), .int .i64 1] ∧ K = H) := by
  refine Calls_of_VC Tryz.func14 Tryz.ntmps14 rfl rfl hw ?_
  repeat' (first | ((first | apply VL_callt en38 | apply VL_callq en38); (repeat (first | exact args_nil | (apply args_cons; exact rfl))); exact rfl; exact fun _ hw => (check_spec n hin.cons.cons hw)) | apply (zs2 ?_) | (apply zg3; refine zs8 ?_) | (apply zg8; (refine zs16 ?_ ?_ <;> intro _ <;> try (exfalso; omega))) | (apply zg23; (refine zs52 ?_; intro _)) | apply (zs65 ?_) | apply (zs68 ?_) | apply (zs69 ?_) | apply (zs70 ?_) | (apply zg27; refine zs71 ?_) | apply (zs74 ?_) | apply (zs77 ?_) | fail)
  apply VQ_st H
  · (intro w hw; refine hw.perm ?_; focus repeat (first | with_reducible exact Perm.refl _ | (with_reducible apply perm_take; focus ((repeat (first | with_reducible exact rem_here | with_reducible apply rem_there)); done)) | with_reducible apply Perm.dropK))
  apply VQ_ret2; exact rfl; exact rfl; exact rfl; exact ⟨rfl, rfl⟩

def exC : List Cel := [(0, 0, 0, 1, 5), (2, 1, 1, 2, 5)]
def exS (A : Option Addr) (cap : Nat) : SchM := ⟨4, 2, A, cap, exC⟩
def exE : Sch := ⟨4, 2, exC⟩
def exT : List UInt8 := [115, 99, 104, 101, 100, 117, 108, 101, 32, 52, 32, 50, 10, 99, 101, 108, 108, 32, 48, 32, 48, 32, 48, 32, 49, 32, 53, 10, 99, 101, 108, 108, 32, 50, 32, 49, 32, 49, 32, 50, 32, 53, 10]
theorem ex_form : formE exE = true := by decide
theorem itoa_one {n : Int} (h : 0 ≤ n ∧ n < 10) : Lib.itoa n = [UInt8.ofNat (48 + n.toNat)] := by
  rw [itoa_nat h.1, Lib.decDigits_one (by omega)]
theorem ex_text : textE exE = exT := by
  unfold textE lineB bodyB exE exC nums
  simp only [List.flatMap_cons, List.flatMap_nil]
  repeat rw [itoa_one (by omega)]
  rfl
theorem ex_at : atE exE 6 = [(2, 1, 1, 2, 5)] := by decide
theorem exa_spec {B : Nat} {w0 : World} {H : List HP} {w : World} (hw : St B w0 H w) :
    Calls Tryz.prog 37 [].toArray w (Post B w0 fun v K => ∃ A cap, v = .agg #[.int .i64 4, .int .i64 2, .slice A exC.length cap] ∧ K = cels A cap exC :: H) := by
  refine Calls_of_VC Tryz.func37 Tryz.ntmps37 rfl rfl hw ?_
  repeat' (first | (apply zg22; refine zs51 ?_) | (apply zg24; (refine zs54 ?_; intro _)) | (apply zg25; refine zs55 ?_) | (apply zg26; (refine zs56 ?_; intro _)) | apply (zs65 ?_) | apply (zs68 ?_) | apply (zs69 ?_) | apply (zs70 ?_) | apply (zs74 ?_) | fail)
  rename_i g1 g2
  apply VQ_retc1 T (H2 := cels (some ⟨g2, 0, none⟩) 2 exC :: H); exact rfl; exact rfl; (focus repeat (first | with_reducible exact List.mem_cons_self | with_reducible apply List.mem_cons_of_mem | assumption)); exact rfl; exact rfl
  · intro w hw
    have h2 := St.blk_sl (e := 51) (size := 5) (len := 2) (cs := exC.flatMap celF) hw rfl (by decide)
    exact (h2.perm (.swap _ _ _)).tail
  · exact ⟨some ⟨g2, 0, none⟩, 2, rfl, rfl⟩
set_option maxRecDepth 10000 in
set_option maxHeartbeats 2000000 in
theorem wake_spec {B : Nat} {w0 : World} {H : List HP} {w : World} (ht : TabsB B w0) (hw : St B w0 H w) :
    Calls Tryz.prog 11 [].toArray w (Post B w0 fun v K => v = .bool true ∧ K = H) := by
  refine Calls_of_VC Tryz.func11 Tryz.ntmps11 rfl rfl hw ?_
  have hpr : printE exE = (exT, 0) := by unfold printE; rw [ex_form, if_neg (by decide), ex_text]
  have hpa : parseE exT = (exE, (-1, 0)) := by rw [← ex_text]; exact parse_print ex_form
  repeat' (first | apply (zs2 ?_) | apply (zs65 ?_) | apply (zs68 ?_) | apply (zs69 ?_) | apply (zs70 ?_) | fail)
  apply VL_call _ en37
  (repeat (first | exact args_nil | (apply args_cons; exact rfl)))
  exact rfl
  exact fun _ hw => (exa_spec (hw))
  rintro _ _ ⟨A, cap, rfl, rfl⟩
  repeat' (first | (apply zg3; refine zs8 ?_) | (apply zg22; refine zs51 ?_) | (apply zg24; (refine zs54 ?_; intro _)) | apply (zs65 ?_) | apply (zs68 ?_) | apply (zs69 ?_) | apply (zs70 ?_) | fail)
  rename_i g1
  have hlc : (exS A cap).cells.length ≤ 1000000000000 := by show 2 ≤ _; omega
  have hrA : ∀ {L : List HP}, cels A cap exC ∈ L → Rd B w0 L A (exC.flatMap celF) := fun h => Rd.cels h
  have hp : ∀ {H' : List HP} {w : World}, Rd B w0 H' A (exC.flatMap celF) → St B w0 H' w → Calls Tryz.prog 16 [.agg #[.int .i64 4, .int .i64 2, .slice A exC.length cap]].toArray w (Post B w0 fun v K => v = .tuple #[strV exT, .int .i64 0] ∧ K = H') := fun hr hw => by
    have h := print_spec (exS A cap) ht hr hlc hw
    rw [show (exS A cap).sch = exE from rfl, hpr] at h
    exact h
  have hq : ∀ {H' : List HP} {w : World}, St B w0 H' w → Calls Tryz.prog 18 [strV exT].toArray w (Post B w0 fun v K => ∃ A cap, v = .tuple #[.agg #[.int .i64 4, .int .i64 2, .slice A exC.length cap], .int .i64 (-1), .int .i64 0] ∧ K = cels A cap exC :: H') := fun hw => by
    have h := parse_spec exT (by decide) ht hw
    rw [hpa] at h
    exact h
  have ha : ∀ {H' : List HP} {w : World}, Rd B w0 H' A (exC.flatMap celF) → St B w0 H' w → Calls Tryz.prog 23 [.agg #[.int .i64 4, .int .i64 2, .slice A exC.length cap], .int .i64 6].toArray w (Post B w0 fun v K => ∃ A cap, v = .slice A [((2, 1, 1, 2, 5) : Cel)].length cap ∧ K = cels A cap [(2, 1, 1, 2, 5)] :: H') := fun hr hw => by
    have h := at_spec (exS A cap) 6 hr hlc hw
    rw [show (exS A cap).sch = exE from rfl, ex_at] at h
    exact h
  first | apply VL_callt en16 | apply VL_callq en16
  (repeat (first | exact args_nil | (apply args_cons; exact rfl)))
  exact rfl
  exact fun _ hw => (hp (hrA (by (focus repeat (first | with_reducible exact List.mem_cons_self | with_reducible apply List.mem_cons_of_mem | assumption)))) hw)
  repeat' (first | apply (zs1 ?_) | apply (zs2 ?_) | apply (zs13 ?_) | apply (zs65 ?_) | apply (zs68 ?_) | apply (zs69 ?_) | apply (zs70 ?_) | fail)
  apply VL_call _ en18
  (repeat (first | exact args_nil | (apply args_cons; exact rfl)))
  exact rfl
  exact fun _ hw => (hq (hw))
  rintro _ _ ⟨A2, cap2, rfl, rfl⟩
  repeat' (first | apply (zs1 ?_) | apply (zs2 ?_) | (apply zg3; refine zs8 ?_) | apply (zs13 ?_) | (apply zg22; refine zs51 ?_) | (apply zg24; (refine zs54 ?_; intro _)) | apply (zs65 ?_) | apply (zs68 ?_) | apply (zs69 ?_) | apply (zs70 ?_) | fail)
  apply VL_call _ en23
  (repeat (first | exact args_nil | (apply args_cons; exact rfl)))
  exact rfl
  exact fun _ hw => (ha (hrA (by (focus repeat (first | with_reducible exact List.mem_cons_self | with_reducible apply List.mem_cons_of_mem | assumption)))) (hw))
  rintro _ _ ⟨A3, cap3, rfl, rfl⟩
  repeat' (first | apply (zs2 ?_) | (apply zg3; refine zs8 ?_) | (apply zg25; refine zs55 ?_) | apply (zs65 ?_) | apply (zs68 ?_) | apply (zs69 ?_) | apply (zs70 ?_) | fail)
  first | apply VL_callt en14 | apply VL_callq en14
  (repeat (first | exact args_nil | (apply args_cons; exact rfl)))
  exact rfl
  exact fun _ hw => (check_arg zeroN _ (exS A cap) zeroN_bad zeroN_in hw)
  have hg0 : [((2, 1, 1, 2, 5) : Cel)][(0 : Int).toNat]? = some (2, 1, 1, 2, 5) := rfl
  have hg1 : exC[(1 : Int).toNat]? = some (2, 1, 1, 2, 5) := rfl
  have hlx : exC.length = 2 := rfl
  have hl1 : [((2, 1, 1, 2, 5) : Cel)].length = 1 := rfl
  have hsm : ∀ {H' : List HP} {w : World}, Rd B w0 H' A (exC.flatMap celF) → Rd B w0 H' A2 (exC.flatMap celF) → St B w0 H' w → Calls Tryz.prog 20 [.agg #[.int .i64 4, .int .i64 2, .slice A exC.length cap], .agg #[.int .i64 4, .int .i64 2, .slice A2 exC.length cap2]].toArray w (Post B w0 fun v K => v = .bool true ∧ K = H') := fun hr hr2 hw => by
    have h := rsame_spec (exS A cap) (exS A2 cap2) hlc hlc hr hr2 hw
    rw [decide_eq_true ⟨rfl, rfl, rfl⟩] at h
    exact h
  unfold cels
  repeat' (first | (apply VL_seql; exact rfl; exact rfl; exact rfl; all_goals (intro hE; try (exact absurd rfl hE))) | ((first | apply VL_callt en20 | apply VL_callq en20); (repeat (first | exact args_nil | (apply args_cons; exact rfl))); exact rfl; exact fun _ hw => (hsm (Rd.sl (by (focus repeat (first | with_reducible exact List.mem_cons_self | with_reducible apply List.mem_cons_of_mem | assumption)))) (Rd.sl (by (focus repeat (first | with_reducible exact List.mem_cons_self | with_reducible apply List.mem_cons_of_mem | assumption)))) hw)) | (apply VL_ceql (2, 1, 1, 2, 5) (2, 1, 1, 2, 5); exact rfl; exact rfl; exact rfl; all_goals (intro hE; try (exact absurd rfl hE))) | apply (zs1 ?_) | apply (zs2 ?_) | (apply zg1; refine zs4 ?_) | (apply zg2; refine zs6 ?_) | (apply zg3; first | refine zs7 ?_ | refine zs8 ?_ | refine zs61 ?_) | (apply zg4; refine zs9 ?_) | (apply zg5; refine zs10 ?_) | (apply zg6; refine zs11 ?_) | apply (zs13 ?_) | (apply zg7; (refine zs15 ?_ ?_ <;> intro _ <;> try (exfalso; omega))) | apply (zs65 ?_) | apply (zs66 ?_) | apply (zs68 ?_) | apply (zs69 ?_) | apply (zs74 ?_) | (apply zg28; refine zs84 ?_) | fail)
  apply VQ_st H
  · (intro w hw; refine hw.perm ?_; focus repeat (first | with_reducible exact Perm.refl _ | (with_reducible apply perm_take; focus ((repeat (first | with_reducible exact rem_here | with_reducible apply rem_there)); done)) | with_reducible apply Perm.dropK))
  apply VQ_ret1; exact rfl; exact rfl
  exact ⟨rfl, rfl⟩
end Go.Proofs.YtnkpfpgmbpnbgaaGreatDoor

/- Walks: the reference's Less, right, Formed, SameCells, Same, Few, Has. -/
namespace Go.Proofs.YtnkpfpgmbpnbgaaGreatDoor
open Go.RowKit Go.Eng Go.Nw

theorem rin_spec (a lo hi : Int) {B : Nat} {w0 : World} {H : List HP} {w : World} (hw : St B w0 H w) :
    Calls Tryz.prog 47 [.int .i64 a, .int .i64 lo, .int .i64 hi].toArray w (Post B w0 fun v K => v = .bool (decide (lo ≤ a ∧ a ≤ hi)) ∧ K = H) := by
  refine Calls_of_VC Tryz.func47 Tryz.ntmps47 rfl rfl hw ?_
  repeat' (first | apply (zs1 ?_) | apply (zs2 ?_) | (apply zg1; first | refine zs3 ?_ | refine zs4 ?_) | (apply zg6; first | refine zs11 ?_ | refine zs12 ?_) | (apply (zs18 ?_ ?_) <;> intro _ <;> try (exfalso; omega)) | (apply (zs20 ?_ ?_) <;> intro _ <;> try (exfalso; omega)) | apply (zs65 ?_) | apply (zs68 ?_) | apply (zs69 ?_) | apply (zs70 ?_) | apply (zs74 ?_) | fail)
  all_goals (
    apply VQ_ret1; exact rfl; exact rfl
    first
      | exact ⟨by rw [decide_eq_true (by omega)], rfl⟩
      | exact ⟨by rw [decide_eq_false (by omega)], rfl⟩)
theorem rnumbers_spec (c : Cel) {B : Nat} {w0 : World} {H : List HP} {w : World} (hw : St B w0 H w) :
    Calls Tryz.prog 60 [celV c].toArray w (Post B w0 fun v K => ∃ g, v = .slice (some ⟨g, 0, none⟩) 5 5 ∧ K = blk g (.cells (celF c).toArray 3 (0, 0)) :: H) := by
  refine Calls_of_VC Tryz.func60 Tryz.ntmps60 rfl rfl hw ?_
  repeat' (first | apply (zs2 ?_) | (apply zg2; refine zs6 ?_) | (apply zg3; refine zs7 ?_) | (apply zg23; (refine zs52 ?_; intro _)) | (apply zg26; (refine zs56 ?_; intro _)) | apply (zs65 ?_) | apply (zs68 ?_) | apply (zs69 ?_) | apply (zs70 ?_) | apply (zs74 ?_) | fail)
  rename_i g
  apply VQ_st (blk g (.cells (celF c).toArray 3 (0, 0)) :: H)
  · unfold celF
    (intro w hw; refine hw.perm ?_; focus repeat (first | with_reducible exact Perm.refl _ | (with_reducible apply perm_take; focus ((repeat (first | with_reducible exact rem_here | with_reducible apply rem_there)); done)) | with_reducible apply Perm.dropK))
  apply VQ_ret1; exact rfl; exact rfl
  exact ⟨_, rfl, rfl⟩
set_option maxRecDepth 10000 in
set_option maxHeartbeats 2000000 in
theorem rless_spec (a b : Cel) {B : Nat} {w0 : World} {H : List HP} {w : World} (hw : St B w0 H w) :
    Calls Tryz.prog 50 [celV a, celV b].toArray w (Post B w0 fun v K => v = .bool (celLt a b) ∧ K = H) := by
  refine Calls_of_VC Tryz.func50 Tryz.ntmps50 rfl rfl hw ?_
  apply VC_seq
  iterate 5 (first | apply (zs2 ?_) | (apply zg23; (refine zs52 ?_; intro _)) | apply (zs65 ?_) | apply (zs70 ?_) | fail)
  apply VQ_then
  apply VC_seq
  refine VC_cutQ (fun (z : Nat × Nat) => [(5, .slice (some ⟨z.1, 0, none⟩) 5 5), (6, .slice (some ⟨z.2, 0, none⟩) 5 5)]) (fun z => blk z.1 (.cells (celF a).toArray 3 (0, 0)) :: blk z.2 (.cells (celF b).toArray 3 (0, 0)) :: H) ?_ ?_
  · intro K hK
    apply VC_treeU (.n1 0 (.n1 2 (.n2 1 (.n1 3 .done) 3 (.n1 1 .done)))) [4, 5] [true, true]
    kernel_rfl
    kernel_rfl
    (repeat (first | with_reducible exact split_nil | with_reducible apply split_t | with_reducible apply split_f))
    (simp only [pickOps, nthO]; rfl)
    repeat' (first | ((apply VL_call _ en60); (repeat (first | exact args_nil | (apply args_cons; exact rfl))); exact rfl; exact fun _ hw => rnumbers_spec _ hw; rintro _ _ ⟨g9, rfl, rfl⟩) | (apply VU_n2; (simp only [nthO]; rfl); (simp only [nthO]; rfl)) | (apply VU_n1; (simp only [nthO]; rfl)) | (apply VQ_treeu; (repeat (first | with_reducible exact pull_nil | (with_reducible apply pull_cons; (repeat (first | with_reducible exact rem_here | with_reducible apply rem_there)))))) | (apply VU_done; (repeat (first | with_reducible exact app_nil | with_reducible apply app_cons | exact app_niln _))) | apply (zs2 ?_) | (apply zg3; refine zs8 ?_) | apply (zs65 ?_) | (apply VL_nilh; (repeat (first | with_reducible exact app_nil | with_reducible apply app_cons | exact app_niln _))) | apply (zs87 ?_) | (apply VQ_heldq; (repeat (first | with_reducible exact pull_nil | (with_reducible apply pull_cons; (repeat (first | with_reducible exact rem_here | with_reducible apply rem_there)))))) | apply (zs93 ?_) | apply (zs94 ?_) | fail)
    all_goals (
      rename_i gx
      first
        | (refine hK (gx, g9) _ _ (by ((repeat (first | exact sub_nil _ | (apply sub_cons; first | exact rfl | exact congrArg (fun z : Int => some (Value.int .i64 z)) (by omega)))))) ?_; dsimp only [celF]; ((intro w hw; refine hw.perm ?_; focus repeat (first | with_reducible exact Perm.refl _ | (with_reducible apply perm_take; focus ((repeat (first | with_reducible exact rem_here | with_reducible apply rem_there)); done)) | with_reducible apply Perm.dropK))); done)
        | (refine hK (g9, gx) _ _ (by ((repeat (first | exact sub_nil _ | (apply sub_cons; first | exact rfl | exact congrArg (fun z : Int => some (Value.int .i64 z)) (by omega)))))) ?_; dsimp only [celF]; ((intro w hw; refine hw.perm ?_; focus repeat (first | with_reducible exact Perm.refl _ | (with_reducible apply perm_take; focus ((repeat (first | with_reducible exact rem_here | with_reducible apply rem_there)); done)) | with_reducible apply Perm.dropK))); done))
  rintro ⟨g1, g2⟩
  dsimp only
  have hA : Rd B w0 (blk g1 (.cells (celF a).toArray 3 (0, 0)) :: blk g2 (.cells (celF b).toArray 3 (0, 0)) :: H) (some ⟨g1, 0, none⟩) ((nums a).flatMap numF) := Rd.blk (cs := (celF a).toArray) (.head _)
  have hB : Rd B w0 (blk g1 (.cells (celF a).toArray 3 (0, 0)) :: blk g2 (.cells (celF b).toArray 3 (0, 0)) :: H) (some ⟨g2, 0, none⟩) ((nums b).flatMap numF) := Rd.blk (cs := (celF b).toArray) (.tail _ (.head _))
  have la : (nums a).length = 5 := rfl
  have lb : (nums b).length = 5 := rfl
  repeat' (first | apply (zs2 ?_) | apply (zs65 ?_) | apply (zs68 ?_) | apply (zs69 ?_) | apply (zs70 ?_) | apply (zs73 ?_) | fail)
  refine VC_loop1 (fun (i : Nat) => [(7, .int .i64 i), (5, .slice (some ⟨g1, 0, none⟩) (nums a).length 5), (6, .slice (some ⟨g2, 0, none⟩) (nums b).length 5)]) (fun _ => blk g1 (.cells (celF a).toArray 3 (0, 0)) :: blk g2 (.cells (celF b).toArray 3 (0, 0)) :: H) (fun i => i ≤ 5 ∧ celLt a b = lexLt ((nums a).drop i) ((nums b).drop i)) (fun i => 5 - i) 0 ⟨Nat.zero_le _, rfl⟩ ?_ (fun w hw => hw) ?_
  · (repeat (first | exact sub_nil _ | (apply sub_cons; first | exact rfl | exact congrArg (fun z : Int => some (Value.int .i64 z)) (by omega))))
  rintro i ⟨hi, he⟩ K hK
  by_cases hlt : i < 5
  · obtain ⟨x, hx⟩ : ∃ x, (nums a)[i]? = some x := ⟨_, List.getElem?_eq_getElem (by omega)⟩
    obtain ⟨y, hy⟩ : ∃ y, (nums b)[i]? = some y := ⟨_, List.getElem?_eq_getElem (by omega)⟩
    rw [lex_drop hx hy] at he
    by_cases hxy : x = y
    · rw [if_neg (by simp [hxy])] at he
      repeat' (first | apply (zs1 ?_) | apply (zs2 ?_) | (apply zg3; refine zs60 ?_) | (apply zg4; refine zs9 ?_) | (apply zg5; refine zs57 ?_) | (apply zg8; (refine zs16 ?_ ?_ <;> intro _ <;> try (exfalso; omega))) | (apply (zs17 ?_ ?_) <;> intro _ <;> try (exfalso; omega)) | (apply zg13; refine zs30 ?_) | apply (zs65 ?_) | apply (zs66 ?_) | apply (zs68 ?_) | apply (zs69 ?_) | apply (zs70 ?_) | (apply zg27; first | refine zs71 ?_ | refine zs72 ?_) | apply (zs73 ?_) | apply (zs76 ?_) | apply (zs79 ?_) | (apply zg28; refine zs83 ?_) | fail)
      apply hK (i + 1)
      · exact ⟨by omega, he⟩
      · omega
      · (repeat (first | exact sub_nil _ | (apply sub_cons; first | exact rfl | exact congrArg (fun z : Int => some (Value.int .i64 z)) (by omega))))
      · exact fun w hw => hw
    · rw [if_pos hxy] at he
      rw [he]
      clear hK
      repeat' (first | apply (zs1 ?_) | apply (zs2 ?_) | (apply zg3; refine zs60 ?_) | (apply zg4; refine zs9 ?_) | (apply zg5; refine zs57 ?_) | (apply zg8; (refine zs16 ?_ ?_ <;> intro _ <;> try (exfalso; omega))) | (apply (zs17 ?_ ?_) <;> intro _ <;> try (exfalso; omega)) | apply (zs65 ?_) | apply (zs66 ?_) | apply (zs68 ?_) | apply (zs69 ?_) | apply (zs70 ?_) | (apply zg27; refine zs71 ?_) | apply (zs73 ?_) | apply (zs74 ?_) | apply (zs76 ?_) | apply (zs77 ?_) | apply (zs78 ?_) | (apply zg28; refine zs83 ?_) | fail)
      all_goals (
        apply VQ_st H
        · (intro w hw; refine hw.perm ?_; focus repeat (first | with_reducible exact Perm.refl _ | (with_reducible apply perm_take; focus ((repeat (first | with_reducible exact rem_here | with_reducible apply rem_there)); done)) | with_reducible apply Perm.dropK))
        apply VQ_ret1; exact rfl; exact rfl
        first
          | exact ⟨by rw [decide_eq_true (by omega)], rfl⟩
          | exact ⟨by rw [decide_eq_false (by omega)], rfl⟩)
  · obtain rfl : i = 5 := by omega
    repeat' (first | apply (zs1 ?_) | apply (zs2 ?_) | (apply zg4; refine zs9 ?_) | (apply (zs17 ?_ ?_) <;> intro _ <;> try (exfalso; omega)) | apply (zs65 ?_) | apply (zs68 ?_) | apply (zs69 ?_) | apply (zs70 ?_) | (apply zg27; refine zs72 ?_) | apply (zs74 ?_) | apply (zs75 ?_) | apply (zs80 ?_) | apply (zs81 ?_) | fail)
    apply VQ_st H
    · (intro w hw; refine hw.perm ?_; focus repeat (first | with_reducible exact Perm.refl _ | (with_reducible apply perm_take; focus ((repeat (first | with_reducible exact rem_here | with_reducible apply rem_there)); done)) | with_reducible apply Perm.dropK))
    apply VQ_ret1; exact rfl; exact rfl
    exact ⟨by rw [he]; rfl, rfl⟩

theorem rright_spec (s : SchM) (c : Cel) (hs : 1 ≤ s.len ∧ s.len ≤ 512 ∧ 1 ≤ s.off ∧ s.off ≤ 16) {B : Nat} {w0 : World} {H : List HP} {w : World} (hw : St B w0 H w) :
    Calls Tryz.prog 73 [s.val, celV c].toArray w (Post B w0 fun v K => v = .bool (formedE s.sch c) ∧ K = H) := by
  refine Calls_of_VC Tryz.func73 Tryz.ntmps73 rfl rfl hw ?_
  repeat' (first | ((first | apply VL_calltb en47 | apply VL_callqb en47); (repeat (first | exact args_nil | (apply args_cons; exact rfl))); exact rfl; exact fun _ hw => (rin_spec _ _ _ hw); all_goals (intro hB; (try simp only [decide_eq_true_eq, decide_eq_false_iff_not] at hB); try (exfalso; omega))) | apply (zs1 ?_) | apply (zs2 ?_) | (apply zg1; first | refine zs3 ?_ | refine zs4 ?_) | (apply zg2; refine zs6 ?_) | (apply zg3; refine zs7 ?_) | (apply zg6; first | refine zs11 ?_ | refine zs12 ?_) | (apply zg14; refine zs31 ?_) | (apply zg23; (refine zs52 ?_; intro _)) | apply (zs65 ?_) | apply (zs68 ?_) | apply (zs69 ?_) | apply (zs70 ?_) | apply (zs74 ?_) | fail)
  all_goals (
    apply VQ_st H
    · (intro w hw; refine hw.perm ?_; focus repeat (first | with_reducible exact Perm.refl _ | (with_reducible apply perm_take; focus ((repeat (first | with_reducible exact rem_here | with_reducible apply rem_there)); done)) | with_reducible apply Perm.dropK))
    apply VQ_ret1; exact rfl; exact rfl
    first
      | exact ⟨by rw [show formedE s.sch c = true by (unfold formedE placedE insE SchM.sch; simp only [Bool.and_eq_true, decide_eq_true_eq]; omega)], rfl⟩
      | exact ⟨by rw [show formedE s.sch c = false by (rw [Bool.eq_false_iff]; unfold formedE placedE insE SchM.sch; simp only [ne_eq, Bool.and_eq_true, decide_eq_true_eq]; omega)], rfl⟩)
end Go.Proofs.YtnkpfpgmbpnbgaaGreatDoor

/- Walks: the reference's Formed, At. -/
namespace Go.Proofs.YtnkpfpgmbpnbgaaGreatDoor
open Go.RowKit Go.Eng Go.Nw

set_option maxRecDepth 10000 in
set_option maxHeartbeats 2000000 in
theorem rformed_spec (s : SchM) {B : Nat} {w0 : World} {H : List HP} {w : World} (hr : Rd B w0 H s.A (s.cells.flatMap celF)) (hl : s.cells.length ≤ 1000000000000) (hw : St B w0 H w) :
    Calls Tryz.prog 58 [s.val].toArray w (Post B w0 fun v K => v = .bool (formE s.sch) ∧ K = H) := by
  refine Calls_of_VC Tryz.func58 Tryz.ntmps58 rfl rfl hw ?_
  have e1 : s.sch.cells = s.cells := rfl
  have e2 : s.sch.len = s.len := rfl
  have e3 : s.sch.off = s.off := rfl
  have e4 : s.sch.cells.length = s.cells.length := rfl
  have hno : ¬ (1 ≤ s.len ∧ s.len ≤ 512 ∧ 1 ≤ s.off ∧ s.off ≤ 16 ∧ s.cells.length ≤ 512) → formE s.sch = false := fun h => by
    rw [Bool.eq_false_iff]
    intro hh
    have h0 := form_iff.1 hh
    have h1 := of_decide_eq_true h0.sized
    have h2 := h0.few
    omega
  by_cases hz : 1 ≤ s.len ∧ s.len ≤ 512 ∧ 1 ≤ s.off ∧ s.off ≤ 16 ∧ s.cells.length ≤ 512
  rotate_left
  · rw [hno hz]
    repeat' (first | ((first | apply VL_calltb en47 | apply VL_callqb en47); (repeat (first | exact args_nil | (apply args_cons; exact rfl))); exact rfl; exact fun _ hw => (rin_spec _ _ _ hw); all_goals (intro hB; (try simp only [decide_eq_true_eq, decide_eq_false_iff_not] at hB); try (exfalso; omega))) | apply (zs1 ?_) | apply (zs2 ?_) | (apply zg1; first | refine zs3 ?_ | refine zs4 ?_) | (apply zg2; refine zs6 ?_) | (apply zg3; refine zs7 ?_) | (apply zg4; refine zs9 ?_) | (apply zg6; first | refine zs11 ?_ | refine zs12 ?_) | (apply (zs19 ?_ ?_) <;> intro _ <;> try (exfalso; omega)) | (apply zg20; first | refine zs47 ?_ | refine zs48 ?_) | (apply zg23; (refine zs52 ?_; intro _)) | apply (zs65 ?_) | apply (zs68 ?_) | apply (zs69 ?_) | apply (zs70 ?_) | (apply zg27; refine zs71 ?_) | apply (zs74 ?_) | apply (zs77 ?_) | fail)
    all_goals (
      apply VQ_st H
      · (intro w hw; refine hw.perm ?_; focus repeat (first | with_reducible exact Perm.refl _ | (with_reducible apply perm_take; focus ((repeat (first | with_reducible exact rem_here | with_reducible apply rem_there)); done)) | with_reducible apply Perm.dropK))
      apply VQ_ret1; exact rfl; exact rfl
      exact ⟨rfl, rfl⟩)
  have hss : sizedE s.sch = true := decide_eq_true (by omega)
  have hfe : formE s.sch = (List.range s.cells.length).all (celOk s.sch) := by
    unfold formE
    rw [hss, e1, decide_eq_true hz.2.2.2.2, Bool.true_and, Bool.true_and]
  have hsb : 1 ≤ s.len ∧ s.len ≤ 512 ∧ 1 ≤ s.off ∧ s.off ≤ 16 := ⟨hz.1, hz.2.1, hz.2.2.1, hz.2.2.2.1⟩
  rw [hfe]
  repeat' (first | ((first | apply VL_calltb en47 | apply VL_callqb en47); (repeat (first | exact args_nil | (apply args_cons; exact rfl))); exact rfl; exact fun _ hw => (rin_spec _ _ _ hw); all_goals (intro hB; (try simp only [decide_eq_true_eq, decide_eq_false_iff_not] at hB); try (exfalso; omega))) | apply (zs1 ?_) | apply (zs2 ?_) | (apply zg1; refine zs4 ?_) | (apply zg2; refine zs6 ?_) | (apply zg3; refine zs7 ?_) | (apply zg4; refine zs9 ?_) | (apply zg6; refine zs12 ?_) | (apply (zs19 ?_ ?_) <;> intro _ <;> try (exfalso; omega)) | (apply zg20; refine zs47 ?_) | (apply zg23; (refine zs52 ?_; intro _)) | apply (zs65 ?_) | apply (zs68 ?_) | apply (zs69 ?_) | apply (zs70 ?_) | (apply zg27; refine zs72 ?_) | apply (zs73 ?_) | apply (zs76 ?_) | fail)
  first | (rename_i g; guard_hyp g : Nat) | (rename_i g _; guard_hyp g : Nat) | (rename_i g _ _; guard_hyp g : Nat)
  refine VC_loop1 (fun (i : Nat) => [(3, .int .i64 i), (1, .pointer (some ⟨g, 0, none⟩))]) (fun _ => blk g (.cells #[.int .i64 s.len, .int .i64 s.off, .slice s.A s.cells.length s.cap] 30 (0, 0)) :: H) (fun i => i ≤ s.cells.length ∧ (List.range i).all (celOk s.sch) = true) (fun i => s.cells.length - i) 0 ⟨Nat.zero_le _, rfl⟩ ?_ (fun w hw => hw) ?_
  · (repeat (first | exact sub_nil _ | (apply sub_cons; first | exact rfl | exact congrArg (fun z : Int => some (Value.int .i64 z)) (by omega))))
  rintro i ⟨hi, hall⟩ K hK
  have hr := hr.cons (X := blk g (.cells #[.int .i64 s.len, .int .i64 s.off, .slice s.A s.cells.length s.cap] 30 (0, 0)))
  by_cases hlt : i < s.cells.length
  · have hget : s.cells[i]? = some (celAt s.sch i) := celAt_some (s := s.sch) hlt
    have hgo : celOk s.sch i = false → (List.range s.cells.length).all (celOk s.sch) = false := fun h => all_range_no hlt h
    have hst : celOk s.sch i = true → (List.range (i + 1)).all (celOk s.sch) = true := fun h => by rw [all_range_step, hall, h]; rfl
    rcases Nat.eq_zero_or_pos i with h0 | h0
    · subst h0
      repeat' (first | ((first | apply VL_calltb en73 | apply VL_callqb en73); (repeat (first | exact args_nil | (apply args_cons; exact rfl))); exact rfl; exact fun _ hw => (rright_spec s _ hsb hw); all_goals (intro hB; (try simp only [decide_eq_true_eq, decide_eq_false_iff_not] at hB); try (exfalso; omega))) | apply (zs1 ?_) | apply (zs2 ?_) | (apply zg1; first | refine zs3 ?_ | refine zs4 ?_) | (apply zg2; refine zs6 ?_) | (apply zg3; first | refine zs7 ?_ | refine zs8 ?_ | refine zs61 ?_) | (apply zg4; refine zs9 ?_) | (apply zg5; refine zs57 ?_) | (apply zg6; first | refine zs11 ?_ | refine zs12 ?_) | (apply (zs17 ?_ ?_) <;> intro _ <;> try (exfalso; omega)) | (apply (zs19 ?_ ?_) <;> intro _ <;> try (exfalso; omega)) | (apply zg13; refine zs30 ?_) | (apply zg20; first | refine zs47 ?_ | refine zs48 ?_) | apply (zs65 ?_) | apply (zs66 ?_) | apply (zs68 ?_) | apply (zs69 ?_) | apply (zs70 ?_) | (apply zg27; first | refine zs71 ?_ | refine zs72 ?_) | apply (zs73 ?_) | apply (zs74 ?_) | apply (zs76 ?_) | apply (zs77 ?_) | apply (zs78 ?_) | apply (zs79 ?_) | (apply zg28; refine zs84 ?_) | fail)
      all_goals first
        | (apply hK (0 + 1)
           · exact ⟨by omega, hst (by simp [celOk, *])⟩
           · omega
           · (repeat (first | exact sub_nil _ | (apply sub_cons; first | exact rfl | exact congrArg (fun z : Int => some (Value.int .i64 z)) (by omega))))
           · (intro w hw; refine hw.perm ?_; focus repeat (first | with_reducible exact Perm.refl _ | (with_reducible apply perm_take; focus ((repeat (first | with_reducible exact rem_here | with_reducible apply rem_there)); done)) | with_reducible apply Perm.dropK))
           done)
        | (apply VQ_st H
           · (intro w hw; refine hw.perm ?_; focus repeat (first | with_reducible exact Perm.refl _ | (with_reducible apply perm_take; focus ((repeat (first | with_reducible exact rem_here | with_reducible apply rem_there)); done)) | with_reducible apply Perm.dropK))
           apply VQ_ret1; exact rfl; exact rfl
           exact ⟨by rw [hgo (by simp [celOk, *])], rfl⟩)
    · have hget2 : s.cells[((i : Int) - 1).toNat]? = some (celAt s.sch (i - 1)) := by
        rw [show ((i : Int) - 1).toNat = i - 1 by omega]
        exact celAt_some (s := s.sch) (show i - 1 < s.cells.length by omega)
      have hi0 : decide (i = 0) = false := decide_eq_false (by omega)
      repeat' (first | ((first | apply VL_calltb en73 | apply VL_callqb en73); (repeat (first | exact args_nil | (apply args_cons; exact rfl))); exact rfl; exact fun _ hw => (rright_spec s _ hsb hw); all_goals (intro hB; (try simp only [decide_eq_true_eq, decide_eq_false_iff_not] at hB); try (exfalso; omega))) | ((first | apply VL_calltb en50 | apply VL_callqb en50); (repeat (first | exact args_nil | (apply args_cons; exact rfl))); exact rfl; exact fun _ hw => (rless_spec _ _ hw); all_goals (intro hB; (try simp only [decide_eq_true_eq, decide_eq_false_iff_not] at hB); try (exfalso; omega))) | apply (zs1 ?_) | apply (zs2 ?_) | (apply zg1; first | refine zs3 ?_ | refine zs4 ?_) | (apply zg2; refine zs6 ?_) | (apply zg3; first | refine zs7 ?_ | refine zs8 ?_ | refine zs61 ?_) | (apply zg4; refine zs9 ?_) | (apply zg5; refine zs57 ?_) | (apply zg6; first | refine zs11 ?_ | refine zs12 ?_) | (apply (zs17 ?_ ?_) <;> intro _ <;> try (exfalso; omega)) | (apply (zs19 ?_ ?_) <;> intro _ <;> try (exfalso; omega)) | (apply zg13; refine zs30 ?_) | (apply zg14; refine zs31 ?_) | (apply zg20; first | refine zs47 ?_ | refine zs48 ?_) | apply (zs65 ?_) | apply (zs66 ?_) | apply (zs68 ?_) | apply (zs69 ?_) | apply (zs70 ?_) | (apply zg27; first | refine zs71 ?_ | refine zs72 ?_) | apply (zs73 ?_) | apply (zs74 ?_) | apply (zs76 ?_) | apply (zs77 ?_) | apply (zs78 ?_) | apply (zs79 ?_) | (apply zg28; refine zs84 ?_) | fail)
      all_goals first
        | (apply hK (i + 1)
           · exact ⟨by omega, hst (by simp [celOk, *])⟩
           · omega
           · (repeat (first | exact sub_nil _ | (apply sub_cons; first | exact rfl | exact congrArg (fun z : Int => some (Value.int .i64 z)) (by omega))))
           · (intro w hw; refine hw.perm ?_; focus repeat (first | with_reducible exact Perm.refl _ | (with_reducible apply perm_take; focus ((repeat (first | with_reducible exact rem_here | with_reducible apply rem_there)); done)) | with_reducible apply Perm.dropK))
           done)
        | (apply VQ_st H
           · (intro w hw; refine hw.perm ?_; focus repeat (first | with_reducible exact Perm.refl _ | (with_reducible apply perm_take; focus ((repeat (first | with_reducible exact rem_here | with_reducible apply rem_there)); done)) | with_reducible apply Perm.dropK))
           apply VQ_ret1; exact rfl; exact rfl
           exact ⟨by rw [hgo (by simp [celOk, *])], rfl⟩)
  · repeat' (first | apply (zs1 ?_) | apply (zs2 ?_) | (apply zg2; refine zs6 ?_) | (apply zg3; refine zs7 ?_) | (apply zg4; refine zs9 ?_) | (apply (zs17 ?_ ?_) <;> intro _ <;> try (exfalso; omega)) | apply (zs65 ?_) | apply (zs68 ?_) | apply (zs69 ?_) | apply (zs70 ?_) | (apply zg27; refine zs72 ?_) | apply (zs74 ?_) | apply (zs75 ?_) | apply (zs80 ?_) | apply (zs81 ?_) | fail)
    apply VQ_st H
    · (intro w hw; refine hw.perm ?_; focus repeat (first | with_reducible exact Perm.refl _ | (with_reducible apply perm_take; focus ((repeat (first | with_reducible exact rem_here | with_reducible apply rem_there)); done)) | with_reducible apply Perm.dropK))
    apply VQ_ret1; exact rfl; exact rfl
    rw [show i = s.cells.length by omega] at hall
    exact ⟨by rw [hall], rfl⟩
end Go.Proofs.YtnkpfpgmbpnbgaaGreatDoor

/- Schedules, plain: what was added is there, and can be removed; a valid schedule has its form. -/
namespace Go.Proofs.YtnkpfpgmbpnbgaaGreatDoor
open Go.RowKit Go.Eng Go.Nw

/-- A flow that is found is one of the list. -/
theorem find_mem {l : List Flw} {id : Int} (h : 0 ≤ findF l id) : ∃ f ∈ l, f.1 = id := by
  unfold findF at h
  have := (idx_any (fun f : Flw => decide (f.1 = id)) l 0 (Int.le_refl _)).1 h
  obtain ⟨f, hf, hp⟩ := List.any_eq_true.1 this
  exact ⟨f, hf, of_decide_eq_true hp⟩
theorem flows_ids {nodes : Int} {l : List Flw} (h : (flowsE nodes l).2 = 0) : ∀ f ∈ l, 0 ≤ f.1 ∧ f.1 ≤ 255 ∧ 1 ≤ f.2.2.2.1 ∧ f.2.2.2.1 ≤ 512 := by
  intro f hf
  obtain ⟨i, hi⟩ := List.mem_iff_getElem?.1 hf
  have hl := (List.getElem?_eq_some_iff.1 hi).1
  unfold flowsE at h
  split at h
  · cases h
  split at h
  · cases h
  have := firstF_ok.1 h i (Nat.zero_le _) (by omega)
  unfold flowAtE at this
  have e : flwAt l i = f := by unfold flwAt; rw [List.getD_eq_getElem?_getD, hi]; rfl
  rw [e] at this
  split at this
  · rename_i h1; exact absurd this h1
  · rename_i h1
    have h2 : flowE nodes f = 0 := Decidable.not_not.1 h1
    unfold flowE at h2
    split at h2
    · cases h2
    split at h2
    · cases h2
    omega
structure Val (n : Net) (l : List Flw) (s : Sch) : Prop where
  whole : wholeE n l s = 0
  cells : (cellsF n l s).2 = 0
  twice : (twiceF s).2 = 0
  dist : (distF n s).2 = 0
theorem whole_ok {n : Net} {l : List Flw} {s : Sch} (h : wholeE n l s = 0) : checkE n = 0 ∧ (flowsE n.nodes l).2 = 0 ∧ sizedE s = true ∧ (∀ f ∈ l, s.len.tmod f.2.2.2.1 = 0) ∧ s.cells.length ≤ 512 := by
  unfold wholeE at h
  by_cases h1 : checkE n = 0
  rotate_left
  · rw [if_pos h1] at h; cases h
  rw [if_neg (fun e => e h1)] at h
  by_cases h2 : (flowsE n.nodes l).2 = 0
  rotate_left
  · rw [if_pos h2] at h; cases h
  rw [if_neg (fun e => e h2)] at h
  cases h3 : sizedE s with
  | false => rw [h3, if_pos rfl] at h; cases h
  | true =>
    rw [h3, if_neg (by decide)] at h
    split at h
    · cases h
    rename_i h4
    split at h
    · cases h
    refine ⟨h1, h2, rfl, fun f hf => ?_, by omega⟩
    have := List.any_eq_false.1 (Bool.eq_false_iff.2 h4) f hf
    simpa using this
theorem Val.frm {n : Net} {l : List Flw} {s : Sch} (h : Val n l s) : Frm s := by
  obtain ⟨h1, h2, h3, h4, h5⟩ := whole_ok h.whole
  have hok := check_ok h1
  have k1 := firstF_ok.1 h.cells
  have hids := flows_ids h2
  have hn := hok.n1
  have hcell : ∀ i, i < s.cells.length → placedE s (celAt s i) = true ∧ goodE n (fromC (celAt s i)) (toC (celAt s i)) = true ∧ 0 ≤ findF l (flowC (celAt s i)) ∧ (0 < i → celLt (celAt s (i - 1)) (celAt s i) = true) := fun i hi => by
    have := k1 i (Nat.zero_le _) (by omega)
    unfold cellF at this
    cases hp : placedE s (celAt s i) with
    | false => rw [hp, if_pos rfl] at this; cases this
    | true =>
      rw [hp, if_neg (by decide)] at this
      split at this
      · cases this
      rename_i h6
      split at this
      · cases this
      rename_i h7
      refine ⟨rfl, ?_, ?_, fun h0 => ?_⟩
      · cases hg : goodE n (fromC (celAt s i)) (toC (celAt s i)) with
        | true => rfl
        | false => exact absurd (.inl hg) h6
      · exact Int.not_lt.1 fun hlt => h6 (.inr hlt)
      · cases hc : celLt (celAt s (i - 1)) (celAt s i) with
        | true => rfl
        | false => exact absurd ⟨h0, hc⟩ h7
  refine ⟨h3, h5, fun c hc => ?_, ?_⟩
  · obtain ⟨i, hi⟩ := List.mem_iff_getElem?.1 hc
    obtain ⟨a1, a2, a3, _⟩ := hcell i (List.getElem?_eq_some_iff.1 hi).1
    rw [celAt_get hi] at a1 a2 a3
    have hg := good_nodes hok a2
    obtain ⟨f, hf, hfe⟩ := find_mem a3
    have hid := hids f hf
    unfold fromC toC flowC at *
    unfold formedE insE
    rw [a1, decide_eq_true (by omega), decide_eq_true (by omega), decide_eq_true (by omega)]
    rfl
  · refine ord_of_steps (lt := celLt) (fun h1 h2 => cel_trans h1 h2) fun i a b ha hb => ?_
    have := (hcell (i + 1) (List.getElem?_eq_some_iff.1 hb).1).2.2.2 (by omega)
    rw [Nat.add_sub_cancel, celAt_get ha, celAt_get hb] at this
    exact this
end Go.Proofs.YtnkpfpgmbpnbgaaGreatDoor

/- Schedules, plain: what is valid, said cell by cell; with fewer cells it stays so. -/
namespace Go.Proofs.YtnkpfpgmbpnbgaaGreatDoor
open Go.RowKit Go.Eng Go.Nw

def cpN (n : Net) (node : Int) (d : Cel) : Int := powN n (fromC d) node + powN n (toC d) node
def sumC (n : Net) (node : Int) (l : List Cel) : Int := (l.map (cpN n node)).sum
theorem sumC_cons (n : Net) (node : Int) (d : Cel) (l : List Cel) : sumC n node (d :: l) = cpN n node d + sumC n node l := by unfold sumC; rw [List.map_cons, List.sum_cons]
theorem sumC_sub {n : Net} (h : Ok n) (node : Int) {l m : List Cel} (hs : l.Sublist m) : sumC n node l ≤ sumC n node m := by
  induction hs with
  | slnil => exact Int.le_refl _
  | @cons l m d _ ih =>
    rw [sumC_cons]
    have h1 := powN_bd h (fromC d) node
    have h2 := powN_bd h (toC d) node
    unfold cpN
    omega
  | cons_cons d _ ih => rw [sumC_cons, sumC_cons]; omega
/-- The disturbance of a cell among cells, at a node. -/
def distS (n : Net) (l : List Cel) (c : Cel) (node : Int) : Int := sumC n node (l.filter fun d => placeB c d && decide (d ≠ c))
def clearB (n : Net) (l : List Cel) (c : Cel) : Bool := heardE n (mar n (findE n (fromC c) (toC c)).toNat) (distS n l c (toC c)) && heardE n (mar n (findE n (toC c) (fromC c)).toNat) (distS n l c (fromC c))
/-- What is valid, cell by cell. -/
structure Sem (n : Net) (l : List Flw) (s : Sch) : Prop where
  ck : checkE n = 0
  fl : (flowsE n.nodes l).2 = 0
  per : ∀ f ∈ l, s.len.tmod f.2.2.2.1 = 0
  frm : Frm s
  good : ∀ c ∈ s.cells, goodE n (fromC c) (toC c) = true ∧ 0 ≤ findF l (flowC c)
  once : s.cells.Pairwise fun a b => a.1 = b.1 → touchE a b = false
  clear : ∀ c ∈ s.cells, clearB n s.cells c = true
theorem heard_less {n : Net} (h : Ok n) {s d e : Int} (he : e ≤ d) (hd : heardE n s d = true) : heardE n s e = true := by
  unfold heardE at hd ⊢
  have h1 := of_decide_eq_true hd
  have h2 := h.t0
  have h3 : n.thr * (n.noise + e) ≤ n.thr * (n.noise + d) := Int.mul_le_mul_of_nonneg_left (by omega) (by omega)
  exact decide_eq_true (by omega)
/-- With fewer cells a valid schedule stays valid. -/
theorem Sem.sub {n : Net} {l : List Flw} {s t : Sch} (h : Sem n l s) (h1 : t.len = s.len) (h2 : t.off = s.off) (hs : t.cells.Sublist s.cells) : Sem n l t := by
  have hok := check_ok h.ck
  have hlen := hs.length_le
  have hfew := h.frm.few
  refine ⟨h.ck, h.fl, by rw [h1]; exact h.per, ⟨?_, by omega, fun c hc => ?_, h.frm.ord.sublist hs⟩, fun c hc => h.good c (hs.subset hc), h.once.sublist hs, fun c hc => ?_⟩
  · have := h.frm.sized
    unfold sizedE at this ⊢
    rw [h1, h2]; exact this
  · have := h.frm.formed c (hs.subset hc)
    unfold formedE placedE at this ⊢
    rw [h1, h2]; exact this
  · have := h.clear c (hs.subset hc)
    unfold clearB at this ⊢
    simp only [Bool.and_eq_true] at this ⊢
    have hd : ∀ node, distS n t.cells c node ≤ distS n s.cells c node := fun node => sumC_sub hok node (hs.filter _)
    exact ⟨heard_less hok (hd _) this.1, heard_less hok (hd _) this.2⟩
end Go.Proofs.YtnkpfpgmbpnbgaaGreatDoor

/- Schedules, plain: a schedule several times is valid exactly if it is, and has the same cells in each slot. -/
namespace Go.Proofs.YtnkpfpgmbpnbgaaGreatDoor
open Go.RowKit Go.Eng Go.Nw

def GoodS (n : Net) (l : List Flw) (s : Sch) : Prop := ∀ c ∈ s.cells, goodE n (fromC c) (toC c) = true ∧ 0 ≤ findF l (flowC c)
def OnceS (s : Sch) : Prop := s.cells.Pairwise fun a b => a.1 = b.1 → touchE a b = false
def ClearS (n : Net) (s : Sch) : Prop := ∀ c ∈ s.cells, clearB n s.cells c = true
theorem rep_succ (s : Sch) (k : Nat) : repC s (k + 1) = repC s k ++ s.cells.map (movC ((k : Int) * s.len)) := by
  unfold repC
  rw [List.range_succ, List.flatMap_append]
  simp
theorem rep_len (s : Sch) : ∀ k, (repC s k).length = k * s.cells.length
  | 0 => by simp [repC]
  | k + 1 => by rw [rep_succ, List.length_append, rep_len s k, List.length_map, Nat.succ_mul]
theorem rep_mem {s : Sch} {k : Nat} {x : Cel} : x ∈ repC s k ↔ ∃ i, i < k ∧ ∃ c ∈ s.cells, x = movC ((i : Int) * s.len) c := by
  unfold repC
  simp only [List.mem_flatMap, List.mem_range, List.mem_map]
  constructor
  · rintro ⟨i, hi, c, hc, rfl⟩; exact ⟨i, hi, c, hc, rfl⟩
  · rintro ⟨i, hi, c, hc, rfl⟩; exact ⟨i, hi, c, hc, rfl⟩
theorem mov_lt (d : Int) (a b : Cel) : celLt (movC d a) (movC d b) = celLt a b := by
  unfold celLt movC nums
  simp only [lexLt]
  by_cases h : a.1 = b.1
  · rw [if_neg (show ¬ (a.1 + d ≠ b.1 + d) by omega), if_neg (show ¬ a.1 ≠ b.1 by omega)]
  · rw [if_pos (show a.1 + d ≠ b.1 + d by omega), if_pos h, decide_eq_decide]
    omega
theorem lt_slot {a b : Cel} (h : a.1 < b.1) : celLt a b = true := by
  unfold celLt nums
  simp only [lexLt]
  rw [if_pos (by omega)]
  exact decide_eq_true h
theorem mul_step {i j : Nat} {L : Int} (hL : 0 ≤ L) (h : i < j) : (i : Int) * L + L ≤ (j : Int) * L := by
  have h1 : ((i : Int) + 1) * L ≤ (j : Int) * L := Int.mul_le_mul_of_nonneg_right (by omega) hL
  rw [Int.add_mul] at h1
  omega
theorem slot_bd {s : Sch} (hf : Frm s) {c : Cel} (hc : c ∈ s.cells) : 0 ≤ c.1 ∧ c.1 < s.len := by
  have := hf.formed c hc
  unfold formedE placedE insE at this
  simp only [Bool.and_eq_true, decide_eq_true_eq] at this
  exact this.1.1.1.1
/-- Slots of different copies differ. -/
theorem slot_copy {s : Sch} (hf : Frm s) {c d : Cel} (hc : c ∈ s.cells) (hd : d ∈ s.cells) {i j : Nat} (h : c.1 + (i : Int) * s.len = d.1 + (j : Int) * s.len) : i = j ∧ c.1 = d.1 := by
  have h1 := slot_bd hf hc
  have h2 := slot_bd hf hd
  rcases Nat.lt_trichotomy i j with h3 | h3 | h3
  · have := mul_step (L := s.len) (by omega) h3; omega
  · subst h3; exact ⟨rfl, by omega⟩
  · have := mul_step (L := s.len) (by omega) h3; omega
theorem rep_ord {s : Sch} (hf : Frm s) (k : Nat) : Ord (repC s k) := by
  unfold repC
  refine List.pairwise_flatMap.2 ⟨fun i _ => ?_, ?_⟩
  · rw [List.pairwise_map]
    exact hf.ord.imp fun {a b} h => by rw [mov_lt]; exact h
  · refine List.pairwise_lt_range.imp fun {i j} hij x hx y hy => ?_
    obtain ⟨a, ha, rfl⟩ := List.mem_map.1 hx
    obtain ⟨b, hb, rfl⟩ := List.mem_map.1 hy
    have h1 := slot_bd hf ha
    have h2 := slot_bd hf hb
    have h3 := mul_step (L := s.len) (by omega) hij
    refine lt_slot ?_
    show a.1 + (i : Int) * s.len < b.1 + (j : Int) * s.len
    omega
structure Rep (s t : Sch) (k : Nat) : Prop where
  k1 : 1 ≤ k
  frm : Frm s
  len : t.len = s.len * k
  off : t.off = s.off
  cells : t.cells = repC s k
  l512 : s.len * k ≤ 512
  c512 : s.cells.length * k ≤ 512
theorem rep_of {s t : Sch} {times : Int} (h : repE s times = (t, 0)) : Rep s t times.toNat := by
  unfold repE at h
  split at h
  · injection h with _ h; cases h
  rename_i h1
  split at h
  · injection h with _ h; cases h
  rename_i h2
  split at h
  · injection h with _ h; cases h
  rename_i h3
  injection h with h _
  subst h
  have ht : ((times.toNat : Nat) : Int) = times := by omega
  refine ⟨by omega, form_iff.1 (by simpa using h1), by simp only; rw [ht], rfl, rfl, by rw [ht]; omega, ?_⟩
  have h4 : (s.cells.length : Int) * times ≤ 512 := by omega
  rw [← ht] at h4
  have : ((s.cells.length * times.toNat : Nat) : Int) ≤ 512 := by rw [Int.natCast_mul]; exact h4
  omega
theorem Rep.frmT {s t : Sch} {k : Nat} (h : Rep s t k) : Frm t := by
  have hs := h.frm.sized
  unfold sizedE at hs
  have hs := of_decide_eq_true hs
  have hL : s.len ≤ s.len * k := by
    have := Int.mul_le_mul_of_nonneg_left (a := 1) (b := (k : Int)) (c := s.len) (by have := h.k1; omega) (by omega)
    omega
  refine ⟨?_, ?_, fun x hx => ?_, by rw [h.cells]; exact rep_ord h.frm k⟩
  · unfold sizedE
    rw [h.len, h.off]
    have := h.l512
    exact decide_eq_true (by omega)
  · rw [h.cells, rep_len, Nat.mul_comm]; exact h.c512
  · rw [h.cells] at hx
    obtain ⟨i, hi, c, hc, rfl⟩ := rep_mem.1 hx
    have h1 := h.frm.formed c hc
    have h2 := slot_bd h.frm hc
    have h3 := mul_step (L := s.len) (by omega) hi
    have h4 : 0 ≤ (i : Int) * s.len := Int.mul_nonneg (by omega) (by omega)
    unfold formedE placedE insE at h1 ⊢
    simp only [Bool.and_eq_true, decide_eq_true_eq] at h1 ⊢
    rw [h.len, h.off, Int.mul_comm s.len]
    simp only [movC]
    omega
/-- Of the copies just one fits. -/
theorem rep_filter {s : Sch} {p q : Cel → Bool} {j0 : Nat} (hq : ∀ d ∈ s.cells, p (movC ((j0 : Int) * s.len) d) = q d) : ∀ {m : Nat}, (∀ j, j < m → j ≠ j0 → ∀ d ∈ s.cells, p (movC ((j : Int) * s.len) d) = false) → (repC s m).filter p = if j0 < m then (s.cells.filter q).map (movC ((j0 : Int) * s.len)) else []
  | 0, _ => by simp [repC]
  | m + 1, h => by
    rw [rep_succ, List.filter_append, rep_filter hq fun j hj => h j (by omega), List.filter_map]
    by_cases e : m = j0
    · subst e
      rw [if_neg (by omega), if_pos (by omega), List.nil_append]
      congr 1
      exact List.filter_congr fun d hd => hq d hd
    · have hz : s.cells.filter (p ∘ movC ((m : Int) * s.len)) = [] := by
        rw [List.filter_eq_nil_iff]
        intro d hd
        show ¬ p (movC ((m : Int) * s.len) d) = true
        rw [h m (by omega) e d hd]; simp
      rw [hz, List.map_nil, List.append_nil]
      by_cases h2 : j0 < m
      · rw [if_pos h2, if_pos (by omega)]
      · rw [if_neg h2, if_neg (by omega)]
theorem sum_mov (n : Net) (node d : Int) (l : List Cel) : sumC n node (l.map (movC d)) = sumC n node l := by
  unfold sumC
  rw [List.map_map]
  rfl
theorem Rep.dist {s t : Sch} {k : Nat} (h : Rep s t k) (n : Net) {i : Nat} (hi : i < k) {c : Cel} (hc : c ∈ s.cells) (node : Int) : distS n t.cells (movC ((i : Int) * s.len) c) node = distS n s.cells c node := by
  unfold distS
  rw [h.cells, rep_filter (j0 := i) (q := fun d => placeB c d && decide (d ≠ c)), if_pos hi, sum_mov]
  · intro d hd
    have h2 : (movC ((i : Int) * s.len) d ≠ movC ((i : Int) * s.len) c) ↔ d ≠ c := by
      constructor
      · intro h3 e; subst e; exact h3 rfl
      · intro h3 e
        apply h3
        obtain ⟨d1, d2⟩ := d
        obtain ⟨c1, c2⟩ := c
        unfold movC at e
        injection e with e1 e2
        simp only at e1 e2
        subst e2
        have : d1 = c1 := by omega
        rw [this]
    show (placeB _ _ && decide _) = (placeB _ _ && decide _)
    rw [decide_eq_decide.2 h2]
    congr 1
    unfold placeB movC
    rw [decide_eq_decide]
    simp only
    omega
  · intro j hj hne d hd
    have : placeB (movC ((i : Int) * s.len) c) (movC ((j : Int) * s.len) d) = false := by
      unfold placeB movC
      refine decide_eq_false ?_
      rintro ⟨h3, _⟩
      exact hne (slot_copy h.frm hd hc h3).1
    rw [this]; rfl
theorem Rep.good {s t : Sch} {k : Nat} (h : Rep s t k) (n : Net) (l : List Flw) : GoodS n l t ↔ GoodS n l s := by
  unfold GoodS
  rw [h.cells]
  constructor
  · intro hg c hc
    exact hg (movC (((0 : Nat) : Int) * s.len) c) (rep_mem.2 ⟨0, h.k1, c, hc, rfl⟩)
  · intro hg x hx
    obtain ⟨i, _, c, hc, rfl⟩ := rep_mem.1 hx
    exact hg c hc
theorem Rep.once {s t : Sch} {k : Nat} (h : Rep s t k) : OnceS t ↔ OnceS s := by
  unfold OnceS
  rw [h.cells]
  unfold repC
  rw [List.pairwise_flatMap]
  constructor
  · rintro ⟨h1, _⟩
    have := h1 0 (List.mem_range.2 h.k1)
    rw [List.pairwise_map] at this
    exact this.imp fun {a b} hab e => hab (by simp only [movC]; omega)
  · intro ho
    refine ⟨fun i _ => ?_, ?_⟩
    · rw [List.pairwise_map]
      exact ho.imp fun {a b} hab e => hab (by simp only [movC] at e; omega)
    · refine List.pairwise_lt_range.imp fun {i j} hij x hx y hy e => ?_
      obtain ⟨a, ha, rfl⟩ := List.mem_map.1 hx
      obtain ⟨b, hb, rfl⟩ := List.mem_map.1 hy
      have := (slot_copy h.frm ha hb e).1
      omega
theorem Rep.clear {s t : Sch} {k : Nat} (h : Rep s t k) (n : Net) : ClearS n t ↔ ClearS n s := by
  have hc : ∀ i, i < k → ∀ c ∈ s.cells, clearB n t.cells (movC ((i : Int) * s.len) c) = clearB n s.cells c := fun i hi c hc => by
    unfold clearB
    have e1 : fromC (movC ((i : Int) * s.len) c) = fromC c := rfl
    have e2 : toC (movC ((i : Int) * s.len) c) = toC c := rfl
    rw [e1, e2, h.dist n hi hc, h.dist n hi hc]
  unfold ClearS
  constructor
  · intro hg c hcm
    rw [← hc 0 h.k1 c hcm]
    exact hg _ (by rw [h.cells]; exact rep_mem.2 ⟨0, h.k1, c, hcm, rfl⟩)
  · intro hg x hx
    rw [h.cells] at hx
    obtain ⟨i, hi, c, hcm, rfl⟩ := rep_mem.1 hx
    rw [hc i hi c hcm]
    exact hg c hcm
end Go.Proofs.YtnkpfpgmbpnbgaaGreatDoor

/- Walks: Repeat, of the program. -/
namespace Go.Proofs.YtnkpfpgmbpnbgaaGreatDoor
open Go.RowKit Go.Eng Go.Nw

theorem quo_mul {l t : Int} (h1 : 1 ≤ l) : 512 / l < t ↔ 512 < l * t := by
  rw [Int.ediv_lt_iff_lt_mul (by omega), Int.mul_comm]
theorem rep_part (s : Sch) (i k : Nat) (h : k < s.cells.length) : (s.cells.take (k + 1)).map (movC ((i : Int) * s.len)) = (s.cells.take k).map (movC ((i : Int) * s.len)) ++ [movC ((i : Int) * s.len) (celAt s k)] := by
  rw [List.take_add_one, celAt_some h, Option.toList_some, List.map_append]; rfl
theorem rep_le {s : Sch} {i k t : Nat} (hi : i < t) (hk : k ≤ s.cells.length) : (repC s i ++ (s.cells.take k).map (movC ((i : Int) * s.len))).length ≤ t * s.cells.length := by
  rw [List.length_append, rep_len, List.length_map, List.length_take]
  have h1 : (i + 1) * s.cells.length ≤ t * s.cells.length := Nat.mul_le_mul_right _ hi
  rw [Nat.add_mul] at h1
  omega
set_option maxRecDepth 10000 in
set_option maxHeartbeats 2000000 in
theorem repeat_spec (s : SchM) (times : Int) {B : Nat} {w0 : World} {H : List HP} {w : World} (hr : Rd B w0 H s.A (s.cells.flatMap celF)) (hl : s.cells.length ≤ 1000000000000) (hw : St B w0 H w) :
    Calls Tryz.prog 21 [s.val, .int .i64 times].toArray w (Post B w0 (OutS H (repE s.sch times))) := by
  refine Calls_of_VC Tryz.func21 Tryz.ntmps21 rfl rfl hw ?_
  have e1 : s.sch.cells = s.cells := rfl
  have e2 : s.sch.len = s.len := rfl
  cases hf : formE s.sch with
  | false =>
    repeat' (first | ((first | apply VL_callt en53 | apply VL_callq en53); (repeat (first | exact args_nil | (apply args_cons; exact rfl))); exact rfl; exact fun _ hw => (calls_val (congrArg Value.bool hf) (fun _ hw => form_spec s hr.cons.cons hl hw) hw)) | apply (zs2 ?_) | (apply zg3; refine zs8 ?_) | (apply zg20; refine zs48 ?_) | (apply zg22; refine zs51 ?_) | (apply zg23; (refine zs52 ?_; intro _)) | (apply zg24; (refine zs54 ?_; intro _)) | (apply zg25; refine zs55 ?_) | apply (zs65 ?_) | apply (zs68 ?_) | apply (zs69 ?_) | apply (zs70 ?_) | (apply zg27; refine zs71 ?_) | apply (zs73 ?_) | apply (zs74 ?_) | apply (zs77 ?_) | apply (zs78 ?_) | fail)
    apply VQ_retc2 T (H2 := cels none 0 [] :: H); exact rfl; exact rfl; exact rfl; (focus repeat (first | with_reducible exact List.mem_cons_self | with_reducible apply List.mem_cons_of_mem | assumption)); exact rfl; exact rfl; (intro w hw; refine St.nilSlice (H := H) ?_ _ _; revert w; (intro w hw; refine hw.perm ?_; focus repeat (first | with_reducible exact Perm.refl _ | (with_reducible apply perm_take; focus ((repeat (first | with_reducible exact rem_here | with_reducible apply rem_there)); done)) | with_reducible apply Perm.dropK)))
    exact outS_no 1 (by rw [repE, if_pos hf]) rfl
  | true =>
    have hfr := form_iff.1 hf
    have hle : s.cells.length ≤ 512 := hfr.few
    have hsz := of_decide_eq_true hfr.sized
    have hsl : 1 ≤ s.len ∧ s.len ≤ 512 := ⟨hsz.1, hsz.2.1⟩
    have hqm := quo_mul (l := s.len) (t := times) hsl.1
    have hff := fun {H' : List HP} {w : World} (hr : Rd B w0 H' s.A (s.cells.flatMap celF)) (hw : St B w0 H' w) => calls_val (congrArg Value.bool hf) (fun _ hw => form_spec s hr hl hw) hw
    by_cases h1 : times < 1 ∨ 512 < s.len * times
    · skip
      repeat' (first | ((first | apply VL_callt en53 | apply VL_callq en53); (repeat (first | exact args_nil | (apply args_cons; exact rfl))); exact rfl; exact fun _ hw => (hff hr.cons.cons hw)) | apply (zs1 ?_) | apply (zs2 ?_) | (apply zg1; first | refine zs3 ?_ | refine zs4 ?_) | (apply zg2; refine zs6 ?_) | (apply zg3; first | refine zs7 ?_ | refine zs8 ?_) | (apply zg6; first | refine zs11 ?_ | refine zs12 ?_) | (apply (zs17 ?_ ?_) <;> intro _ <;> try (exfalso; omega)) | (apply (zs19 ?_ ?_) <;> intro _ <;> try (exfalso; omega)) | (apply zg16; refine zs36 ?_) | (apply zg20; refine zs47 ?_) | (apply zg22; refine zs51 ?_) | (apply zg23; (refine zs52 ?_; intro _)) | (apply zg24; (refine zs54 ?_; intro _)) | (apply zg25; refine zs55 ?_) | apply (zs65 ?_) | apply (zs68 ?_) | apply (zs69 ?_) | apply (zs70 ?_) | (apply zg27; first | refine zs71 ?_ | refine zs72 ?_) | apply (zs73 ?_) | apply (zs74 ?_) | apply (zs77 ?_) | apply (zs78 ?_) | fail)
      all_goals (
        apply VQ_retc2 T (H2 := cels none 0 [] :: H); exact rfl; exact rfl; exact rfl; (focus repeat (first | with_reducible exact List.mem_cons_self | with_reducible apply List.mem_cons_of_mem | assumption)); exact rfl; exact rfl; (intro w hw; refine St.nilSlice (H := H) ?_ _ _; revert w; (intro w hw; refine hw.perm ?_; focus repeat (first | with_reducible exact Perm.refl _ | (with_reducible apply perm_take; focus ((repeat (first | with_reducible exact rem_here | with_reducible apply rem_there)); done)) | with_reducible apply Perm.dropK)))
        exact outS_no 2 (by rw [repE, if_neg (by simp [hf])]; exact if_pos h1) rfl)
    have ht1 : 1 ≤ times ∧ s.len * times ≤ 512 := by omega
    have ht2 : times ≤ 512 := by
      have : 1 * times ≤ s.len * times := Int.mul_le_mul_of_nonneg_right hsl.1 (by omega)
      omega
    have hcb := mul_bd (a := (s.cells.length : Int)) (b := times) (by omega) (by omega) (by omega) (by omega)
    by_cases h2 : 512 < (s.cells.length : Int) * times
    · skip
      repeat' (first | ((first | apply VL_callt en53 | apply VL_callq en53); (repeat (first | exact args_nil | (apply args_cons; exact rfl))); exact rfl; exact fun _ hw => (hff hr.cons.cons hw)) | apply (zs1 ?_) | apply (zs2 ?_) | (apply zg1; refine zs4 ?_) | (apply zg2; refine zs6 ?_) | (apply zg3; first | refine zs7 ?_ | refine zs8 ?_) | (apply zg4; refine zs9 ?_) | (apply zg6; refine zs12 ?_) | (apply (zs17 ?_ ?_) <;> intro _ <;> try (exfalso; omega)) | (apply (zs19 ?_ ?_) <;> intro _ <;> try (exfalso; omega)) | (apply zg15; refine zs32 ?_) | (apply zg16; refine zs36 ?_) | (apply zg20; refine zs47 ?_) | (apply zg22; refine zs51 ?_) | (apply zg23; (refine zs52 ?_; intro _)) | (apply zg24; (refine zs54 ?_; intro _)) | (apply zg25; refine zs55 ?_) | apply (zs65 ?_) | apply (zs68 ?_) | apply (zs69 ?_) | apply (zs70 ?_) | (apply zg27; first | refine zs71 ?_ | refine zs72 ?_) | apply (zs73 ?_) | apply (zs74 ?_) | apply (zs77 ?_) | apply (zs78 ?_) | fail)
      all_goals (
        apply VQ_retc2 T (H2 := cels none 0 [] :: H); exact rfl; exact rfl; exact rfl; (focus repeat (first | with_reducible exact List.mem_cons_self | with_reducible apply List.mem_cons_of_mem | assumption)); exact rfl; exact rfl; (intro w hw; refine St.nilSlice (H := H) ?_ _ _; revert w; (intro w hw; refine hw.perm ?_; focus repeat (first | with_reducible exact Perm.refl _ | (with_reducible apply perm_take; focus ((repeat (first | with_reducible exact rem_here | with_reducible apply rem_there)); done)) | with_reducible apply Perm.dropK)))
        exact outS_no 8 (by rw [repE, if_neg (by simp [hf])]; exact (if_neg h1).trans (if_pos h2)) rfl)
    repeat' (first | ((first | apply VL_callt en53 | apply VL_callq en53); (repeat (first | exact args_nil | (apply args_cons; exact rfl))); exact rfl; exact fun _ hw => (hff hr.cons.cons hw)) | apply (zs1 ?_) | apply (zs2 ?_) | (apply zg1; refine zs4 ?_) | (apply zg2; refine zs6 ?_) | (apply zg3; first | refine zs7 ?_ | refine zs8 ?_) | (apply zg4; refine zs9 ?_) | (apply zg6; refine zs12 ?_) | (apply (zs17 ?_ ?_) <;> intro _ <;> try (exfalso; omega)) | (apply (zs19 ?_ ?_) <;> intro _ <;> try (exfalso; omega)) | (apply zg15; refine zs32 ?_) | (apply zg16; refine zs36 ?_) | (apply zg20; refine zs47 ?_) | (apply zg22; refine zs51 ?_) | (apply zg23; (refine zs52 ?_; intro _)) | (apply zg24; (refine zs54 ?_; intro _)) | (apply zg25; refine zs55 ?_) | apply (zs65 ?_) | apply (zs68 ?_) | apply (zs69 ?_) | apply (zs70 ?_) | (apply zg27; refine zs72 ?_) | apply (zs73 ?_) | apply (zs76 ?_) | apply (zs79 ?_) | fail)
    rename_i gs gr _ _ _ gO
    obtain ⟨TL, hTL⟩ : ∃ TL, s.len * times = TL := ⟨_, rfl⟩
    rw [hTL]
    have hres : repE s.sch times = (⟨TL, s.off, repC s.sch times.toNat⟩, 0) := by
      rw [repE, if_neg (by simp [hf])]
      refine (if_neg h1).trans ((if_neg h2).trans ?_)
      rw [e2, hTL]; rfl
    refine VC_loop1 (fun (z : Nat × Option Addr × Nat) => [(42, .int .i64 z.1), (41, .int .i64 times), (2, .pointer (some ⟨gs, 0, none⟩)), (4, .pointer (some ⟨gr, 0, none⟩)), (6, .pointer (some ⟨gO, 0, none⟩))])
      (fun z => cels z.2.1 z.2.2 (repC s.sch z.1) :: blk gO (.cells #[.int .i64 TL, .int .i64 s.off, .slice z.2.1 (repC s.sch z.1).length z.2.2] 30 (0, 0)) :: blk gr (.cells #[.int .i64 0, .int .i64 0, .slice none 0 0] 30 (0, 0)) :: blk gs (.cells #[.int .i64 s.len, .int .i64 s.off, .slice s.A s.cells.length s.cap] 30 (0, 0)) :: H)
      (fun z => (z.1 : Int) ≤ times) (fun z => times.toNat - z.1) (0, none, 0) (by show ((0 : Nat) : Int) ≤ times; omega) ?_ (fun w hw => ?_) ?_
    · (repeat (first | exact sub_nil _ | (apply sub_cons; first | exact rfl | exact congrArg (fun z : Int => some (Value.int .i64 z)) (by omega))))
    · exact hw.nilSlice _ _
    rintro ⟨i, A, cap⟩ hi K hK
    dsimp only at hi ⊢
    by_cases hlt : (i : Int) < times
    · have hil : 0 ≤ (i : Int) * s.len ∧ (i : Int) * s.len ≤ 512 * 512 := ⟨Int.mul_nonneg (by omega) (by omega), Int.mul_le_mul (by omega) (by omega) (by omega) (by omega)⟩
      repeat' (first | apply (zs1 ?_) | apply (zs2 ?_) | (apply zg2; refine zs6 ?_) | (apply zg3; refine zs7 ?_) | (apply zg4; refine zs9 ?_) | (apply (zs17 ?_ ?_) <;> intro _ <;> try (exfalso; omega)) | apply (zs65 ?_) | apply (zs68 ?_) | apply (zs69 ?_) | apply (zs70 ?_) | (apply zg27; refine zs71 ?_) | apply (zs73 ?_) | apply (zs76 ?_) | fail)
      refine VC_loop1 (fun (z : Nat × Option Addr × Nat) => [(48, .int .i64 z.1), (47, .int .i64 s.cells.length), (46, .slice s.A s.cells.length s.cap), (7, .int .i64 i), (42, .int .i64 i), (41, .int .i64 times), (2, .pointer (some ⟨gs, 0, none⟩)), (4, .pointer (some ⟨gr, 0, none⟩)), (6, .pointer (some ⟨gO, 0, none⟩))])
        (fun z => cels z.2.1 z.2.2 (repC s.sch i ++ (s.cells.take z.1).map (movC ((i : Int) * s.len))) :: blk gO (.cells #[.int .i64 TL, .int .i64 s.off, .slice z.2.1 (repC s.sch i ++ (s.cells.take z.1).map (movC ((i : Int) * s.len))).length z.2.2] 30 (0, 0)) :: blk gr (.cells #[.int .i64 0, .int .i64 0, .slice none 0 0] 30 (0, 0)) :: blk gs (.cells #[.int .i64 s.len, .int .i64 s.off, .slice s.A s.cells.length s.cap] 30 (0, 0)) :: H)
        (fun z => z.1 ≤ s.cells.length) (fun z => s.cells.length - z.1) (0, A, cap) (Nat.zero_le _) ?_ (fun w hw => ?_) ?_
      · (repeat (first | exact sub_nil _ | (apply sub_cons; first | exact rfl | exact congrArg (fun z : Int => some (Value.int .i64 z)) (by omega))))
      · dsimp only
        rw [List.take_zero, List.map_nil, List.append_nil]
        exact hw
      rintro ⟨k, A1, cap1⟩ hk K2 hK2
      dsimp only at hk ⊢
      by_cases hkl : k < s.cells.length
      · have hget : s.cells[k]? = some (celAt s.sch k) := celAt_some (s := s.sch) hkl
        have hcb := slot_bd hfr (celAt_mem (s := s.sch) hkl)
        rw [e2] at hcb
        have hml := rep_le (s := s.sch) (i := i) (k := k) (t := times.toNat) (by omega) hk
        have hmt : times.toNat * s.cells.length ≤ 512 := by
          have : ((times.toNat * s.cells.length : Nat) : Int) ≤ 512 := by
            rw [Int.natCast_mul, show ((times.toNat : Nat) : Int) = times by omega, Int.mul_comm]; omega
          exact Int.ofNat_le.1 this
        have hst := rep_part s.sch i k hkl
        rw [e1, e2] at hst hml
        obtain ⟨M, hM⟩ : ∃ M, repC s.sch i ++ (s.cells.take k).map (movC ((i : Int) * s.len)) = M := ⟨_, rfl⟩
        rw [hM] at hml ⊢
        unfold cels
        repeat' (first | apply (zs1 ?_) | (apply zg2; refine zs6 ?_) | (apply zg3; first | refine zs7 ?_ | refine zs8 ?_ | refine zs61 ?_) | (apply zg5; refine zs57 ?_) | (apply (zs17 ?_ ?_) <;> intro _ <;> try (exfalso; omega)) | (apply zg13; refine zs30 ?_) | (apply zg15; refine zs32 ?_) | (apply zg21; (refine zs49 ?_; intro _ _)) | (apply zg22; first | refine zs50 ?_ | refine zs51 ?_) | (apply zg24; (refine zs54 ?_; intro _)) | (apply zg26; (refine zs56 ?_; intro _)) | apply (zs65 ?_) | apply (zs68 ?_) | apply (zs69 ?_) | apply (zs70 ?_) | (apply zg27; refine zs71 ?_) | apply (zs73 ?_) | apply (zs76 ?_) | apply (zs79 ?_) | fail)
        rename_i A' cap'
        apply hK2 (k + 1, A', cap')
        · show k + 1 ≤ _
          omega
        · show _ - (k + 1) < _ - k
          omega
        · (repeat (first | exact sub_nil _ | (apply sub_cons; first | exact rfl | exact congrArg (fun z : Int => some (Value.int .i64 z)) (by omega))))
        · intro w hw
          dsimp only
          rw [hst, ← List.append_assoc, hM]
          have e6 := cels_snocR A' cap' M (movC ((i : Int) * s.len) (celAt s.sch k))
          unfold movC at e6
          dsimp only at e6
          rw [e6] at hw
          rw [List.length_append]
          unfold movC
          dsimp only [List.length_singleton]
          revert w
          (intro w hw; refine hw.perm ?_; focus repeat (first | with_reducible exact Perm.refl _ | (with_reducible apply perm_take; focus ((repeat (first | with_reducible exact rem_here | with_reducible apply rem_there)); done)) | with_reducible apply Perm.dropK))
      · obtain rfl : k = s.cells.length := by omega
        rw [List.take_length, show repC s.sch i ++ s.cells.map (movC ((i : Int) * s.len)) = repC s.sch (i + 1) from (rep_succ s.sch i).symm]
        repeat' (first | apply (zs1 ?_) | (apply (zs17 ?_ ?_) <;> intro _ <;> try (exfalso; omega)) | (apply zg13; refine zs30 ?_) | apply (zs65 ?_) | apply (zs68 ?_) | apply (zs69 ?_) | apply (zs70 ?_) | (apply zg27; refine zs72 ?_) | apply (zs75 ?_) | apply (zs79 ?_) | apply (zs80 ?_) | apply (zs81 ?_) | fail)
        apply hK (i + 1, A1, cap1)
        · show ((i + 1 : Nat) : Int) ≤ times
          omega
        · show times.toNat - (i + 1) < times.toNat - i
          omega
        · (repeat (first | exact sub_nil _ | (apply sub_cons; first | exact rfl | exact congrArg (fun z : Int => some (Value.int .i64 z)) (by omega))))
        · exact fun w hw => hw
    · repeat' (first | apply (zs2 ?_) | (apply zg3; refine zs8 ?_) | (apply (zs17 ?_ ?_) <;> intro _ <;> try (exfalso; omega)) | (apply zg22; refine zs51 ?_) | apply (zs65 ?_) | apply (zs68 ?_) | apply (zs69 ?_) | apply (zs70 ?_) | (apply zg27; refine zs72 ?_) | apply (zs74 ?_) | apply (zs75 ?_) | apply (zs80 ?_) | apply (zs81 ?_) | fail)
      obtain rfl : i = times.toNat := by omega
      apply VQ_retc2 T (H2 := cels A cap (repC s.sch times.toNat) :: H); exact rfl; exact rfl; exact rfl; (focus repeat (first | with_reducible exact List.mem_cons_self | with_reducible apply List.mem_cons_of_mem | assumption)); exact rfl; exact rfl; (intro w hw; refine hw.perm ?_; focus repeat (first | with_reducible exact Perm.refl _ | (with_reducible apply perm_take; focus ((repeat (first | with_reducible exact rem_here | with_reducible apply rem_there)); done)) | with_reducible apply Perm.dropK))
      refine ⟨A, cap, ?_, ?_⟩
      · rw [hres]
      · rw [hres]
end Go.Proofs.YtnkpfpgmbpnbgaaGreatDoor

/- Walks: the reference's Repeat. -/
namespace Go.Proofs.YtnkpfpgmbpnbgaaGreatDoor
open Go.RowKit Go.Eng Go.Nw

set_option maxRecDepth 10000 in
set_option maxHeartbeats 2000000 in
theorem rrepeat_spec (s : SchM) (times : Int) {B : Nat} {w0 : World} {H : List HP} {w : World} (hr : Rd B w0 H s.A (s.cells.flatMap celF)) (hl : s.cells.length ≤ 1000000000000) (hw : St B w0 H w) :
    Calls Tryz.prog 22 [s.val, .int .i64 times].toArray w (Post B w0 (OutS H (repE s.sch times))) := by
  refine Calls_of_VC Tryz.func22 Tryz.ntmps22 rfl rfl hw ?_
  have e1 : s.sch.cells = s.cells := rfl
  have e2 : s.sch.len = s.len := rfl
  cases hf : formE s.sch with
  | false =>
    repeat' (first | ((first | apply VL_callt en58 | apply VL_callq en58); (repeat (first | exact args_nil | (apply args_cons; exact rfl))); exact rfl; exact fun _ hw => (calls_val (congrArg Value.bool hf) (fun _ hw => rformed_spec s hr.cons.cons hl hw) hw)) | apply (zs2 ?_) | (apply zg3; refine zs8 ?_) | (apply zg20; refine zs48 ?_) | (apply zg22; refine zs51 ?_) | (apply zg23; (refine zs52 ?_; intro _)) | (apply zg24; (refine zs54 ?_; intro _)) | (apply zg25; refine zs55 ?_) | apply (zs65 ?_) | apply (zs68 ?_) | apply (zs69 ?_) | apply (zs70 ?_) | (apply zg27; refine zs71 ?_) | apply (zs74 ?_) | apply (zs77 ?_) | fail)
    apply VQ_retc2 T (H2 := cels none 0 [] :: H); exact rfl; exact rfl; exact rfl; (focus repeat (first | with_reducible exact List.mem_cons_self | with_reducible apply List.mem_cons_of_mem | assumption)); exact rfl; exact rfl; (intro w hw; refine St.nilSlice (H := H) ?_ _ _; revert w; (intro w hw; refine hw.perm ?_; focus repeat (first | with_reducible exact Perm.refl _ | (with_reducible apply perm_take; focus ((repeat (first | with_reducible exact rem_here | with_reducible apply rem_there)); done)) | with_reducible apply Perm.dropK)))
    exact outS_no 1 (by rw [repE, if_pos hf]) rfl
  | true =>
    have hfr := form_iff.1 hf
    have hle : s.cells.length ≤ 512 := hfr.few
    have hsz := of_decide_eq_true hfr.sized
    have hsl : 1 ≤ s.len ∧ s.len ≤ 512 := ⟨hsz.1, hsz.2.1⟩
    have hff := fun {H' : List HP} {w : World} (hr : Rd B w0 H' s.A (s.cells.flatMap celF)) (hw : St B w0 H' w) => calls_val (congrArg Value.bool hf) (fun _ hw => rformed_spec s hr hl hw) hw
    by_cases h1 : times < 1 ∨ 512 < s.len * times
    · have h512 : 1 ≤ times → 512 < times → 512 < s.len * times := fun h3 h4 => by
        have : 1 * times ≤ s.len * times := Int.mul_le_mul_of_nonneg_right hsl.1 (by omega)
        omega
      repeat' (first | ((first | apply VL_callt en58 | apply VL_callq en58); (repeat (first | exact args_nil | (apply args_cons; exact rfl))); exact rfl; exact fun _ hw => (hff hr.cons.cons hw)) | apply (zs1 ?_) | apply (zs2 ?_) | (apply zg1; first | refine zs3 ?_ | refine zs4 ?_) | (apply zg2; refine zs6 ?_) | (apply zg3; first | refine zs7 ?_ | refine zs8 ?_) | (apply zg6; first | refine zs11 ?_ | refine zs12 ?_) | (apply (zs17 ?_ ?_) <;> intro _ <;> try (exfalso; omega)) | (apply (zs19 ?_ ?_) <;> intro _ <;> try (exfalso; omega)) | (apply zg15; refine zs32 ?_) | (apply zg20; refine zs47 ?_) | (apply zg22; refine zs51 ?_) | (apply zg23; (refine zs52 ?_; intro _)) | (apply zg24; (refine zs54 ?_; intro _)) | (apply zg25; refine zs55 ?_) | apply (zs65 ?_) | apply (zs68 ?_) | apply (zs69 ?_) | apply (zs70 ?_) | (apply zg27; first | refine zs71 ?_ | refine zs72 ?_) | apply (zs74 ?_) | apply (zs76 ?_) | apply (zs77 ?_) | fail)
      all_goals (
        apply VQ_retc2 T (H2 := cels none 0 [] :: H); exact rfl; exact rfl; exact rfl; (focus repeat (first | with_reducible exact List.mem_cons_self | with_reducible apply List.mem_cons_of_mem | assumption)); exact rfl; exact rfl; (intro w hw; refine St.nilSlice (H := H) ?_ _ _; revert w; (intro w hw; refine hw.perm ?_; focus repeat (first | with_reducible exact Perm.refl _ | (with_reducible apply perm_take; focus ((repeat (first | with_reducible exact rem_here | with_reducible apply rem_there)); done)) | with_reducible apply Perm.dropK)))
        exact outS_no 2 (by rw [repE, if_neg (by simp [hf])]; exact if_pos h1) rfl)
    have ht1 : 1 ≤ times ∧ s.len * times ≤ 512 := by omega
    have ht2 : times ≤ 512 := by
      have : 1 * times ≤ s.len * times := Int.mul_le_mul_of_nonneg_right hsl.1 (by omega)
      omega
    have hcb := mul_bd (a := (s.cells.length : Int)) (b := times) (by omega) (by omega) (by omega) (by omega)
    by_cases h2 : 512 < (s.cells.length : Int) * times
    · skip
      repeat' (first | ((first | apply VL_callt en58 | apply VL_callq en58); (repeat (first | exact args_nil | (apply args_cons; exact rfl))); exact rfl; exact fun _ hw => (hff hr.cons.cons hw)) | apply (zs1 ?_) | apply (zs2 ?_) | (apply zg1; refine zs4 ?_) | (apply zg2; refine zs6 ?_) | (apply zg3; first | refine zs7 ?_ | refine zs8 ?_) | (apply zg4; refine zs9 ?_) | (apply zg6; refine zs12 ?_) | (apply (zs17 ?_ ?_) <;> intro _ <;> try (exfalso; omega)) | (apply (zs19 ?_ ?_) <;> intro _ <;> try (exfalso; omega)) | (apply zg15; refine zs32 ?_) | (apply zg20; refine zs47 ?_) | (apply zg22; refine zs51 ?_) | (apply zg23; (refine zs52 ?_; intro _)) | (apply zg24; (refine zs54 ?_; intro _)) | (apply zg25; refine zs55 ?_) | apply (zs65 ?_) | apply (zs68 ?_) | apply (zs69 ?_) | apply (zs70 ?_) | (apply zg27; first | refine zs71 ?_ | refine zs72 ?_) | apply (zs74 ?_) | apply (zs76 ?_) | apply (zs77 ?_) | fail)
      all_goals (
        apply VQ_retc2 T (H2 := cels none 0 [] :: H); exact rfl; exact rfl; exact rfl; (focus repeat (first | with_reducible exact List.mem_cons_self | with_reducible apply List.mem_cons_of_mem | assumption)); exact rfl; exact rfl; (intro w hw; refine St.nilSlice (H := H) ?_ _ _; revert w; (intro w hw; refine hw.perm ?_; focus repeat (first | with_reducible exact Perm.refl _ | (with_reducible apply perm_take; focus ((repeat (first | with_reducible exact rem_here | with_reducible apply rem_there)); done)) | with_reducible apply Perm.dropK)))
        exact outS_no 8 (by rw [repE, if_neg (by simp [hf])]; exact (if_neg h1).trans (if_pos h2)) rfl)
    repeat' (first | ((first | apply VL_callt en58 | apply VL_callq en58); (repeat (first | exact args_nil | (apply args_cons; exact rfl))); exact rfl; exact fun _ hw => (hff hr.cons.cons hw)) | apply (zs1 ?_) | apply (zs2 ?_) | (apply zg1; refine zs4 ?_) | (apply zg2; refine zs6 ?_) | (apply zg3; first | refine zs7 ?_ | refine zs8 ?_) | (apply zg4; refine zs9 ?_) | (apply zg6; refine zs12 ?_) | (apply (zs17 ?_ ?_) <;> intro _ <;> try (exfalso; omega)) | (apply (zs19 ?_ ?_) <;> intro _ <;> try (exfalso; omega)) | (apply zg15; refine zs32 ?_) | (apply zg20; refine zs47 ?_) | (apply zg22; refine zs51 ?_) | (apply zg23; (refine zs52 ?_; intro _)) | (apply zg24; (refine zs54 ?_; intro _)) | (apply zg25; refine zs55 ?_) | apply (zs65 ?_) | apply (zs68 ?_) | apply (zs69 ?_) | apply (zs70 ?_) | (apply zg27; refine zs72 ?_) | apply (zs73 ?_) | apply (zs76 ?_) | fail)
    rename_i gs gr _ _ _ _ gO
    obtain ⟨TL, hTL⟩ : ∃ TL, s.len * times = TL := ⟨_, rfl⟩
    rw [hTL]
    have hres : repE s.sch times = (⟨TL, s.off, repC s.sch times.toNat⟩, 0) := by
      rw [repE, if_neg (by simp [hf])]
      refine (if_neg h1).trans ((if_neg h2).trans ?_)
      rw [e2, hTL]; rfl
    refine VC_loop1 (fun (z : Nat × Option Addr × Nat) => [(7, .int .i64 z.1), (1, .int .i64 times), (2, .pointer (some ⟨gs, 0, none⟩)), (4, .pointer (some ⟨gr, 0, none⟩)), (6, .pointer (some ⟨gO, 0, none⟩))])
      (fun z => cels z.2.1 z.2.2 (repC s.sch z.1) :: blk gO (.cells #[.int .i64 TL, .int .i64 s.off, .slice z.2.1 (repC s.sch z.1).length z.2.2] 30 (0, 0)) :: blk gr (.cells #[.int .i64 0, .int .i64 0, .slice none 0 0] 30 (0, 0)) :: blk gs (.cells #[.int .i64 s.len, .int .i64 s.off, .slice s.A s.cells.length s.cap] 30 (0, 0)) :: H)
      (fun z => (z.1 : Int) ≤ times) (fun z => times.toNat - z.1) (0, none, 0) (by show ((0 : Nat) : Int) ≤ times; omega) ?_ (fun w hw => ?_) ?_
    · (repeat (first | exact sub_nil _ | (apply sub_cons; first | exact rfl | exact congrArg (fun z : Int => some (Value.int .i64 z)) (by omega))))
    · exact hw.nilSlice _ _
    rintro ⟨i, A, cap⟩ hi K hK
    dsimp only at hi ⊢
    by_cases hlt : (i : Int) < times
    · have hil : 0 ≤ (i : Int) * s.len ∧ (i : Int) * s.len ≤ 512 * 512 := ⟨Int.mul_nonneg (by omega) (by omega), Int.mul_le_mul (by omega) (by omega) (by omega) (by omega)⟩
      repeat' (first | apply (zs1 ?_) | apply (zs2 ?_) | (apply (zs17 ?_ ?_) <;> intro _ <;> try (exfalso; omega)) | apply (zs65 ?_) | apply (zs68 ?_) | apply (zs69 ?_) | apply (zs70 ?_) | (apply zg27; refine zs71 ?_) | apply (zs73 ?_) | apply (zs76 ?_) | fail)
      refine VC_loop1 (fun (z : Nat × Option Addr × Nat) => [(8, .int .i64 z.1), (7, .int .i64 i), (1, .int .i64 times), (2, .pointer (some ⟨gs, 0, none⟩)), (4, .pointer (some ⟨gr, 0, none⟩)), (6, .pointer (some ⟨gO, 0, none⟩))])
        (fun z => cels z.2.1 z.2.2 (repC s.sch i ++ (s.cells.take z.1).map (movC ((i : Int) * s.len))) :: blk gO (.cells #[.int .i64 TL, .int .i64 s.off, .slice z.2.1 (repC s.sch i ++ (s.cells.take z.1).map (movC ((i : Int) * s.len))).length z.2.2] 30 (0, 0)) :: blk gr (.cells #[.int .i64 0, .int .i64 0, .slice none 0 0] 30 (0, 0)) :: blk gs (.cells #[.int .i64 s.len, .int .i64 s.off, .slice s.A s.cells.length s.cap] 30 (0, 0)) :: H)
        (fun z => z.1 ≤ s.cells.length) (fun z => s.cells.length - z.1) (0, A, cap) (Nat.zero_le _) ?_ (fun w hw => ?_) ?_
      · (repeat (first | exact sub_nil _ | (apply sub_cons; first | exact rfl | exact congrArg (fun z : Int => some (Value.int .i64 z)) (by omega))))
      · dsimp only
        rw [List.take_zero, List.map_nil, List.append_nil]
        exact hw
      rintro ⟨k, A1, cap1⟩ hk K2 hK2
      dsimp only at hk ⊢
      by_cases hkl : k < s.cells.length
      · have hget : s.cells[k]? = some (celAt s.sch k) := celAt_some (s := s.sch) hkl
        have hcb := slot_bd hfr (celAt_mem (s := s.sch) hkl)
        rw [e2] at hcb
        have hml := rep_le (s := s.sch) (i := i) (k := k) (t := times.toNat) (by omega) hk
        have hmt : times.toNat * s.cells.length ≤ 512 := by
          have : ((times.toNat * s.cells.length : Nat) : Int) ≤ 512 := by
            rw [Int.natCast_mul, show ((times.toNat : Nat) : Int) = times by omega, Int.mul_comm]; omega
          exact Int.ofNat_le.1 this
        have hst := rep_part s.sch i k hkl
        rw [e1, e2] at hst hml
        obtain ⟨M, hM⟩ : ∃ M, repC s.sch i ++ (s.cells.take k).map (movC ((i : Int) * s.len)) = M := ⟨_, rfl⟩
        rw [hM] at hml ⊢
        unfold cels
        repeat' (first | apply (zs1 ?_) | apply (zs2 ?_) | (apply zg2; refine zs6 ?_) | (apply zg3; first | refine zs7 ?_ | refine zs8 ?_ | refine zs61 ?_) | (apply zg4; refine zs9 ?_) | (apply zg5; refine zs57 ?_) | (apply (zs17 ?_ ?_) <;> intro _ <;> try (exfalso; omega)) | (apply zg13; refine zs30 ?_) | (apply zg15; refine zs32 ?_) | (apply zg21; (refine zs49 ?_; intro _ _)) | (apply zg22; first | refine zs50 ?_ | refine zs51 ?_) | (apply zg24; (refine zs54 ?_; intro _)) | (apply zg26; (refine zs56 ?_; intro _)) | apply (zs65 ?_) | apply (zs68 ?_) | apply (zs69 ?_) | apply (zs70 ?_) | (apply zg27; refine zs71 ?_) | apply (zs73 ?_) | apply (zs76 ?_) | apply (zs79 ?_) | fail)
        rename_i A' cap'
        apply hK2 (k + 1, A', cap')
        · show k + 1 ≤ _
          omega
        · show _ - (k + 1) < _ - k
          omega
        · (repeat (first | exact sub_nil _ | (apply sub_cons; first | exact rfl | exact congrArg (fun z : Int => some (Value.int .i64 z)) (by omega))))
        · intro w hw
          dsimp only
          rw [hst, ← List.append_assoc, hM]
          have e6 := cels_snocR A' cap' M (movC ((i : Int) * s.len) (celAt s.sch k))
          unfold movC at e6
          dsimp only at e6
          rw [e6] at hw
          rw [List.length_append]
          unfold movC
          dsimp only [List.length_singleton]
          revert w
          (intro w hw; refine hw.perm ?_; focus repeat (first | with_reducible exact Perm.refl _ | (with_reducible apply perm_take; focus ((repeat (first | with_reducible exact rem_here | with_reducible apply rem_there)); done)) | with_reducible apply Perm.dropK))
      · obtain rfl : k = s.cells.length := by omega
        rw [List.take_length, show repC s.sch i ++ s.cells.map (movC ((i : Int) * s.len)) = repC s.sch (i + 1) from (rep_succ s.sch i).symm]
        repeat' (first | apply (zs1 ?_) | apply (zs2 ?_) | (apply zg2; refine zs6 ?_) | (apply zg3; refine zs7 ?_) | (apply zg4; refine zs9 ?_) | (apply (zs17 ?_ ?_) <;> intro _ <;> try (exfalso; omega)) | (apply zg13; refine zs30 ?_) | apply (zs65 ?_) | apply (zs68 ?_) | apply (zs69 ?_) | apply (zs70 ?_) | (apply zg27; refine zs72 ?_) | apply (zs75 ?_) | apply (zs79 ?_) | apply (zs80 ?_) | apply (zs81 ?_) | fail)
        apply hK (i + 1, A1, cap1)
        · show ((i + 1 : Nat) : Int) ≤ times
          omega
        · show times.toNat - (i + 1) < times.toNat - i
          omega
        · (repeat (first | exact sub_nil _ | (apply sub_cons; first | exact rfl | exact congrArg (fun z : Int => some (Value.int .i64 z)) (by omega))))
        · exact fun w hw => hw
    · repeat' (first | apply (zs1 ?_) | apply (zs2 ?_) | (apply zg3; refine zs8 ?_) | (apply (zs17 ?_ ?_) <;> intro _ <;> try (exfalso; omega)) | (apply zg22; refine zs51 ?_) | apply (zs65 ?_) | apply (zs68 ?_) | apply (zs69 ?_) | apply (zs70 ?_) | (apply zg27; refine zs72 ?_) | apply (zs74 ?_) | apply (zs75 ?_) | apply (zs80 ?_) | apply (zs81 ?_) | fail)
      obtain rfl : i = times.toNat := by omega
      apply VQ_retc2 T (H2 := cels A cap (repC s.sch times.toNat) :: H); exact rfl; exact rfl; exact rfl; (focus repeat (first | with_reducible exact List.mem_cons_self | with_reducible apply List.mem_cons_of_mem | assumption)); exact rfl; exact rfl; (intro w hw; refine hw.perm ?_; focus repeat (first | with_reducible exact Perm.refl _ | (with_reducible apply perm_take; focus ((repeat (first | with_reducible exact rem_here | with_reducible apply rem_there)); done)) | with_reducible apply Perm.dropK))
      refine ⟨A, cap, ?_, ?_⟩
      · rw [hres]
      · rw [hres]
end Go.Proofs.YtnkpfpgmbpnbgaaGreatDoor

/- Walks: the law ScheduleRepeats. -/
namespace Go.Proofs.YtnkpfpgmbpnbgaaGreatDoor
open Go.RowKit Go.Eng Go.Nw

theorem repE_len (s : Sch) (times : Int) : (repE s times).1.cells.length ≤ 512 := by
  obtain ⟨⟨t, e⟩, h⟩ : ∃ R, repE s times = R := ⟨_, rfl⟩
  by_cases h0 : e = 0
  · subst h0
    rw [h]
    exact (rep_of h).frmT.few
  · unfold repE
    split
    · exact Nat.zero_le _
    · split
      · exact Nat.zero_le _
      · split
        · exact Nat.zero_le _
        · exfalso
          rename_i h1 h2 h3
          unfold repE at h
          rw [if_neg h1, if_neg h2, if_neg h3] at h
          injection h with _ h
          exact h0 h.symm
set_option maxRecDepth 10000 in
set_option maxHeartbeats 1000000 in
theorem law_repeats (s : SchM) (times : Int) {B : Nat} {w0 : World} {H : List HP} {w : World} (ht : TabsB B w0) (hr : Rd B w0 H s.A (s.cells.flatMap celF)) (hw : St B w0 H w) :
    Calls Tryz.prog 6 [s.val, .int .i64 times].toArray w (Post B w0 fun v K => v = .bool true ∧ K = H) := by
  refine Calls_of_VC Tryz.func6 Tryz.ntmps6 rfl rfl hw ?_
  cases hfw : fewS s.sch with
  | false =>
    repeat' (first | ((first | apply VL_callt en11 | apply VL_callq en11); (repeat (first | exact args_nil | (apply args_cons; exact rfl))); exact rfl; exact fun _ hw => (wake_spec ht hw)) | ((first | apply VL_callt en13 | apply VL_callq en13); (repeat (first | exact args_nil | (apply args_cons; exact rfl))); exact rfl; exact fun _ hw => (calls_val (congrArg Value.bool hfw) (fun _ hw => rfew_spec s hw) hw)) | apply (zs2 ?_) | (apply zg3; refine zs8 ?_) | (apply zg20; first | refine zs47 ?_ | refine zs48 ?_) | (apply zg23; (refine zs52 ?_; intro _)) | apply (zs65 ?_) | apply (zs68 ?_) | apply (zs69 ?_) | apply (zs70 ?_) | (apply zg27; first | refine zs71 ?_ | refine zs72 ?_) | apply (zs74 ?_) | apply (zs76 ?_) | apply (zs77 ?_) | fail)
    apply VQ_st H
    · (intro w hw; refine hw.perm ?_; focus repeat (first | with_reducible exact Perm.refl _ | (with_reducible apply perm_take; focus ((repeat (first | with_reducible exact rem_here | with_reducible apply rem_there)); done)) | with_reducible apply Perm.dropK))
    apply VQ_ret1; exact rfl; exact rfl; exact ⟨rfl, rfl⟩
  | true =>
  have hg : s.cells.length ≤ 60 ∨ s.cells.length = 512 ∨ s.cells.length = 513 := of_decide_eq_true hfw
  have hl : s.cells.length ≤ 1000000000000 := by omega
  have hlen := repE_len s.sch times
  have hp : ∀ {H' : List HP} {w : World}, Rd B w0 H' s.A (s.cells.flatMap celF) → St B w0 H' w → Calls Tryz.prog 21 [s.val, .int .i64 times].toArray w (Post B w0 (OutS H' (repE s.sch times))) := fun hr hw => repeat_spec s times hr hl hw
  have hq : ∀ {H' : List HP} {w : World}, Rd B w0 H' s.A (s.cells.flatMap celF) → St B w0 H' w → Calls Tryz.prog 22 [s.val, .int .i64 times].toArray w (Post B w0 (OutS H' (repE s.sch times))) := fun hr hw => rrepeat_spec s times hr hl hw
  obtain ⟨⟨⟨ul, uo, uc⟩, ue⟩, hR⟩ : ∃ R, repE s.sch times = R := ⟨_, rfl⟩
  rw [hR] at hlen
  unfold OutS at hp hq
  rw [hR] at hp hq
  dsimp only at hp hq hlen
  repeat' (first | ((first | apply VL_callt en11 | apply VL_callq en11); (repeat (first | exact args_nil | (apply args_cons; exact rfl))); exact rfl; exact fun _ hw => (wake_spec ht hw)) | ((first | apply VL_callt en13 | apply VL_callq en13); (repeat (first | exact args_nil | (apply args_cons; exact rfl))); exact rfl; exact fun _ hw => (calls_val (congrArg Value.bool hfw) (fun _ hw => rfew_spec s hw) hw)) | apply (zs1 ?_) | apply (zs2 ?_) | (apply zg3; refine zs8 ?_) | (apply zg20; refine zs47 ?_) | (apply zg23; (refine zs52 ?_; intro _)) | apply (zs65 ?_) | apply (zs68 ?_) | apply (zs69 ?_) | apply (zs70 ?_) | (apply zg27; refine zs72 ?_) | apply (zs76 ?_) | fail)
  apply VL_call _ en21
  (repeat (first | exact args_nil | (apply args_cons; exact rfl)))
  exact rfl
  exact fun _ hw => (hp hr.cons (hw))
  rintro _ _ ⟨A1, cap1, rfl, rfl⟩
  repeat' (first | apply (zs1 ?_) | apply (zs2 ?_) | (apply zg3; refine zs8 ?_) | apply (zs13 ?_) | (apply zg22; refine zs51 ?_) | (apply zg24; (refine zs54 ?_; intro _)) | apply (zs65 ?_) | apply (zs68 ?_) | apply (zs69 ?_) | apply (zs70 ?_) | fail)
  apply VL_call _ en22
  (repeat (first | exact args_nil | (apply args_cons; exact rfl)))
  exact rfl
  exact fun _ hw => (hq hr.cons.cons.cons (hw))
  rintro _ _ ⟨A2, cap2, rfl, rfl⟩
  have hsm : ∀ {H' : List HP} {w : World}, Rd B w0 H' A1 (uc.flatMap celF) → Rd B w0 H' A2 (uc.flatMap celF) → St B w0 H' w → Calls Tryz.prog 20 [.agg #[.int .i64 ul, .int .i64 uo, .slice A1 uc.length cap1], .agg #[.int .i64 ul, .int .i64 uo, .slice A2 uc.length cap2]].toArray w (Post B w0 fun v K => v = .bool true ∧ K = H') := fun hr hr2 hw => by
    have h := rsame_spec ⟨ul, uo, A1, cap1, uc⟩ ⟨ul, uo, A2, cap2, uc⟩ (by show uc.length ≤ _; omega) (by show uc.length ≤ _; omega) hr hr2 hw
    rw [decide_eq_true ⟨rfl, rfl, rfl⟩] at h
    exact h
  repeat' (first | ((first | apply VL_callt en20 | apply VL_callq en20); (repeat (first | exact args_nil | (apply args_cons; exact rfl))); exact rfl; exact fun _ hw => (hsm (Rd.cels (cap := cap1) (by (focus repeat (first | with_reducible exact List.mem_cons_self | with_reducible apply List.mem_cons_of_mem | assumption)))) (Rd.cels (cap := cap2) (by (focus repeat (first | with_reducible exact List.mem_cons_self | with_reducible apply List.mem_cons_of_mem | assumption)))) hw)) | apply (zs1 ?_) | apply (zs2 ?_) | (apply zg1; refine zs4 ?_) | (apply zg3; refine zs8 ?_) | (apply zg6; refine zs11 ?_) | apply (zs13 ?_) | (apply zg7; (refine zs15 ?_ ?_ <;> intro _ <;> try (exfalso; omega))) | (apply zg22; refine zs51 ?_) | (apply zg24; (refine zs54 ?_; intro _)) | apply (zs65 ?_) | apply (zs68 ?_) | apply (zs69 ?_) | apply (zs70 ?_) | apply (zs74 ?_) | fail)
  apply VQ_st H
  · (intro w hw; refine hw.perm ?_; focus repeat (first | with_reducible exact Perm.refl _ | (with_reducible apply perm_take; focus ((repeat (first | with_reducible exact rem_here | with_reducible apply rem_there)); done)) | with_reducible apply Perm.dropK))
  apply VQ_ret1; exact rfl; exact rfl; exact ⟨rfl, rfl⟩
end Go.Proofs.YtnkpfpgmbpnbgaaGreatDoor

/- From a walk to a row: a law that returns true and leaves memory below as it was. -/
namespace Go.Proofs.YtnkpfpgmbpnbgaaGreatDoor
open Go.ChangeShapes Go.WideShapes Go.ChangeAt Go.RowKit

section
variable {H : Type} {enc : TypeId × Value → H} {P : Program}

theorem trodAll_keep (hl : laidOutB P = true) {W W' : World} {sp : Nat → Bool} : ∀ {ts : List TypeId} {vs : List Value} {ds : List (DataW H)} {ps : List MemPlace}, (ts.all fun t => P.readableRec t && decide (t < P.types.size)) = true →
    DataW.TrodAll enc P W 0 (fun _ => true) true ts vs ds ps → (∀ p ∈ ps, W.sameAt W' p) → (∀ p ∈ ps, sp p.block = true) → DataW.TrodAll enc P W' 0 sp true ts vs ds ps
  | [], [], [], _, _, h, _, _ => h
  | [], [], _ :: _, _, _, h, _, _ => h.elim
  | [], _ :: _, _, _, _, h, _, _ => h.elim
  | _ :: _, [], _, _, _, h, _, _ => h.elim
  | _ :: _, _ :: _, [], _, _, h, _, _ => h.elim
  | t :: ts, v :: vs, d :: ds, ps, hr, h, hs, hp => by
    obtain ⟨p, q, h1, h2, rfl⟩ := h
    simp only [List.all_cons, Bool.and_eq_true, decide_eq_true_eq] at hr
    exact ⟨p, q, WideElems.Trod_stays hl hr.1.1 hr.1.2 h1 (fun x hx => hs x (by simp [hx])) (fun x hx => hp x (by simp [hx])), trodAll_keep hl hr.2 h2 (fun x hx => hs x (by simp [hx])) (fun x hx => hp x (by simp [hx])), rfl⟩

/-- The call returned true, and below the heap's old end nothing is changed: what the row asks. -/
theorem post_true {f : Func} {s : ChangeSpec} {apart fresh handsOn again : Bool} {W W' : World} {args : Array Value} {ds gs : List (DataW H)} {before : List MemPlace} {tb : TypeId} (hl : laidOutB P = true)
    (hrd : (f.params.toList.all fun t => P.readableRec t && decide (t < P.types.size)) = true) (hv : s.vars = []) (hrt : f.resultTypes = #[tb]) (htb : P.underlying tb = some .bool)
    (hW : DataW.Whole enc P f.params.toList s.vars apart W args.toList ds gs before) (hb : Below W.heap.size W W')
    (hres : (s.fn H (ds ++ gs)).results = [.lit (.bool true)]) (hargs : (s.fn H (ds ++ gs)).args = ds) (hvars : (s.fn H (ds ++ gs)).vars = []) :
    s.post enc P f apart fresh handsOn again W args (.bool true) W' := by
  have hlt : ∀ p ∈ before, p.block < W.heap.size := fun p hp => hW.lt p hp
  have hW0 := hW
  obtain ⟨p, q, hA, hV, rfl, hz, hn⟩ := hW
  rw [hv] at hV
  have hq : gs = [] ∧ q = [] := by
    cases gs with
    | nil => exact ⟨rfl, hV⟩
    | cons _ _ => exact hV.elim
  obtain ⟨rfl, rfl⟩ := hq
  have hkeep : ∀ sp : Nat → Bool, (∀ x ∈ p ++ [], sp x.block = true) → DataW.TrodAll enc P W' 0 sp true f.params.toList args.toList ds p := fun sp hsp =>
    trodAll_keep hl hrd hA (fun x hx => hb.same (hlt x (by simpa using hx))) (fun x hx => hsp x (by simpa using hx))
  have hR : ∀ (b : Nat) (sp : Nat → Bool) (hd : Bool), DataW.TrodAll enc P W' b sp hd f.resultTypes.toList ((Value.bool true).resultList f.resultTypes.size) (s.fn H (ds ++ [])).results [] := by
    intro b sp hd
    rw [hres, hrt]
    exact trodAll_mk1 (shut_bool htb true)
  have hok := ok_one (P := P) (W' := W') (f := f) (v := .bool true) hrt rfl (okWide_bool_mk htb true)
  have hold : ∀ x ∈ p ++ [], (fun b => decide (b < W.heap.size)) x.block = true := fun x hx => by simpa using hlt x hx
  refine ⟨ds, [], p ++ [], [], p, [], hW0, hR _ _ _, by rw [hargs]; exact hkeep _ hold, by rw [hvars, hv]; rfl, World.keptBut_mono (fun x hx => ⟨hx, Or.inr (by simpa using hx)⟩) (hb.frame (· ∈ p ++ [])), fun _ => ?_⟩
  refine ⟨hok, _, _, ([] ++ p) ++ [], ⟨[] ++ p, [], trodAll_append (hkeep _ (fun _ _ => rfl)) (hR _ _ _), (show DataW.TrodVars enc P W' (fun _ => true) s.vars [] [] by rw [hv]; rfl), rfl, ?_, ?_⟩, ?_⟩
  · intro b off hp
    have hin : MemPlace.cell b off ∈ p ++ [] := by simpa using hp
    rw [hb.frozen (hlt _ hin)]
    exact hz b off hin
  · intro ha
    simpa using hn ha
  · intro x hx _
    simpa using hx
end
end Go.Proofs.YtnkpfpgmbpnbgaaGreatDoor

/- From a walk to a tied card: what the listed variables hold; a world that meets the condition. -/
namespace Go.Proofs.YtnkpfpgmbpnbgaaGreatDoor
open Go.ChangeShapes Go.WideShapes Go.ChangeAt Go.RowKit Go.Eng

section
variable {H : Type} {enc : TypeId × Value → H}
/-- The wrap of a row that lists variables, the world's shape kept. -/
theorem handed_and_shaped {a : Assume} {C : Checked} {os : Os} {f : FuncId} {fn : Func} {s : ChangeSpec} {conds : List PathCond} {apart fresh handsOn again : Bool} {X : World → Prop} (hX : ∀ w w' : World, w.heap = w'.heap → X w → X w')
    (own : ownKnob C.prog.godebug = none) (started : os.Started) (noInit : C.prog.inits.idxOf? f = none) (hfn : C.prog.funcs[f]? = some fn)
    (witness : ∃ (w : World) (tape : Tape) (i : Input), w.os = os ∧ (w.forCall tape i).Shaped C.prog ∧ i.vars = [] ∧ Input.okWide C.prog (w.forCall tape i) .any w.heap.size f i ∧
      ((s.pre enc C.prog fn conds apart (w.forCall tape i).memory i.args ∧ X (w.forCall tape i).memory) ∧ sizedMet enc C.prog fn (OpenSpec.ofChange s) apart (w.forCall tape i).memory i.args) ∧ a.holds C.prog (lone (Frame.enter C.prog f i.args .normal) [] (w.forCall tape i)))
    (contract : ∀ (W : World) (base : Nat) (args : Array Value) (ds gs : List (DataW H)) (before : List MemPlace),
      (∀ (j : Nat) t v, fn.params[j]? = some t → args[j]? = some v → Value.okWide C.prog W .any base t v) →
      DataW.Whole enc C.prog fn.params.toList s.vars apart W args.toList ds gs before → X W → W.ShapedOpen C.prog →
      Calls C.prog f args W fun e W' => ∃ v, e = .returned v ∧ s.post enc C.prog fn apart fresh handsOn again W args v W') :
    ReturnsInHanded a C os f .any (fun w args => (s.pre enc C.prog fn conds apart w args ∧ X w) ∧ sizedMet enc C.prog fn (OpenSpec.ofChange s) apart w args) (s.post enc C.prog fn apart fresh handsOn again) := by
  refine returnsInHanded_of_calls own started noInit witness ?_
  intro w tape i _ hsh _ hok hpre _
  obtain ⟨_, _, _, fn', hfn', _, _, _, _, hval⟩ := hok
  have e : fn' = fn := Option.some.inj (hfn'.symm.trans hfn)
  subst e
  obtain ⟨⟨⟨ds, gs, before, hw, _⟩, hx⟩, _⟩ := hpre
  have hw' := DataW.Whole.of_heap (w' := w.forCall tape i) (by rfl) hw
  refine (contract (w.forCall tape i) w.heap.size i.args ds gs before hval hw' (hX _ _ (by rfl) hx) hsh).mono fun e W' ⟨v, he, hp⟩ => ?_
  subst he
  exact ChangeSpec.post_blind hp
end

/-- The variables that each row of this layer lists. -/
def laidL : List (String × DataW Unit) := [("math/bits.deBruijn32tab", Rows.laid_math_bits_deBruijn32tab), ("math/bits.deBruijn64tab", Rows.laid_math_bits_deBruijn64tab), ("internal/strconv.uint64pow10", Rows.laid_internal_strconv_uint64pow10), ("unicode/utf8.acceptRanges", Rows.laid_unicode_utf8_acceptRanges), ("strconv.ErrRange", Rows.laid_strconv_ErrRange), ("strconv.ErrSyntax", Rows.laid_strconv_ErrSyntax), ("unicode/utf8.first", Rows.laid_unicode_utf8_first)]
def litV : DataW Unit → Value
  | .lit (.int k z) => .int k z
  | _ => .bool false
def litsV : DataW Unit → List Value
  | .agg l => l.map litV
  | _ => []
/-- The world that the door leaves, utf8's table laid. -/
noncomputable def laidWorld (os : Os) : World :=
  let w0 := World.doorLaid Tryz.prog 72 os
  { w0 with heap := w0.heap.modify ((Tryz.prog.globalNamed "unicode/utf8.first").getD 0) fun
      | .cells _ t frozen => .cells (litsV Go.Pinned.utf8First).toArray t frozen
      | o => o }
theorem laidL_plain (w : World) : laidMetH Tryz.prog laidL w = laidMet Tryz.prog laidL w := MakeChecks.laidMetH_plain _ _ _ (by kernel_rfl)
theorem laidWorld_met (os : Os) (args : Array Value) : laidMetH Tryz.prog laidL ((laidWorld os).forCall (fun _ _ => 0) ⟨#[], args, []⟩).memory := by
  rw [laidL_plain]
  exact laidMet_of_run3 8 (by kernel_rfl) (by kernel_rfl) (by kernel_rfl)
theorem laidWorld_shaped (os : Os) (args : Array Value) : ((laidWorld os).forCall (fun _ _ => 0) ⟨#[], args, []⟩).Shaped Tryz.prog := World.shaped_of_RefB (by kernel_rfl) (by kernel_rfl)

theorem var_below {W w : World} {n : String} {cs : Array Value} (h : W.var? Tryz.prog n = some cs) (hb : Below W.heap.size W w) : w.var? Tryz.prog n = some cs := by
  unfold World.var? at h ⊢
  cases hg : Tryz.prog.globalNamed n with
  | none => rw [hg] at h; cases h
  | some g =>
    rw [hg] at h
    simp only [Option.bind_some] at h ⊢
    rcases Nat.lt_or_ge g W.heap.size with hlt | hge
    · rw [hb.block g hlt]; exact h
    · rw [Array.getElem?_eq_none hge] at h; cases h
theorem err_cell {W : World} {n : String} {s : String} {d : DataW Unit} (hT : (Tryz.prog.globalNamed n).bind (fun g => (Tryz.prog.globals[g]?).map (·.type)) = some 85) (h : Lib.VarReads Tryz.prog W n (.iface s d)) : ∃ tp p, W.var? Tryz.prog n = some #[.iface tp p] := by
  obtain ⟨g, t, cs, fuel, p, h1, h2, h3, h4⟩ := h
  rw [h1] at hT
  obtain rfl : t = 85 := Option.some.inj (h2.symm.trans hT)
  obtain ⟨_, u, v, e, _⟩ := iface_of_trod Tryz.underlying85 h4
  refine ⟨u, v, ?_⟩
  rw [h3, Array.eq_one_of_toList e]
theorem tabs_of {W : World} (hL : laidMetH Tryz.prog laidL W) (hsh : W.ShapedOpen Tryz.prog) : TabsB W.heap.size W := by
  rw [laidL_plain] at hL
  have hpow : Lib.TabIs Tryz.prog W "internal/strconv.uint64pow10" .u64 Lib.pow10Tab := by
    obtain ⟨g, t, cs, fuel, p, h1, h2, h3, h4⟩ := Lib.laidMet.reads hL (n := "internal/strconv.uint64pow10") (d := Rows.laid_internal_strconv_uint64pow10) (by unfold laidL; simp)
    have hT : (Tryz.prog.globalNamed "internal/strconv.uint64pow10").bind (fun g => (Tryz.prog.globals[g]?).map (·.type)) = some 175 := by kernel_rfl
    rw [h1] at hT
    obtain rfl : t = 175 := Option.some.inj (h2.symm.trans hT)
    have h5 : Rows.laid_internal_strconv_uint64pow10 (H := Unit) = Lib.tabData .u64 Lib.pow10Tab := by kernel_rfl
    rw [h5] at h4
    have h6 := Lib.cells_of_tab Tryz.underlying175 Tryz.underlying162 (by kernel_rfl) (by kernel_rfl) h4
    unfold Lib.TabIs
    rw [h3, ← h6]
  obtain ⟨tp1, p1, hsy⟩ := err_cell (n := "strconv.ErrSyntax") (by kernel_rfl) (Lib.laidMet.reads hL (n := "strconv.ErrSyntax") (d := Rows.laid_strconv_ErrSyntax) (by unfold laidL; simp))
  obtain ⟨tp2, p2, hrg⟩ := err_cell (n := "strconv.ErrRange") (by kernel_rfl) (Lib.laidMet.reads hL (n := "strconv.ErrRange") (d := Rows.laid_strconv_ErrRange) (by unfold laidL; simp))
  obtain ⟨m, hm⟩ := Go.Proofs.cell_of_shapedOpen_int (P := Tryz.prog) (g := 0) (k := .i64) (zero := #[.int .i64 0]) (t := 3) hsh (of_decide_eq_true (by kernel_rfl)) (by kernel_rfl) rfl (by kernel_rfl) (by kernel_rfl) Tryz.underlying3
  intro w hb
  refine ⟨var_below hpow hb, ⟨tp1, p1, var_below hsy hb⟩, ⟨tp2, p2, var_below hrg hb⟩, m, ?_⟩
  have hlt : 0 < W.heap.size := by
    rcases Nat.eq_zero_or_pos W.heap.size with h | h
    · simp [World.cell?, Array.getElem?_eq_none (show W.heap.size ≤ 0 by omega)] at hm
    · exact h
  exact (hb.cell (p := ⟨0, 0, none⟩) hlt).trans hm
theorem Tryz.own : ownKnob Tryz.prog.godebug = none := by kernel_rfl
theorem Tryz.laidOut : laidOutB Tryz.prog = true := by kernel_rfl
end Go.Proofs.YtnkpfpgmbpnbgaaGreatDoor

/- From arguments that came in to rows that are only read. -/
namespace Go.Eng
open Go.ChangeShapes Go.WideShapes Go.ChangeAt Go.RowKit Go.Deep

/-- In this world the cells xs lie from A on. -/
def Old (W : World) (A : Option Addr) (xs : List Value) : Prop := ∀ j v, xs[j]? = some v → ∃ g o, A = some ⟨g, o, none⟩ ∧ g < W.heap.size ∧ W.cell? ⟨g, o + j, none⟩ = some v
theorem Old.rd {W : World} {H : List HP} {A : Option Addr} {xs : List Value} (h : Old W A xs) : Rd W.heap.size W H A xs := Rd.old h

theorem cell_lt {W : World} {a : Addr} {v : Value} (h : W.cell? a = some v) : a.block < W.heap.size := by
  unfold World.cell? at h
  rcases Nat.lt_or_ge a.block W.heap.size with h1 | h1
  · exact h1
  · rw [Array.getElem?_eq_none h1] at h; cases h

section
variable {H : Type} {enc : TypeId × Value → H} {P : Program} {W : World} {held : Bool}

/-- A slice that came in: its elements, and where they lie; f: an element's cells; good: what is known of an element. -/
theorem open_rows {α : Type} {f : α → List Value} {good : α → Prop} {t e q : Nat} {fuel : Nat} {A : Option Addr} {len cap : Nat} {x : DataW H × List MemPlace} {spare : Nat → Bool} (ht : P.underlying t = some (.slice e)) (hc : P.cellsOf e = q) (h0 : 0 < q)
    (hel : ∀ n cs y, cs.length = q → DataW.trod enc P W 0 spare held n e cs = some y → ∃ a, cs = f a ∧ good a) (h : DataW.trod enc P W 0 spare held fuel t [.slice A len cap] = some x) :
    ∃ l : List α, l.length = len ∧ Old W A (l.flatMap f) ∧ (∀ a ∈ l, good a) ∧ len ≤ maxLen ∧ (∀ a ∈ l, (f a).length = q) := by
  rcases open_slice ht h with ⟨h1, _⟩ | ⟨a, len', cap', m, n, D, Pl, h1, _, hl, hm, hmm, hxx, hx⟩
  · injection h1 with h1 _
    injection h1 with h1 h2 h3
    subst h1 h2 h3
    exact ⟨[], rfl, (fun j v hv => by simp at hv), (fun a ha => by cases ha), Nat.zero_le _, (fun a ha => by cases ha)⟩
  · injection h1 with h1 _
    injection h1 with h1 h2 h3
    subst h1 h2 h3
    have hle : len ≤ m := by rw [hmm]; split <;> omega
    rw [hc] at hx
    have key : ∀ i, i < len → ∃ b : α, W.cells? 0 (a.add (i * q)) q = some (f b) ∧ good b := fun i hi => by
      obtain ⟨cs', h2, h3⟩ := hx i (by omega)
      obtain ⟨_, h5, _⟩ := World.cells?_some h2
      obtain ⟨b, rfl, hb⟩ := hel n cs' _ h5 h3
      exact ⟨b, h2, hb⟩
    obtain ⟨l, hlen, hl2⟩ : ∃ l : List α, l.length = len ∧ ∀ i b, l[i]? = some b → W.cells? 0 (a.add (i * q)) q = some (f b) ∧ good b := by
      clear hx hmm hle h hl hm hxx
      induction len with
      | zero => exact ⟨[], rfl, fun i b hb => by simp at hb⟩
      | succ k ih =>
        obtain ⟨l, h2, h3⟩ := ih (fun i hi => key i (by omega))
        obtain ⟨b, h4⟩ := key k (by omega)
        refine ⟨l ++ [b], by simp [h2], fun i c hc => ?_⟩
        by_cases hi : i < l.length
        · rw [List.getElem?_append_left hi] at hc; exact h3 i c hc
        · rw [List.getElem?_append_right (by omega)] at hc
          have hi2 : i - l.length = 0 := by
            have := (List.getElem?_eq_some_iff.1 hc).1
            simp at this; omega
          rw [hi2] at hc
          obtain rfl : b = c := by simpa using hc
          obtain rfl : i = k := by omega
          exact h4
    have hfq : ∀ b ∈ l, (f b).length = q := fun b hb => by
      obtain ⟨i, hi⟩ := List.getElem?_of_mem hb
      exact (World.cells?_some (hl2 i b hi).1).2.1
    refine ⟨l, hlen, fun j v hv => ?_, fun b hb => ?_, by omega, hfq⟩
    · have hspl : ∃ i b, l[i]? = some b ∧ ∃ r, j = i * q + r ∧ r < q ∧ (f b)[r]? = some v := by
        clear hlen hl2 key
        induction l generalizing j with
        | nil => simp at hv
        | cons b l ih =>
          rw [List.flatMap_cons] at hv
          have hb := hfq b (by simp)
          by_cases hj : j < q
          · rw [List.getElem?_append_left (by omega)] at hv
            exact ⟨0, b, rfl, j, by omega, hj, hv⟩
          · rw [List.getElem?_append_right (by omega), hb] at hv
            obtain ⟨i, b', h5, r, h6, h7, h8⟩ := ih (fun c hc => hfq c (by simp [hc])) (j - q) hv
            exact ⟨i + 1, b', by simpa using h5, r, by rw [Nat.add_mul]; omega, h7, h8⟩
      obtain ⟨i, b, h5, r, rfl, h7, h8⟩ := hspl
      have h9 := (World.cells?_some (hl2 i b h5).1).2.2 r h7
      rw [h8, add_add] at h9
      obtain ⟨ab, ao, spot⟩ := a
      have hs0 : spot = none := by
        have h10 := World.cell?_spot h9
        unfold Addr.add at h10
        split at h10
        · exact h10
        · rename_i hne
          have hi0 : i < len := by have := (List.getElem?_eq_some_iff.1 h5).1; omega
          have h11 := (World.cells?_some (hl2 0 l[0] (List.getElem?_eq_getElem (by omega))).1).2.2 0 h0
          rw [add_add, Nat.zero_mul, Nat.zero_add] at h11
          have hf0 : ((f l[0])[0]?).isSome = true := by
            rw [List.getElem?_eq_getElem (by rw [hfq _ (List.getElem_mem _)]; exact h0)]; rfl
          cases hf1 : (f l[0])[0]? with
          | none => rw [hf1] at hf0; cases hf0
          | some u =>
            rw [hf1] at h11
            exact World.cell?_spot h11
      subst hs0
      refine ⟨ab, ao, rfl, ?_, ?_⟩
      · have := cell_lt h9
        rw [Addr.add_lit] at this
        exact this
      · rw [Addr.add_lit] at h9
        exact h9
    · obtain ⟨i, hi⟩ := List.getElem?_of_mem hb
      exact (hl2 i b hi).2

end
end Go.Eng

/- From arguments that came in to what the walks speak of: openers, built up as types are. -/
namespace Go.Eng
open Go.ChangeShapes Go.WideShapes Go.ChangeAt Go.RowKit Go.Deep

/-- A slice: where it lies, its capacity, its elements. -/
structure SlM (α : Type) where
  A : Option Addr
  cap : Nat
  xs : List α
def SlM.val {α : Type} (s : SlM α) : Value := .slice s.A s.xs.length s.cap

section
variable {H : Type} {enc : TypeId × Value → H} {P : Program} {W : World} {spare : Nat → Bool} {held : Bool}

/-- Cells that are read as a value of type t are those of some a that is good. -/
def Opn (enc : TypeId × Value → H) (P : Program) (W : World) (spare : Nat → Bool) (held : Bool) (t : TypeId) {α : Type} (f : α → List Value) (good : α → Prop) : Prop :=
  ∀ fuel cs y, DataW.trod enc P W 0 spare held fuel t cs = some y → ∃ a, cs = f a ∧ good a

theorem op_map {t : TypeId} {α β : Type} {f : α → List Value} {good : α → Prop} {f' : β → List Value} {good' : β → Prop} (h : Opn enc P W spare held t f good) (g : α → β) (hf : ∀ a, f a = f' (g a)) (hg : ∀ a, good a → good' (g a)) : Opn enc P W spare held t f' good' := by
  intro fuel cs y hy
  obtain ⟨a, h1, h2⟩ := h fuel cs y hy
  exact ⟨g a, h1.trans (hf a), hg a h2⟩

theorem op_int {t : TypeId} {k : IntKind} (ht : P.underlying t = some (.int k)) : Opn enc P W spare held t (fun z : Int => [Value.int k z]) (fun z => (Lit.int k z).wf = true) := by
  intro fuel cs y hy
  obtain ⟨m, rfl, rfl, hw⟩ := DataW.trod_int ht hy
  exact ⟨m, rfl, hw⟩

/-- What is known of a slice that came in. -/
structure SlG {α : Type} (W : World) (f : α → List Value) (good : α → Prop) (s : SlM α) : Prop where
  old : Old W s.A (s.xs.flatMap f)
  good : ∀ a ∈ s.xs, good a
  len : s.xs.length ≤ maxLen
  cap : s.xs.length ≤ s.cap

theorem op_slice {t e q : TypeId} {α : Type} {f : α → List Value} {good : α → Prop} (ht : P.underlying t = some (.slice e)) (hc : P.cellsOf e = q) (h0 : 0 < q) (h : Opn enc P W spare held e f good) : Opn enc P W spare held t (fun s : SlM α => [s.val]) (SlG W f good) := by
  intro fuel cs y hy
  rcases open_slice ht hy with ⟨rfl, _⟩ | ⟨a, len, cap, m, n, D, Pl, rfl, _, hlc, _⟩
  · exact ⟨⟨none, 0, []⟩, rfl, ⟨(fun j v hv => by simp at hv), (fun a ha => by cases ha), Nat.zero_le _, Nat.zero_le _⟩⟩
  · obtain ⟨l, h1, h2, h3, h4, _⟩ := open_rows ht hc h0 (fun n cs y _ hy => h n cs y hy) hy
    subst h1
    exact ⟨⟨some a, cap, l⟩, rfl, h2, h3, h4, hlc⟩

/-- The same for the fields of a struct, one behind the other. -/
def FOpn (enc : TypeId × Value → H) (P : Program) (W : World) (spare : Nat → Bool) (held : Bool) (ts : List TypeId) {α : Type} (f : α → List Value) (good : α → Prop) : Prop :=
  ∀ (n : Nat) (cs : List Value), cs.length = (ts.map P.cellsOf).sum → (∀ i t, ts[i]? = some t → ∃ y, DataW.trod enc P W 0 spare held n t ((cs.drop ((ts.take i).map P.cellsOf).sum).take (P.cellsOf t)) = some y) → ∃ a, cs = f a ∧ good a

theorem fop_nil : FOpn enc P W spare held [] (fun _ : Unit => []) (fun _ => True) := fun n cs h _ => ⟨(), List.eq_nil_of_length_eq_zero (by simpa using h), trivial⟩
theorem fop_cons {t : TypeId} {ts : List TypeId} {α β : Type} {f : α → List Value} {good : α → Prop} {g : β → List Value} {good' : β → Prop} (h : Opn enc P W spare held t f good) (hs : FOpn enc P W spare held ts g good') :
    FOpn enc P W spare held (t :: ts) (fun x : α × β => f x.1 ++ g x.2) (fun x => good x.1 ∧ good' x.2) := by
  intro n cs hl hx
  simp only [List.map_cons, List.sum_cons] at hl
  obtain ⟨y, hy⟩ := hx 0 t rfl
  simp only [List.take_zero, List.map_nil, List.sum_nil, List.drop_zero] at hy
  obtain ⟨a, h1, h2⟩ := h n _ y hy
  obtain ⟨b, h3, h4⟩ := hs n (cs.drop (P.cellsOf t)) (by simp; omega) (fun i u hu => by
    obtain ⟨y, hy⟩ := hx (i + 1) u (by simpa using hu)
    refine ⟨y, ?_⟩
    rw [List.drop_drop]
    simpa using hy)
  exact ⟨(a, b), by show cs = f a ++ g b; rw [← h1, ← h3, List.take_append_drop], h2, h4⟩

def offs (P : Program) : List TypeId → Nat → List Nat
  | [], _ => []
  | t :: ts, o => o :: offs P ts (o + P.cellsOf t)
theorem offs_get (P : Program) : ∀ (ts : List TypeId) (o i : Nat), i < ts.length → (offs P ts o)[i]? = some (o + ((ts.take i).map P.cellsOf).sum)
  | [], _, _, h => by simp at h
  | t :: ts, o, 0, _ => by simp [offs]
  | t :: ts, o, i + 1, h => by
    rw [offs, List.getElem?_cons_succ, offs_get P ts _ i (by simpa using h)]
    simp [Nat.add_assoc]
/-- A struct whose fields have these types, one behind the other. -/
def structB (P : Program) (t : TypeId) (ts : List TypeId) : Bool :=
  match P.underlying t with
  | some (.struct fs) => (fs.toList.map (·.type) == ts) && (fs.toList.map (·.offset) == offs P ts 0) && (P.cellsOf t == (ts.map P.cellsOf).sum)
  | _ => false

theorem op_struct {t : TypeId} {ts : List TypeId} {α : Type} {f : α → List Value} {good : α → Prop} (hB : structB P t ts = true) (h : FOpn enc P W spare held ts f good) : Opn enc P W spare held t f good := by
  intro fuel cs y hy
  unfold structB at hB
  cases hu : P.underlying t with
  | none => rw [hu] at hB; cases hB
  | some d =>
    rw [hu] at hB
    cases d with
    | struct fs =>
      simp only [Bool.and_eq_true, beq_iff_eq] at hB
      obtain ⟨⟨h1, h2⟩, h3⟩ := hB
      obtain ⟨xs, n, _, _, hl, hn, hx⟩ := DataW.trod_struct hu hy
      refine h n cs (hl.trans h3) fun i u hi => ?_
      have hlt : i < ts.length := (List.getElem?_eq_some_iff.1 hi).1
      have hlf : i < fs.toList.length := by rw [← h1] at hlt; simpa using hlt
      have hf : fs[i]? = some (fs.toList[i]) := by rw [← Array.getElem?_toList, List.getElem?_eq_getElem hlf]
      have ht : (fs.toList[i]).type = u := by
        rw [← h1, List.getElem?_map, List.getElem?_eq_getElem hlf] at hi
        simpa using hi
      have ho : (fs.toList[i]).offset = ((ts.take i).map P.cellsOf).sum := by
        have h5 := offs_get P ts 0 i hlt
        rw [← h2, List.getElem?_map, List.getElem?_eq_getElem hlf] at h5
        simpa using h5
      have h6 := hx i _ hf
      rw [ht, ho] at h6
      have hlx : i < xs.length := by rw [hn]; simpa using hlf
      exact ⟨xs[i], by rw [h6, List.getElem?_eq_getElem hlx]⟩
    | _ => cases hB

theorem wf_i64 {z : Int} (h : (Lit.int .i64 z).wf = true) : -9223372036854775808 ≤ z ∧ z ≤ 9223372036854775807 := by
  simp only [Lit.wf, Bool.and_eq_true, decide_eq_true_eq] at h
  have e1 : IntKind.min .i64 = -9223372036854775808 := by decide
  have e2 : IntKind.max .i64 = 9223372036854775807 := by decide
  omega
end
end Go.Eng

/- A network that came in as an argument. -/
namespace Go.Proofs.YtnkpfpgmbpnbgaaGreatDoor
open Go.ChangeShapes Go.WideShapes Go.ChangeAt Go.RowKit Go.Eng Go.Nw

section
variable {H : Type} {enc : TypeId × Value → H} {W : World} {spare : Nat → Bool} {held : Bool}
abbrev I64 (z : Int) : Prop := (Lit.int .i64 z).wf = true
theorem op_i : Opn enc Tryz.prog W spare held 3 numF I64 := op_int Tryz.underlying3
structure NetG (W : World) (n : NetM) : Prop where
  nodes : I64 n.nodes
  pw : Old W n.pA (n.rows.flatMap rowF)
  rw_ : ∀ r ∈ n.rows, Old W r.A (r.xs.flatMap numF)
  noise : I64 n.noise
  thr : I64 n.thr
  lk : Old W n.lA (n.links.flatMap lkF)
  mg : Old W n.mA (n.margin.flatMap numF)
  s1 : n.rows.length ≤ 9223372036854775807
  s2 : ∀ r ∈ n.rows, r.xs.length ≤ 9223372036854775807
  s3 : n.links.length ≤ 9223372036854775807
  s4 : n.margin.length ≤ 9223372036854775807
  w1 : ∀ r ∈ n.rows, ∀ z ∈ r.xs, I64 z
  w2 : ∀ l ∈ n.links, I64 l.1 ∧ I64 l.2.1 ∧ I64 l.2.2
  w3 : ∀ z ∈ n.margin, I64 z
  c3 : n.links.length ≤ n.lcap
  c4 : n.margin.length ≤ n.mcap
theorem NetG.In {n : NetM} {K : List HP} (h : NetG W n) : n.In W.heap.size W K := ⟨h.pw.rd, fun r hr => (h.rw_ r hr).rd, h.lk.rd, h.mg.rd, h.s1, h.s2, h.s3, h.s4⟩

theorem maxL : maxLen ≤ 9223372036854775807 := by decide
end
end Go.Proofs.YtnkpfpgmbpnbgaaGreatDoor

/- From a row's argument to a schedule, a cell, a list of flows, a text. -/
namespace Go.Proofs.YtnkpfpgmbpnbgaaGreatDoor
open Go.ChangeShapes Go.WideShapes Go.ChangeAt Go.RowKit Go.Eng Go.Nw
open Go.ChangeMaps (open_string)

section
variable {H : Type} {enc : TypeId × Value → H} {W : World} {spare : Nat → Bool} {held : Bool}
abbrev CelG (c : Cel) : Prop := I64 c.1 ∧ I64 c.2.1 ∧ I64 c.2.2.1 ∧ I64 c.2.2.2.1 ∧ I64 c.2.2.2.2
theorem op_cell : Opn enc Tryz.prog W spare held 51 celF CelG :=
  op_map (op_struct (ts := [3, 3, 3, 3, 3]) (by kernel_rfl) (fop_cons op_i (fop_cons op_i (fop_cons op_i (fop_cons op_i (fop_cons op_i fop_nil)))))) (fun x => (x.1, x.2.1, x.2.2.1, x.2.2.2.1, x.2.2.2.2.1)) (fun _ => rfl) (fun _ h => ⟨h.1, h.2.1, h.2.2.1, h.2.2.2.1, h.2.2.2.2.1⟩)
theorem op_cells : Opn enc Tryz.prog W spare held 28 (fun s : SlM Cel => [s.val]) (SlG W celF CelG) := op_slice (q := 5) Tryz.underlying28 (by kernel_rfl) (by decide) op_cell
structure SchG (W : World) (s : SchM) : Prop where
  len : I64 s.len
  off : I64 s.off
  old : Old W s.A (s.cells.flatMap celF)
  few : s.cells.length ≤ 9223372036854775807
  good : ∀ c ∈ s.cells, CelG c
  cap : s.cells.length ≤ s.cap
def schF (s : SchM) : List Value := [.int .i64 s.len, .int .i64 s.off, .slice s.A s.cells.length s.cap]
theorem op_sch : Opn enc Tryz.prog W spare held 30 schF (SchG W) :=
  op_map (op_struct (ts := [3, 3, 28]) (by kernel_rfl) (fop_cons op_i (fop_cons op_i (fop_cons op_cells fop_nil))))
    (fun x => ⟨x.1, x.2.1, x.2.2.1.A, x.2.2.1.cap, x.2.2.1.xs⟩) (fun x => by simp [schF, numF, SlM.val])
    (fun x h => by
      obtain ⟨h1, h2, h3, _⟩ := h
      exact ⟨h1, h2, h3.old, Nat.le_trans h3.len maxL, h3.good, h3.cap⟩)
set_option maxRecDepth 100000 in
theorem open_sch {r : Reach} {b0 : Nat} {v : Value} {d : DataW H} {p : List MemPlace} (hv : Value.okWide Tryz.prog W r b0 30 v) (h : DataW.Trod enc Tryz.prog W 0 spare held 30 v d p) : ∃ s : SchM, v = s.val ∧ SchG W s := by
  obtain ⟨cs, rfl, _⟩ := okWide_struct Tryz.underlying30 hv
  obtain ⟨fuel, hf⟩ := h
  obtain ⟨n, h1, h2⟩ := op_sch fuel _ _ hf
  refine ⟨n, ?_, h2⟩
  have : cs = (schF n).toArray := by rw [← h1]; simp [Value.cells]
  rw [this]; rfl
end
end Go.Proofs.YtnkpfpgmbpnbgaaGreatDoor

/- The law ScheduleRepeats returns true at every input, and its arguments read behind the call as they read before: the statement Rows.ScheduleRepeatsCardSaid. Condition: the listed package-level variables start as the program's text lays them, to which the card ties them. -/
namespace Go.Proofs.YtnkpfpgmbpnbgaaGreatDoor
open Go.ChangeShapes Go.WideShapes Go.ChangeAt Go.RowKit Go.Eng
open Go.ChangeMaps (open_string)

set_option maxRecDepth 100000 in
theorem srepeats_lifted (os : Os) (started : os.Started) (H : Type) (enc : TypeId × Value → H) :
    ReturnsInHanded {} Tryz.checked os 6 .any (fun w args => (Rows.scheduleRepeatsSpec.pre enc Tryz.prog Tryz.f6 [] false w args ∧ laidMetH Tryz.prog laidL w) ∧ sizedMet enc Tryz.prog Tryz.f6 (OpenSpec.ofChange Rows.scheduleRepeatsSpec) false w args)
      (Rows.scheduleRepeatsSpec.post enc Tryz.prog Tryz.f6 false true false false) := by
  refine handed_and_shaped (C := Tryz.checked) (X := fun w => laidMetH Tryz.prog laidL w) (fun _ _ hh h => h.of_heap hh) Tryz.own started (by kernel_rfl) Tryz.func6
    (ChangeSpec.witness_shaped (enc := enc) (C := Tryz.checked) (os := os) (X := fun w _ => laidMetH Tryz.prog laidL w) false (laidWorld os) #[.agg #[.int .i64 0, .int .i64 0, .slice none 0 0], .int .i64 0] 8 rfl (laidWorld_shaped os _) (by kernel_rfl) (by kernel_rfl) (by kernel_rfl) (laidWorld_met os _)) ?_
  intro W base args ds gs before hval0 hW hL hsh
  have hval : ∀ (j : Nat) t v, Tryz.f6.params[j]? = some t → args[j]? = some v → Value.okWide Tryz.prog W .any base t v := hval0
  have hW' : DataW.Whole enc Tryz.prog Tryz.f6.params.toList Rows.scheduleRepeatsSpec.vars false W args.toList ds gs before := hW
  obtain ⟨p, q, hA0, hV, rfl, hfz, hnd⟩ := hW
  have hA : DataW.TrodAll enc Tryz.prog W 0 (fun _ => true) true Tryz.f6.params.toList args.toList ds p := hA0
  obtain ⟨rfl, rfl⟩ := trodVars_none hV
  rw [Tryz.params6] at hA hval
  obtain ⟨v0, v1, d0, d1, p0, p1, rfl, rfl, rfl, h0, h1⟩ := trodAll_two hA
  obtain ⟨s, rfl, hs⟩ := open_sch (hval 0 _ v0 rfl rfl) h0
  obtain ⟨times, rfl, -, -, hwtimes⟩ := open_int Tryz.underlying3 (hval 1 _ v1 rfl rfl) h1
  have htimes := wf_i64 hwtimes
  have ht := tabs_of hL hsh
  refine (law_repeats s times ht hs.old.rd (St.start W)).mono ?_
  rintro e' W' ⟨v, K, rfl, hst, rfl, -⟩
  exact ⟨_, rfl, post_true Tryz.laidOut (by kernel_rfl) rfl rfl Tryz.underlying4 hW' hst.below rfl rfl rfl⟩
theorem srepeats_row : Rows.ScheduleRepeatsSaid :=
  OpenClaim.holds_of_wide 6 Tryz.f6 rfl rfl rfl rfl rfl rfl rfl ⟨rfl, rfl, rfl, rfl, rfl⟩ rfl rfl rfl rfl rfl (by kernel_rfl) Tryz.func6 (by kernel_rfl)
    (of_decide_eq_true (by kernel_rfl)) (by unfold Func.isWrapper; first | (rw [if_pos (by decide +kernel)]; kernel_rfl) | (rw [if_neg (by decide +kernel)]; exact ⟨rfl, rfl⟩))
    (fun os started H enc _ => srepeats_lifted os started H enc)
theorem srepeats_holds : Rows.ScheduleRepeatsCardSaid :=
  Claim7.holds_tied_plain_at .later [] [.data, .data, .data, .data, .sentinel, .sentinel, .pinned] true _ true
    srepeats_row (fun _ h => by cases h) (by kernel_rfl) (fun _ h => by cases h) scheduleRepeats_row_tie rfl ⟨rfl, rfl⟩ (by kernel_rfl) rfl
    (fun f fn hf hfn => by
      obtain rfl : f = 6 := Option.some.inj ((show Tryz.prog.funcNamed Tryz.f6.name = some 6 by kernel_rfl).symm.trans hf) |>.symm
      obtain rfl : fn = Tryz.f6 := (Option.some.inj (Tryz.func6.symm.trans hfn)).symm
      exact ⟨by kernel_rfl, fun j t htj => by
        have hm := Array.mem_of_getElem? htj
        have hall : (Tryz.f6.params.toList.all fun u => !Tryz.prog.wantsStandIn u) = true := by kernel_rfl
        exact (show Tryz.prog.wantsStandIn t = false by simpa using List.all_eq_true.1 hall t (by simpa using hm))⟩)
    (by kernel_rfl)
end Go.Proofs.YtnkpfpgmbpnbgaaGreatDoor
