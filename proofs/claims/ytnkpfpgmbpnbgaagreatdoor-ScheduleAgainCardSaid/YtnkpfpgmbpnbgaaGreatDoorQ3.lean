/- Lemmas for the claim, part 3. -/
import Derived.Lib.Builder
import Derived.Lib.AtoiAllCases
import Derived.Deep.Slices
import Derived.Lib.SmallJoins
import Derived.OpenShut
import Derived.ProofKit
import Derived.Below
import Derived.ChangeSame
import Derived.Carry
import Derived.Test.YtnkpfpgmbpnbgaaGreatDoorQ2

/- Walks: cells and schedules in memory; cells compared, in range. -/
namespace Go.Proofs.YtnkpfpgmbpnbgaaGreatDoor
open Go.RowKit Go.Eng Go.Nw

def celF (c : Cel) : List Value := [.int .i64 c.1, .int .i64 c.2.1, .int .i64 c.2.2.1, .int .i64 c.2.2.2.1, .int .i64 c.2.2.2.2]
def celV (c : Cel) : Value := .agg #[.int .i64 c.1, .int .i64 c.2.1, .int .i64 c.2.2.1, .int .i64 c.2.2.2.1, .int .i64 c.2.2.2.2]
structure SchM where
  len : Int
  off : Int
  A : Option Addr
  cap : Nat
  cells : List Cel
def SchM.sch (s : SchM) : Sch := ⟨s.len, s.off, s.cells⟩
def SchM.val (s : SchM) : Value := .agg #[.int .i64 s.len, .int .i64 s.off, .slice s.A s.cells.length s.cap]
theorem cmp_lt (a b : Cel) : cmpV (nums a) (nums b) < 0 ↔ celLt a b = true := by
  unfold cmpV celLt
  by_cases h1 : lexLt (nums a) (nums b) = true
  · rw [if_pos h1]; simp [h1]
  · rw [if_neg h1]
    split <;> simp [h1]
theorem numbers_spec (c : Cel) {B : Nat} {w0 : World} {H : List HP} {w : World} (hw : St B w0 H w) :
    Calls Tryz.prog 56 [celV c].toArray w (Post B w0 fun v K => v = celV c ∧ K = H) := by
  refine Calls_of_VC Tryz.func56 Tryz.ntmps56 rfl rfl hw ?_
  repeat' (first | (apply zg2; refine zs6 ?_) | (apply zg3; refine zs7 ?_) | (apply zg22; refine zs51 ?_) | (apply zg23; (refine zs52 ?_; intro _)) | (apply zg24; (refine zs54 ?_; intro _)) | (apply zg25; refine zs55 ?_) | apply (zs65 ?_) | apply (zs68 ?_) | apply (zs69 ?_) | apply (zs70 ?_) | apply (zs74 ?_) | fail)
  (apply VQ_retc1 T (H2 := H); exact rfl; exact rfl; (focus repeat (first | with_reducible exact List.mem_cons_self | with_reducible apply List.mem_cons_of_mem | assumption)); exact rfl; exact rfl; (intro w hw; refine hw.perm ?_; focus repeat (first | with_reducible exact Perm.refl _ | (with_reducible apply perm_take; focus ((repeat (first | with_reducible exact rem_here | with_reducible apply rem_there)); done)) | with_reducible apply Perm.dropK)); exact ⟨rfl, rfl⟩)

set_option maxRecDepth 10000 in
set_option maxHeartbeats 2000000 in
theorem order_spec (a b : Cel) {B : Nat} {w0 : World} {H : List HP} {w : World} (hw : St B w0 H w) :
    Calls Tryz.prog 104 [celV a, celV b, .func (.func 56) #[] #[]].toArray w (Post B w0 fun v K => v = .int .i64 (cmpV (nums a) (nums b)) ∧ K = H) := by
  refine Calls_of_VC Tryz.func104 Tryz.ntmps104 rfl rfl hw ?_
  apply VC_seq
  iterate 5 (first | apply (zs2 ?_) | (apply zg23; (refine zs52 ?_; intro _)) | apply (zs65 ?_) | apply (zs70 ?_) | fail)
  apply VQ_then
  apply VC_seq
  refine VC_cutQ (fun (z : Nat × Nat) => [(7, .pointer (some ⟨z.1, 0, none⟩)), (8, .pointer (some ⟨z.2, 0, none⟩))]) (fun z => blk z.1 (.cells (celF a).toArray 89 (0, 0)) :: blk z.2 (.cells (celF b).toArray 89 (0, 0)) :: H) ?_ ?_
  · intro K hK
    apply VC_treeU (.n1 0 (.n1 1 (.n1 3 (.n1 4 (.n3 2 (.n3 5 (.n2 6 (.n1 7 .done) 7 (.n1 6 .done)) 6 (.n2 5 (.n1 7 .done) 7 (.n1 5 .done)) 7 (.n2 5 (.n1 6 .done) 6 (.n1 5 .done))) 6 (.n2 2 (.n2 5 (.n1 7 .done) 7 (.n1 5 .done)) 7 (.n1 2 (.n1 5 .done))) 7 (.n2 2 (.n2 5 (.n1 6 .done) 6 (.n1 5 .done)) 6 (.n1 2 (.n1 5 .done)))))))) [8, 9] [true, true]
    kernel_rfl
    kernel_rfl
    (repeat (first | with_reducible exact split_nil | with_reducible apply split_t | with_reducible apply split_f))
    (simp only [pickOps, nthO]; rfl)
    repeat' (first | ((first | apply VL_callvt (cs := []) | apply VL_callvq (cs := [])); exact rfl; exact en56; (repeat (first | exact args_nil | (apply args_cons; exact rfl))); exact rfl; exact fun _ hw => (numbers_spec _ hw)) | (apply VU_n3; (simp only [nthO]; rfl); (simp only [nthO]; rfl); (simp only [nthO]; rfl)) | (apply VU_n2; (simp only [nthO]; rfl); (simp only [nthO]; rfl)) | (apply VU_n1; (simp only [nthO]; rfl)) | (apply VQ_treeu; (repeat (first | with_reducible exact pull_nil | (with_reducible apply pull_cons; (repeat (first | with_reducible exact rem_here | with_reducible apply rem_there)))))) | (apply VU_done; (repeat (first | with_reducible exact app_nil | with_reducible apply app_cons | exact app_niln _))) | apply (zs1 ?_) | (apply zg3; refine zs8 ?_) | (apply zg22; refine zs51 ?_) | (apply zg24; (refine zs54 ?_; intro _)) | apply (zs65 ?_) | (apply VL_nilh; (repeat (first | with_reducible exact app_nil | with_reducible apply app_cons | exact app_niln _))) | apply (zs87 ?_) | (apply VQ_heldq; (repeat (first | with_reducible exact pull_nil | (with_reducible apply pull_cons; (repeat (first | with_reducible exact rem_here | with_reducible apply rem_there)))))) | apply (zs93 ?_) | apply (zs94 ?_) | fail)
    all_goals (
      rename_i ga gb
      first
        | (refine hK (ga, gb) _ _ (by ((repeat (first | exact sub_nil _ | (apply sub_cons; first | exact rfl | exact congrArg (fun z : Int => some (Value.int .i64 z)) (by omega)))))) ?_; dsimp only [celF]; ((intro w hw; refine hw.perm ?_; focus repeat (first | with_reducible exact Perm.refl _ | (with_reducible apply perm_take; focus ((repeat (first | with_reducible exact rem_here | with_reducible apply rem_there)); done)) | with_reducible apply Perm.dropK))); done)
        | (refine hK (gb, ga) _ _ (by ((repeat (first | exact sub_nil _ | (apply sub_cons; first | exact rfl | exact congrArg (fun z : Int => some (Value.int .i64 z)) (by omega)))))) ?_; dsimp only [celF]; ((intro w hw; refine hw.perm ?_; focus repeat (first | with_reducible exact Perm.refl _ | (with_reducible apply perm_take; focus ((repeat (first | with_reducible exact rem_here | with_reducible apply rem_there)); done)) | with_reducible apply Perm.dropK))); done))
  rintro ⟨g1, g2⟩
  dsimp only
  have hA : Rd B w0 (blk g1 (.cells (celF a).toArray 89 (0, 0)) :: blk g2 (.cells (celF b).toArray 89 (0, 0)) :: H) (some ⟨g1, 0, none⟩) ((nums a).flatMap numF) := Rd.blk (cs := (celF a).toArray) (.head _)
  have hB : Rd B w0 (blk g1 (.cells (celF a).toArray 89 (0, 0)) :: blk g2 (.cells (celF b).toArray 89 (0, 0)) :: H) (some ⟨g2, 0, none⟩) ((nums b).flatMap numF) := Rd.blk (cs := (celF b).toArray) (.tail _ (.head _))
  repeat' (first | (apply VL_slice_all T (e := 3); exact rfl; exact rfl; exact rfl) | ((first | apply VL_callt en141 | apply VL_callq en141); (repeat (first | exact args_nil | (apply args_cons; exact rfl))); exact rfl; exact fun _ hw => (compareI_spec (nums a) (nums b) (by simp [nums]) (by simp [nums]) hA hB hw)) | apply (zs2 ?_) | apply (zs66 ?_) | apply (zs68 ?_) | apply (zs69 ?_) | apply (zs74 ?_) | (apply zg28; refine zs84 ?_) | fail)
  apply VQ_st H
  · (intro w hw; refine hw.perm ?_; focus repeat (first | with_reducible exact Perm.refl _ | (with_reducible apply perm_take; focus ((repeat (first | with_reducible exact rem_here | with_reducible apply rem_there)); done)) | with_reducible apply Perm.dropK))
  apply VQ_ret1; exact rfl; exact rfl
  exact ⟨rfl, rfl⟩
theorem compareC_spec (a b : Cel) {B : Nat} {w0 : World} {H : List HP} {w : World} (hw : St B w0 H w) :
    Calls Tryz.prog 68 [celV a, celV b].toArray w (Post B w0 fun v K => v = .int .i64 (cmpV (nums a) (nums b)) ∧ K = H) := by
  refine Calls_of_VC Tryz.func68 Tryz.ntmps68 rfl rfl hw ?_
  repeat' (first | ((first | apply VL_callt en104 | apply VL_callq en104); (repeat (first | exact args_nil | (apply args_cons; exact rfl))); exact rfl; exact fun _ hw => (order_spec a b hw)) | apply (zs2 ?_) | (apply zg3; refine zs8 ?_) | (apply zg23; (refine zs52 ?_; intro _)) | apply (zs65 ?_) | apply (zs68 ?_) | apply (zs69 ?_) | apply (zs70 ?_) | apply (zs74 ?_) | fail)
  apply VQ_st H
  · (intro w hw; refine hw.perm ?_; focus repeat (first | with_reducible exact Perm.refl _ | (with_reducible apply perm_take; focus ((repeat (first | with_reducible exact rem_here | with_reducible apply rem_there)); done)) | with_reducible apply Perm.dropK))
  apply VQ_ret1; exact rfl; exact rfl
  exact ⟨rfl, rfl⟩
theorem inside_spec (x n : Int) {B : Nat} {w0 : World} {H : List HP} {w : World} (hw : St B w0 H w) :
    Calls Tryz.prog 105 [.int .i64 x, .int .i64 n].toArray w (Post B w0 fun v K => v = .bool (insE x n) ∧ K = H) := by
  refine Calls_of_VC Tryz.func105 Tryz.ntmps105 rfl rfl hw ?_
  repeat' (first | apply (zs1 ?_) | apply (zs2 ?_) | (apply zg1; first | refine zs3 ?_ | refine zs4 ?_) | (apply zg6; first | refine zs11 ?_ | refine zs12 ?_) | (apply (zs17 ?_ ?_) <;> intro _ <;> try (exfalso; omega)) | (apply (zs20 ?_ ?_) <;> intro _ <;> try (exfalso; omega)) | apply (zs65 ?_) | apply (zs68 ?_) | apply (zs69 ?_) | apply (zs70 ?_) | apply (zs74 ?_) | fail)
  all_goals (
    apply VQ_ret1; exact rfl; exact rfl
    first
      | exact ⟨by rw [show insE x n = true from decide_eq_true (by omega)], rfl⟩
      | exact ⟨by rw [show insE x n = false from decide_eq_false (by omega)], rfl⟩)
theorem placed_spec (s : SchM) (c : Cel) {B : Nat} {w0 : World} {H : List HP} {w : World} (hw : St B w0 H w) :
    Calls Tryz.prog 84 [s.val, celV c].toArray w (Post B w0 fun v K => v = .bool (placedE s.sch c) ∧ K = H) := by
  refine Calls_of_VC Tryz.func84 Tryz.ntmps84 rfl rfl hw ?_
  repeat' (first | ((first | apply VL_calltb en105 | apply VL_callqb en105); (repeat (first | exact args_nil | (apply args_cons; exact rfl))); exact rfl; exact fun _ hw => (inside_spec _ _ hw); all_goals (intro hB; (try simp only [decide_eq_true_eq, decide_eq_false_iff_not] at hB); try (exfalso; omega))) | apply (zs1 ?_) | apply (zs2 ?_) | (apply zg1; first | refine zs3 ?_ | refine zs4 ?_) | (apply zg2; refine zs6 ?_) | (apply zg3; refine zs7 ?_) | (apply zg6; first | refine zs11 ?_ | refine zs12 ?_) | (apply zg23; (refine zs52 ?_; intro _)) | apply (zs65 ?_) | apply (zs68 ?_) | apply (zs69 ?_) | apply (zs70 ?_) | apply (zs74 ?_) | fail)
  all_goals (
    apply VQ_st H
    · (intro w hw; refine hw.perm ?_; focus repeat (first | with_reducible exact Perm.refl _ | (with_reducible apply perm_take; focus ((repeat (first | with_reducible exact rem_here | with_reducible apply rem_there)); done)) | with_reducible apply Perm.dropK))
    apply VQ_ret1; exact rfl; exact rfl
    exact ⟨by simp [placedE, SchM.sch, *], rfl⟩)
theorem formed_spec (s : SchM) (c : Cel) {B : Nat} {w0 : World} {H : List HP} {w : World} (hw : St B w0 H w) :
    Calls Tryz.prog 71 [s.val, celV c].toArray w (Post B w0 fun v K => v = .bool (formedE s.sch c) ∧ K = H) := by
  refine Calls_of_VC Tryz.func71 Tryz.ntmps71 rfl rfl hw ?_
  repeat' (first | ((first | apply VL_calltb en84 | apply VL_callqb en84); (repeat (first | exact args_nil | (apply args_cons; exact rfl))); exact rfl; exact fun _ hw => (placed_spec s c hw); all_goals (intro hB; (try simp only [decide_eq_true_eq, decide_eq_false_iff_not] at hB); try (exfalso; omega))) | ((first | apply VL_calltb en105 | apply VL_callqb en105); (repeat (first | exact args_nil | (apply args_cons; exact rfl))); exact rfl; exact fun _ hw => (inside_spec _ _ hw); all_goals (intro hB; (try simp only [decide_eq_true_eq, decide_eq_false_iff_not] at hB); try (exfalso; omega))) | apply (zs1 ?_) | apply (zs2 ?_) | (apply zg1; first | refine zs3 ?_ | refine zs4 ?_) | (apply zg2; refine zs6 ?_) | (apply zg3; first | refine zs7 ?_ | refine zs8 ?_) | (apply zg6; first | refine zs11 ?_ | refine zs12 ?_) | (apply zg23; (refine zs52 ?_; intro _)) | apply (zs65 ?_) | apply (zs68 ?_) | apply (zs69 ?_) | apply (zs70 ?_) | apply (zs74 ?_) | fail)
  all_goals (
    apply VQ_st H
    · (intro w hw; refine hw.perm ?_; focus repeat (first | with_reducible exact Perm.refl _ | (with_reducible apply perm_take; focus ((repeat (first | with_reducible exact rem_here | with_reducible apply rem_there)); done)) | with_reducible apply Perm.dropK))
    apply VQ_ret1; exact rfl; exact rfl
    exact ⟨by simp [formedE, *], rfl⟩)
theorem sized_spec (s : SchM) {B : Nat} {w0 : World} {H : List HP} {w : World} (hw : St B w0 H w) :
    Calls Tryz.prog 40 [s.val].toArray w (Post B w0 fun v K => v = .bool (sizedE s.sch) ∧ K = H) := by
  refine Calls_of_VC Tryz.func40 Tryz.ntmps40 rfl rfl hw ?_
  have e1 : s.sch.len = s.len := rfl
  have e2 : s.sch.off = s.off := rfl
  repeat' (first | apply (zs1 ?_) | apply (zs2 ?_) | (apply zg1; first | refine zs3 ?_ | refine zs4 ?_) | (apply zg2; refine zs6 ?_) | (apply zg3; refine zs7 ?_) | (apply zg6; first | refine zs11 ?_ | refine zs12 ?_) | (apply (zs18 ?_ ?_) <;> intro _ <;> try (exfalso; omega)) | (apply (zs20 ?_ ?_) <;> intro _ <;> try (exfalso; omega)) | (apply zg23; (refine zs52 ?_; intro _)) | apply (zs65 ?_) | apply (zs68 ?_) | apply (zs69 ?_) | apply (zs70 ?_) | apply (zs74 ?_) | fail)
  all_goals (
    apply VQ_st H
    · (intro w hw; refine hw.perm ?_; focus repeat (first | with_reducible exact Perm.refl _ | (with_reducible apply perm_take; focus ((repeat (first | with_reducible exact rem_here | with_reducible apply rem_there)); done)) | with_reducible apply Perm.dropK))
    apply VQ_ret1; exact rfl; exact rfl
    first
      | exact ⟨by rw [show sizedE s.sch = true from decide_eq_true (by omega)], rfl⟩
      | exact ⟨by rw [show sizedE s.sch = false from decide_eq_false (by omega)], rfl⟩)
end Go.Proofs.YtnkpfpgmbpnbgaaGreatDoor

/- Walks: form; the cells of a slot. -/
namespace Go.Proofs.YtnkpfpgmbpnbgaaGreatDoor
open Go.RowKit Go.Eng Go.Nw

theorem celOk_no {s : Sch} {i : Nat} (hi : i < s.cells.length) (h : celOk s i = false) : formE s = false := by
  unfold formE
  rw [all_range_no hi h, Bool.and_false]
set_option maxRecDepth 10000 in
set_option maxHeartbeats 1000000 in
theorem form_spec (s : SchM) {B : Nat} {w0 : World} {H : List HP} {w : World} (hr : Rd B w0 H s.A (s.cells.flatMap celF)) (hl : s.cells.length ≤ 1000000000000) (hw : St B w0 H w) :
    Calls Tryz.prog 53 [s.val].toArray w (Post B w0 fun v K => v = .bool (formE s.sch) ∧ K = H) := by
  refine Calls_of_VC Tryz.func53 Tryz.ntmps53 rfl rfl hw ?_
  have e1 : s.sch.cells = s.cells := rfl
  repeat' (first | ((first | apply VL_calltb en40 | apply VL_callqb en40); (repeat (first | exact args_nil | (apply args_cons; exact rfl))); exact rfl; exact fun _ hw => (sized_spec s hw); all_goals (intro hB; (try simp only [decide_eq_true_eq, decide_eq_false_iff_not] at hB); try (exfalso; omega))) | apply (zs1 ?_) | apply (zs2 ?_) | (apply zg1; first | refine zs3 ?_ | refine zs4 ?_) | (apply zg2; refine zs6 ?_) | (apply zg3; first | refine zs7 ?_ | refine zs8 ?_) | (apply zg4; refine zs9 ?_) | (apply zg6; first | refine zs11 ?_ | refine zs12 ?_) | (apply (zs19 ?_ ?_) <;> intro _ <;> try (exfalso; omega)) | (apply zg20; first | refine zs47 ?_ | refine zs48 ?_) | (apply zg23; (refine zs52 ?_; intro _)) | apply (zs65 ?_) | apply (zs68 ?_) | apply (zs69 ?_) | apply (zs70 ?_) | (apply zg27; first | refine zs71 ?_ | refine zs72 ?_) | apply (zs73 ?_) | apply (zs74 ?_) | apply (zs76 ?_) | apply (zs77 ?_) | fail)
  · apply VQ_st H
    · (intro w hw; refine hw.perm ?_; focus repeat (first | with_reducible exact Perm.refl _ | (with_reducible apply perm_take; focus ((repeat (first | with_reducible exact rem_here | with_reducible apply rem_there)); done)) | with_reducible apply Perm.dropK))
    apply VQ_ret1; exact rfl; exact rfl
    exact ⟨by rw [show formE s.sch = false by unfold formE; rw [e1, decide_eq_false (by omega), Bool.and_false, Bool.false_and]], rfl⟩
  rotate_left
  · apply VQ_st H
    · (intro w hw; refine hw.perm ?_; focus repeat (first | with_reducible exact Perm.refl _ | (with_reducible apply perm_take; focus ((repeat (first | with_reducible exact rem_here | with_reducible apply rem_there)); done)) | with_reducible apply Perm.dropK))
    apply VQ_ret1; exact rfl; exact rfl
    exact ⟨by simp [formE, *], rfl⟩
  rename_i g _
  refine VC_loop1 (fun (i : Nat) => [(17, .int .i64 i), (16, .int .i64 s.cells.length), (15, .slice s.A s.cells.length s.cap), (1, .pointer (some ⟨g, 0, none⟩))]) (fun _ => blk g (.cells #[.int .i64 s.len, .int .i64 s.off, .slice s.A s.cells.length s.cap] 30 (0, 0)) :: H) (fun i => i ≤ s.cells.length ∧ (List.range i).all (celOk s.sch) = true) (fun i => s.cells.length - i) 0 ⟨Nat.zero_le _, rfl⟩ ?_ (fun w hw => hw) ?_
  · (repeat (first | exact sub_nil _ | (apply sub_cons; first | exact rfl | exact congrArg (fun z : Int => some (Value.int .i64 z)) (by omega))))
  rintro i ⟨hi, hall⟩ K hK
  have hr := hr.cons (X := blk g (.cells #[.int .i64 s.len, .int .i64 s.off, .slice s.A s.cells.length s.cap] 30 (0, 0)))
  by_cases hlt : i < s.cells.length
  · have hget : s.cells[i]? = some (celAt s.sch i) := celAt_some (s := s.sch) hlt
    have hgo : celOk s.sch i = false → formE s.sch = false := celOk_no (s := s.sch) hlt
    have hst : celOk s.sch i = true → (List.range (i + 1)).all (celOk s.sch) = true := fun h => by rw [all_range_step, hall, h]; rfl
    rcases Nat.eq_zero_or_pos i with h0 | h0
    · subst h0
      repeat' (first | ((first | apply VL_calltb en71 | apply VL_callqb en71); (repeat (first | exact args_nil | (apply args_cons; exact rfl))); exact rfl; exact fun _ hw => (formed_spec s _ hw); all_goals (intro hB; (try simp only [decide_eq_true_eq, decide_eq_false_iff_not] at hB); try (exfalso; omega))) | apply (zs1 ?_) | apply (zs2 ?_) | (apply zg1; first | refine zs3 ?_ | refine zs4 ?_) | (apply zg3; first | refine zs8 ?_ | refine zs61 ?_) | (apply zg5; refine zs57 ?_) | (apply zg6; first | refine zs11 ?_ | refine zs12 ?_) | (apply (zs17 ?_ ?_) <;> intro _ <;> try (exfalso; omega)) | (apply (zs19 ?_ ?_) <;> intro _ <;> try (exfalso; omega)) | (apply zg13; refine zs30 ?_) | (apply zg20; first | refine zs47 ?_ | refine zs48 ?_) | (apply zg22; refine zs51 ?_) | (apply zg24; (refine zs54 ?_; intro _)) | apply (zs65 ?_) | apply (zs66 ?_) | apply (zs68 ?_) | apply (zs69 ?_) | apply (zs70 ?_) | (apply zg27; first | refine zs71 ?_ | refine zs72 ?_) | apply (zs73 ?_) | apply (zs74 ?_) | apply (zs76 ?_) | apply (zs77 ?_) | apply (zs78 ?_) | apply (zs79 ?_) | (apply zg28; refine zs84 ?_) | fail)
      · apply hK (0 + 1)
        · exact ⟨by omega, hst (by simp [celOk, *])⟩
        · omega
        · (repeat (first | exact sub_nil _ | (apply sub_cons; first | exact rfl | exact congrArg (fun z : Int => some (Value.int .i64 z)) (by omega))))
        · (intro w hw; refine hw.perm ?_; focus repeat (first | with_reducible exact Perm.refl _ | (with_reducible apply perm_take; focus ((repeat (first | with_reducible exact rem_here | with_reducible apply rem_there)); done)) | with_reducible apply Perm.dropK))
      · apply VQ_st H
        · (intro w hw; refine hw.perm ?_; focus repeat (first | with_reducible exact Perm.refl _ | (with_reducible apply perm_take; focus ((repeat (first | with_reducible exact rem_here | with_reducible apply rem_there)); done)) | with_reducible apply Perm.dropK))
        apply VQ_ret1; exact rfl; exact rfl
        exact ⟨by rw [hgo (by simp [celOk, *])], rfl⟩
    · have hget2 : s.cells[((i : Int) - 1).toNat]? = some (celAt s.sch (i - 1)) := by
        rw [show ((i : Int) - 1).toNat = i - 1 by omega]
        exact celAt_some (s := s.sch) (show i - 1 < s.cells.length by omega)
      repeat' (first | ((first | apply VL_calltb en71 | apply VL_callqb en71); (repeat (first | exact args_nil | (apply args_cons; exact rfl))); exact rfl; exact fun _ hw => (formed_spec s _ hw); all_goals (intro hB; (try simp only [decide_eq_true_eq, decide_eq_false_iff_not] at hB); try (exfalso; omega))) | ((first | apply VL_callt en68 | apply VL_callq en68); (repeat (first | exact args_nil | (apply args_cons; exact rfl))); exact rfl; exact fun _ hw => (compareC_spec _ _ hw)) | apply (zs1 ?_) | apply (zs2 ?_) | (apply zg1; first | refine zs3 ?_ | refine zs4 ?_) | (apply zg2; refine zs6 ?_) | (apply zg3; first | refine zs7 ?_ | refine zs8 ?_ | refine zs61 ?_) | (apply zg5; refine zs57 ?_) | (apply zg6; first | refine zs11 ?_ | refine zs12 ?_) | (apply (zs17 ?_ ?_) <;> intro _ <;> try (exfalso; omega)) | (apply (zs19 ?_ ?_) <;> intro _ <;> try (exfalso; omega)) | (apply (zs20 ?_ ?_) <;> intro _ <;> try (exfalso; omega)) | (apply zg13; refine zs30 ?_) | (apply zg14; refine zs31 ?_) | (apply zg20; first | refine zs47 ?_ | refine zs48 ?_) | (apply zg22; refine zs51 ?_) | (apply zg24; (refine zs54 ?_; intro _)) | apply (zs65 ?_) | apply (zs66 ?_) | apply (zs68 ?_) | apply (zs69 ?_) | apply (zs70 ?_) | (apply zg27; first | refine zs71 ?_ | refine zs72 ?_) | apply (zs73 ?_) | apply (zs74 ?_) | apply (zs76 ?_) | apply (zs77 ?_) | apply (zs78 ?_) | apply (zs79 ?_) | (apply zg28; refine zs84 ?_) | fail)
      all_goals first
        | (apply hK (i + 1)
           · refine ⟨by omega, hst ?_⟩
             have hc : cmpV (nums (celAt s.sch (i - 1))) (nums (celAt s.sch i)) < 0 := by omega
             simp [celOk, (cmp_lt _ _).1 hc, *]
           · omega
           · (repeat (first | exact sub_nil _ | (apply sub_cons; first | exact rfl | exact congrArg (fun z : Int => some (Value.int .i64 z)) (by omega))))
           · (intro w hw; refine hw.perm ?_; focus repeat (first | with_reducible exact Perm.refl _ | (with_reducible apply perm_take; focus ((repeat (first | with_reducible exact rem_here | with_reducible apply rem_there)); done)) | with_reducible apply Perm.dropK))
           done)
        | (apply VQ_st H
           · (intro w hw; refine hw.perm ?_; focus repeat (first | with_reducible exact Perm.refl _ | (with_reducible apply perm_take; focus ((repeat (first | with_reducible exact rem_here | with_reducible apply rem_there)); done)) | with_reducible apply Perm.dropK))
           apply VQ_ret1; exact rfl; exact rfl
           refine ⟨?_, rfl⟩
           rw [hgo]
           first
             | (simp [celOk, *]; done)
             | (have hc : ¬ cmpV (nums (celAt s.sch (i - 1))) (nums (celAt s.sch i)) < 0 := by omega
                have hd : celLt (celAt s.sch (i - 1)) (celAt s.sch i) = false := by
                  rw [cmp_lt] at hc
                  simpa using hc
                simp [celOk, hd]
                omega))
  · repeat' (first | apply (zs2 ?_) | (apply (zs17 ?_ ?_) <;> intro _ <;> try (exfalso; omega)) | apply (zs65 ?_) | apply (zs68 ?_) | apply (zs69 ?_) | apply (zs70 ?_) | (apply zg27; refine zs72 ?_) | apply (zs74 ?_) | apply (zs75 ?_) | apply (zs80 ?_) | apply (zs81 ?_) | fail)
    apply VQ_st H
    · (intro w hw; refine hw.perm ?_; focus repeat (first | with_reducible exact Perm.refl _ | (with_reducible apply perm_take; focus ((repeat (first | with_reducible exact rem_here | with_reducible apply rem_there)); done)) | with_reducible apply Perm.dropK))
    apply VQ_ret1; exact rfl; exact rfl
    refine ⟨?_, rfl⟩
    rw [show i = s.cells.length by omega] at hall
    rw [show formE s.sch = true by unfold formE; rw [e1, hall, decide_eq_true (by omega)]; simp [*]]
end Go.Proofs.YtnkpfpgmbpnbgaaGreatDoor

/- Walks: the cells of a slot. -/
namespace Go.Proofs.YtnkpfpgmbpnbgaaGreatDoor
open Go.RowKit Go.Eng Go.Nw

/-- The indices of the cells of a slot, among the first k. -/
def inI (s : Sch) (slot : Int) (k : Nat) : List Nat := (List.range k).filter fun i => decide ((celAt s i).1 = slot)
def inXs (s : Sch) (slot : Int) : List (List Value) := (inI s slot s.cells.length).map fun (i : Nat) => [Value.int .i64 (i : Int)]
theorem inI_yes {s : Sch} {slot : Int} {k : Nat} (h : (celAt s k).1 = slot) : inI s slot (k + 1) = inI s slot k ++ [k] := by
  unfold inI; rw [List.range_succ, List.filter_append]; simp [h]
theorem inI_no {s : Sch} {slot : Int} {k : Nat} (h : (celAt s k).1 ≠ slot) : inI s slot (k + 1) = inI s slot k := by
  unfold inI; rw [List.range_succ, List.filter_append]; simp [h]
theorem inI_get {s : Sch} {slot : Int} {k n : Nat} (h : (celAt s k).1 = slot) (hk : k < n) : (inI s slot n)[(inI s slot k).length]? = some k := by
  obtain ⟨m, rfl⟩ : ∃ m, n = k + (m + 1) := ⟨n - k - 1, by omega⟩
  have e : inI s slot (k + (m + 1)) = inI s slot k ++ ((List.range (m + 1)).map (k + ·)).filter fun i => decide ((celAt s i).1 = slot) := by
    unfold inI; rw [List.range_add, List.filter_append]
  rw [e, List.getElem?_append_right (Nat.le_refl _), Nat.sub_self, List.range_succ_eq_map]
  simp [h]
theorem inI_mem {s : Sch} {slot : Int} {k i : Nat} : i ∈ inI s slot k ↔ i < k ∧ (celAt s i).1 = slot := by
  unfold inI; simp

def schB (g : Nat) (s : SchM) : HP := blk g (.cells #[.int .i64 s.len, .int .i64 s.off, .slice s.A s.cells.length s.cap] 30 (0, 0))
def intB (g : Nat) (x : Int) : HP := blk g (.cells #[.int .i64 x] 3 (0, 0))

set_option maxRecDepth 10000 in
set_option maxHeartbeats 1000000 in
theorem in1_iter (s : SchM) (slot : Int) (gs gt : Nat) {B : Nat} {w0 : World} {HI : List HP} (hr : Rd B w0 HI s.A (s.cells.flatMap celF)) (hl : s.cells.length ≤ 1000000000000)
    (hms : blk gs (.cells #[.int .i64 s.len, .int .i64 s.off, .slice s.A s.cells.length s.cap] 30 (0, 0)) ∈ HI) (hmt : blk gt (.cells #[.int .i64 slot] 3 (0, 0)) ∈ HI) :
    IterS Tryz.prog 102 [.pointer (some ⟨gs, 0, none⟩), .pointer (some ⟨gt, 0, none⟩)] (inXs s.sch slot) B w0 HI := by
  refine IterS_of Tryz.func102 Tryz.ntmps102 rfl rfl ?_
  intro l SS X hy L0 h0
  repeat' (first | apply (zs1 ?_) | (apply zg2; refine zs6 ?_) | (apply zg3; refine zs7 ?_) | (apply zg4; refine zs9 ?_) | apply (zs65 ?_) | apply (zs68 ?_) | apply (zs69 ?_) | apply (zs70 ?_) | apply (zs73 ?_) | fail)
  refine VC_loop1 (fun (x : Nat × List HP) => [(9, .int .i64 x.1), (8, .int .i64 s.cells.length), (7, .slice s.A s.cells.length s.cap), (0, .func (.yield l) #[] #[]), (1, .pointer (some ⟨gs, 0, none⟩)), (2, .pointer (some ⟨gt, 0, none⟩))]) (fun x => many x.2 :: HI) (fun x => x.1 ≤ s.cells.length ∧ SS (inI s.sch slot x.1).length x.2) (fun x => s.cells.length - x.1) (0, L0) ⟨Nat.zero_le _, h0⟩ ?_ (fun w hw => hw) ?_
  · (repeat (first | exact sub_nil _ | (apply sub_cons; first | exact rfl | exact congrArg (fun z : Int => some (Value.int .i64 z)) (by omega))))
  rintro ⟨i, L⟩ ⟨hi, hS⟩ K hK
  dsimp only at hi hS ⊢
  have hr := hr.cons (X := many L)
  by_cases hlt : i < s.cells.length
  · have hget : s.cells[i]? = some (celAt s.sch i) := celAt_some (s := s.sch) hlt
    have hlt2 : i < s.sch.cells.length := hlt
    iterate 22 (first | apply (zs1 ?_) | apply (zs2 ?_) | (apply zg3; refine zs61 ?_) | (apply zg5; refine zs57 ?_) | (apply (zs17 ?_ ?_) <;> intro _ <;> try (exfalso; omega)) | (apply zg22; refine zs51 ?_) | (apply zg24; (refine zs54 ?_; intro _)) | apply (zs65 ?_) | apply (zs68 ?_) | apply (zs69 ?_) | apply (zs70 ?_) | (apply zg27; refine zs71 ?_) | apply (zs73 ?_) | apply (zs76 ?_) | fail)
    refine VC_regionY 7 rfl rfl (by rintro ⟨_, _, _, _, h, _⟩; cases h) ?_
    repeat' (first | apply (zs1 ?_) | (apply zg1; first | refine zs3 ?_ | refine zs4 ?_) | (apply zg2; refine zs6 ?_) | (apply zg3; refine zs7 ?_) | (apply zg7; (refine zs15 ?_ ?_ <;> intro _ <;> try (exfalso; omega))) | apply (zs65 ?_) | fail)
    · rename_i g5 hs
      have hx : (inXs s.sch slot)[(inI s.sch slot i).length]? = some [.int .i64 (i : Int)] := by
        rw [inXs, List.getElem?_map, inI_get hs hlt2]; rfl
      have hY := hy _ _ hx [blk g5 (.cells (celF (celAt s.sch i)).toArray 51 (0, 0))] L hS
      apply VQ_yield _ _ (hy := hY)
      · exact wanted_some (j := 4) (s := 18) rfl rfl rfl
      · exact rfl
      · (repeat (first | exact args_nil | (apply args_cons; exact rfl)))
      · exact rfl
      · rintro ⟨_, _, _, _, h, _⟩; cases h
      · rintro _ ⟨L', hS', rfl⟩
        repeat' (first | apply (zs1 ?_) | (apply zg1; refine zs4 ?_) | (apply zg6; refine zs11 ?_) | (apply zg13; refine zs30 ?_) | (apply zg20; refine zs47 ?_) | apply (zs65 ?_) | apply (zs68 ?_) | apply (zs70 ?_) | (apply zg27; refine zs72 ?_) | apply (zs76 ?_) | apply (zs79 ?_) | fail)
        apply hK (i + 1, L')
        · exact ⟨by omega, by rw [inI_yes hs, List.length_append]; exact hS'⟩
        · dsimp only; omega
        · (repeat (first | exact sub_nil _ | (apply sub_cons; first | exact rfl | exact congrArg (fun z : Int => some (Value.int .i64 z)) (by omega))))
        · exact fun w hw => hw.tail
      · rintro _ ⟨L', hX', rfl⟩
        repeat' (first | (apply zg1; refine zs4 ?_) | (apply zg6; refine zs11 ?_) | (apply zg20; refine zs48 ?_) | apply (zs65 ?_) | apply (zs68 ?_) | (apply zg27; refine zs71 ?_) | apply (zs74 ?_) | apply (zs77 ?_) | apply (zs78 ?_) | fail)
        apply VQ_st (many L' :: HI)
        · exact fun w hw => hw.tail
        apply VQ_ret0; exact rfl
        exact .inr ⟨L', hX', rfl⟩
    · rename_i hs
      apply VQ_ylist (by rintro ⟨_, _, _, _, h, _⟩; cases h)
      repeat' (first | apply (zs1 ?_) | (apply zg1; refine zs3 ?_) | (apply zg6; refine zs12 ?_) | (apply zg13; refine zs30 ?_) | apply (zs65 ?_) | apply (zs68 ?_) | apply (zs70 ?_) | (apply zg27; refine zs72 ?_) | apply (zs76 ?_) | apply (zs79 ?_) | fail)
      apply hK (i + 1, L)
      · exact ⟨by omega, by rw [inI_no hs]; exact hS⟩
      · dsimp only; omega
      · (repeat (first | exact sub_nil _ | (apply sub_cons; first | exact rfl | exact congrArg (fun z : Int => some (Value.int .i64 z)) (by omega))))
      · exact fun w hw => hw.tail
  · repeat' (first | (apply (zs17 ?_ ?_) <;> intro _ <;> try (exfalso; omega)) | apply (zs65 ?_) | apply (zs68 ?_) | apply (zs69 ?_) | apply (zs70 ?_) | (apply zg27; refine zs72 ?_) | apply (zs75 ?_) | apply (zs80 ?_) | apply (zs81 ?_) | fail)
    apply VQ_end0; exact rfl
    rw [show i = s.cells.length by omega] at hS
    exact .inl ⟨L, by rw [inXs, List.length_map]; exact hS, rfl⟩
theorem inS_spec (s : SchM) (slot : Int) {B : Nat} {w0 : World} {H : List HP} {w : World} (hw : St B w0 H w) :
    Calls Tryz.prog 65 [s.val, .int .i64 slot].toArray w (Post B w0 fun v K => ∃ gs gt, v = .func (.func 102) #[] #[.pointer (some ⟨gs, 0, none⟩), .pointer (some ⟨gt, 0, none⟩)] ∧ K = intB gt slot :: schB gs s :: H) := by
  refine Calls_of_VC Tryz.func65 Tryz.ntmps65 rfl rfl hw ?_
  repeat' (first | apply (zs2 ?_) | (apply zg23; first | (refine zs52 ?_; intro _) | (refine zs53 ?_; intro _)) | apply (zs65 ?_) | apply (zs68 ?_) | apply (zs69 ?_) | apply (zs70 ?_) | apply (zs74 ?_) | (apply zg29; (apply VL_makeFunc; (repeat (first | exact args_nil | (apply args_cons; exact rfl))) ; exact rfl)) | fail)
  apply VQ_ret1; exact rfl; exact rfl
  exact ⟨_, _, rfl, rfl⟩
end Go.Proofs.YtnkpfpgmbpnbgaaGreatDoor

/- Walks: lists of cells: found, equal, searched, copied, struck. -/
namespace Go.Eng
open Go.RowKit
end Go.Eng
namespace Go.Proofs.YtnkpfpgmbpnbgaaGreatDoor
open Go.RowKit Go.Eng Go.Nw

theorem subA_zeroC (A : Option Addr) (cap size : Nat) : subA A 0 cap size = A := by
  unfold subA
  split
  · rfl
  · cases A with
    | none => rfl
    | some a => simp [Addr.add]
def cels (A : Option Addr) (cap : Nat) (l : List Cel) : HP := sl 51 5 A l.length cap (l.flatMap celF)
theorem cels_snoc (A : Option Addr) (cap : Nat) (l : List Cel) (c : Cel) : sl 51 5 A (l.length + 1) cap (l.flatMap celF ++ celF c) = cels A cap (l ++ [c]) := by
  unfold cels; simp
theorem cels_snocR (A : Option Addr) (cap : Nat) (l : List Cel) (c : Cel) : sl 51 5 A (l.length + 1) cap (l.flatMap celF ++ #[Value.int .i64 c.1, .int .i64 c.2.1, .int .i64 c.2.2.1, .int .i64 c.2.2.2.1, .int .i64 c.2.2.2.2].toList) = cels A cap (l ++ [c]) := cels_snoc A cap l c
theorem len_snoc (l : List Cel) (c : Cel) : l.length + 1 = (l ++ [c]).length := by simp
theorem Rd.cels {B : Nat} {w0 : World} {H : List HP} {A : Option Addr} {cap : Nat} {l : List Cel} (h : cels A cap l ∈ H) : Rd B w0 H A (l.flatMap celF) := .sl h
theorem celV_inj {a b : Cel} (h : celF a = celF b) : a = b := by
  obtain ⟨a1, a2, a3, a4, a5⟩ := a
  obtain ⟨b1, b2, b3, b4, b5⟩ := b
  simp only [celF, List.cons.injEq, Value.int.injEq, true_and, and_true] at h
  obtain ⟨rfl, rfl, rfl, rfl, rfl⟩ := h
  rfl

section
variable {m : Eng.Mode} {n : Shp} {B d : Nat} {w0 : World} {ops : Array Oper} {Q : Exit → Act → World → Prop} {rest : List Oper} {env : Env} {H : List HP} {ty : TypeId} {pos : String} {after : Array Edge}
theorem VL_ceql (a b : Cel) {x y : Operand} (hx : evo env x = some (.agg (celF a).toArray)) (hy : evo env y = some (.agg (celF b).toArray)) (hn : Nat.ble (d + 1) n.k = true)
    (h1 : a = b → VL Tryz.prog m n B w0 ops Q rest ((d, .bool true) :: env) H) (h2 : a ≠ b → VL Tryz.prog m n B w0 ops Q rest ((d, .bool false) :: env) H) :
    VL Tryz.prog m n B w0 ops Q (⟨some d, .binOp .eql 51 x y 51, ty, pos, after, none⟩ :: rest) env H :=
  VL_aeql (xs := celF a) (ys := celF b) hx hy hn (by kernel_rfl) (by kernel_rfl) (fun e => h1 (celV_inj e)) (fun e => h2 fun h => e (by rw [h]))
theorem VL_cneq (a b : Cel) {x y : Operand} (hx : evo env x = some (.agg (celF a).toArray)) (hy : evo env y = some (.agg (celF b).toArray)) (hn : Nat.ble (d + 1) n.k = true)
    (h1 : a ≠ b → VL Tryz.prog m n B w0 ops Q rest ((d, .bool true) :: env) H) (h2 : a = b → VL Tryz.prog m n B w0 ops Q rest ((d, .bool false) :: env) H) :
    VL Tryz.prog m n B w0 ops Q (⟨some d, .binOp .neq 51 x y 51, ty, pos, after, none⟩ :: rest) env H :=
  VL_aneq (xs := celF a) (ys := celF b) hx hy hn (by kernel_rfl) (by kernel_rfl) (fun e => h1 fun h => e (by rw [h])) (fun e => h2 (celV_inj e))
end

theorem rsame_cells (l m : List Cel) (hl : l.length ≤ 1000000000000) (hm : m.length ≤ 1000000000000) {A A2 : Option Addr} {cap cap2 B : Nat} {w0 : World} {H : List HP} {w : World} (hr : Rd B w0 H A (l.flatMap celF)) (hr2 : Rd B w0 H A2 (m.flatMap celF)) (hw : St B w0 H w) :
    Calls Tryz.prog 33 [.slice A l.length cap, .slice A2 m.length cap2].toArray w (Post B w0 fun v K => v = .bool (decide (l = m)) ∧ K = H) := by
  refine Calls_of_VC Tryz.func33 Tryz.ntmps33 rfl rfl hw ?_
  by_cases hll : l.length = m.length
  rotate_left
  · repeat' (first | apply (zs1 ?_) | apply (zs2 ?_) | (apply zg4; refine zs9 ?_) | (apply zg8; (refine zs16 ?_ ?_ <;> intro _ <;> try (exfalso; omega))) | apply (zs65 ?_) | apply (zs68 ?_) | apply (zs69 ?_) | apply (zs70 ?_) | (apply zg27; refine zs71 ?_) | apply (zs74 ?_) | apply (zs77 ?_) | fail)
    apply VQ_ret1; exact rfl; exact rfl
    exact ⟨by rw [decide_eq_false fun e => hll (by rw [e])], rfl⟩
  repeat' (first | apply (zs1 ?_) | apply (zs2 ?_) | (apply zg4; refine zs9 ?_) | (apply zg8; (refine zs16 ?_ ?_ <;> intro _ <;> try (exfalso; omega))) | apply (zs65 ?_) | apply (zs68 ?_) | apply (zs69 ?_) | apply (zs70 ?_) | (apply zg27; refine zs72 ?_) | apply (zs73 ?_) | apply (zs76 ?_) | fail)
  refine VC_loop1 (fun (i : Nat) => [(5, .int .i64 i), (0, .slice A l.length cap), (1, .slice A2 m.length cap2)]) (fun _ => H) (fun i => i ≤ l.length ∧ l.take i = m.take i) (fun i => l.length - i) 0 ⟨Nat.zero_le _, rfl⟩ ?_ (fun w hw => hw) ?_
  · (repeat (first | exact sub_nil _ | (apply sub_cons; first | exact rfl | exact congrArg (fun z : Int => some (Value.int .i64 z)) (by omega))))
  rintro i ⟨hi, he⟩ K hK
  by_cases hlt : i < l.length
  · obtain ⟨x, hx⟩ : ∃ x, l[i]? = some x := ⟨_, List.getElem?_eq_getElem hlt⟩
    obtain ⟨y, hy⟩ : ∃ y, m[i]? = some y := ⟨_, List.getElem?_eq_getElem (by omega)⟩
    repeat' (first | (apply VL_cneq x y; exact rfl; exact rfl; exact rfl; all_goals intro hxy) | apply (zs1 ?_) | apply (zs2 ?_) | (apply zg3; refine zs61 ?_) | (apply zg4; refine zs9 ?_) | (apply zg5; refine zs57 ?_) | (apply (zs17 ?_ ?_) <;> intro _ <;> try (exfalso; omega)) | (apply zg13; refine zs30 ?_) | apply (zs65 ?_) | apply (zs66 ?_) | apply (zs68 ?_) | apply (zs69 ?_) | apply (zs70 ?_) | (apply zg27; first | refine zs71 ?_ | refine zs72 ?_) | apply (zs73 ?_) | apply (zs74 ?_) | apply (zs76 ?_) | apply (zs77 ?_) | apply (zs78 ?_) | apply (zs79 ?_) | (apply zg28; refine zs83 ?_) | fail)
    · apply VQ_ret1; exact rfl; exact rfl
      have hne : l ≠ m := by
        rintro rfl
        rw [hx] at hy
        exact hxy (Option.some.inj hy)
      exact ⟨by rw [decide_eq_false hne], rfl⟩
    · apply hK (i + 1)
      · exact ⟨by omega, by rw [List.take_add_one, List.take_add_one, hx, hy, he, hxy]⟩
      · omega
      · (repeat (first | exact sub_nil _ | (apply sub_cons; first | exact rfl | exact congrArg (fun z : Int => some (Value.int .i64 z)) (by omega))))
      · exact fun w hw => hw
  · obtain rfl : i = l.length := by omega
    repeat' (first | apply (zs1 ?_) | apply (zs2 ?_) | (apply zg4; refine zs9 ?_) | (apply (zs17 ?_ ?_) <;> intro _ <;> try (exfalso; omega)) | apply (zs65 ?_) | apply (zs68 ?_) | apply (zs69 ?_) | apply (zs70 ?_) | (apply zg27; refine zs72 ?_) | apply (zs74 ?_) | apply (zs75 ?_) | apply (zs80 ?_) | apply (zs81 ?_) | fail)
    apply VQ_ret1; exact rfl; exact rfl
    rw [List.take_length, hll, List.take_length] at he
    exact ⟨by rw [decide_eq_true he], rfl⟩
theorem rsame_spec (s t : SchM) (hl : s.cells.length ≤ 1000000000000) (hm : t.cells.length ≤ 1000000000000) {B : Nat} {w0 : World} {H : List HP} {w : World} (hr : Rd B w0 H s.A (s.cells.flatMap celF)) (hr2 : Rd B w0 H t.A (t.cells.flatMap celF)) (hw : St B w0 H w) :
    Calls Tryz.prog 20 [s.val, t.val].toArray w (Post B w0 fun v K => v = .bool (decide (s.len = t.len ∧ s.off = t.off ∧ s.cells = t.cells)) ∧ K = H) := by
  refine Calls_of_VC Tryz.func20 Tryz.ntmps20 rfl rfl hw ?_
  repeat' (first | ((first | apply VL_calltb en33 | apply VL_callqb en33); (repeat (first | exact args_nil | (apply args_cons; exact rfl))); exact rfl; exact fun _ hw => (rsame_cells s.cells t.cells hl hm hr.cons.cons hr2.cons.cons hw); all_goals (intro hB; (try simp only [decide_eq_true_eq, decide_eq_false_iff_not] at hB); try (exfalso; omega))) | apply (zs1 ?_) | apply (zs2 ?_) | (apply zg1; first | refine zs3 ?_ | refine zs4 ?_) | (apply zg2; refine zs6 ?_) | (apply zg3; refine zs7 ?_) | (apply zg6; first | refine zs11 ?_ | refine zs12 ?_) | (apply zg7; (refine zs15 ?_ ?_ <;> intro _ <;> try (exfalso; omega))) | (apply zg23; (refine zs52 ?_; intro _)) | apply (zs65 ?_) | apply (zs68 ?_) | apply (zs69 ?_) | apply (zs70 ?_) | apply (zs74 ?_) | fail)
  all_goals (
    apply VQ_st H
    · (intro w hw; refine hw.perm ?_; focus repeat (first | with_reducible exact Perm.refl _ | (with_reducible apply perm_take; focus ((repeat (first | with_reducible exact rem_here | with_reducible apply rem_there)); done)) | with_reducible apply Perm.dropK))
    apply VQ_ret1; exact rfl; exact rfl
    first
      | exact ⟨by rw [decide_eq_true ⟨by assumption, by assumption, by assumption⟩], rfl⟩
      | exact ⟨by rw [decide_eq_false fun h => absurd h.1 (by assumption)], rfl⟩
      | exact ⟨by rw [decide_eq_false fun h => absurd h.2.1 (by assumption)], rfl⟩
      | exact ⟨by rw [decide_eq_false fun h => absurd h.2.2 (by assumption)], rfl⟩)
end Go.Proofs.YtnkpfpgmbpnbgaaGreatDoor

/- Walks: At. -/
namespace Go.Proofs.YtnkpfpgmbpnbgaaGreatDoor
open Go.RowKit Go.Eng Go.Nw

/-- The cells of a slot that an iterator handed over so far. -/
def celsIn (s : Sch) (slot : Int) (k : Nat) : List Cel := ((inI s slot s.cells.length).take k).map (celAt s)
theorem celsIn_all (s : Sch) (slot : Int) : celsIn s slot (inXs s slot).length = s.cells.filter fun c => decide (c.1 = slot) := by
  have e : s.cells = (List.range s.cells.length).map (celAt s) := by
    apply List.ext_getElem?
    intro i
    by_cases h : i < s.cells.length
    · rw [celAt_some h, List.getElem?_map, List.getElem?_range h]; rfl
    · rw [List.getElem?_eq_none (by omega), List.getElem?_eq_none (by simpa using h)]
  unfold celsIn inXs
  rw [List.length_map, List.take_length]
  conv => rhs; rw [e]
  rw [List.filter_map]
  rfl
theorem celsIn_step {s : Sch} {slot : Int} {k i : Nat} (h : (inI s slot s.cells.length)[k]? = some i) : celsIn s slot (k + 1) = celsIn s slot k ++ [celAt s i] := by
  unfold celsIn
  rw [List.take_add_one, h, List.map_append]; rfl
theorem inXs_get {s : Sch} {slot : Int} {k : Nat} {args : List Value} (h : (inXs s slot)[k]? = some args) : ∃ i, (inI s slot s.cells.length)[k]? = some i ∧ i < s.cells.length ∧ args = [.int .i64 (i : Int)] := by
  unfold inXs at h
  rw [List.getElem?_map] at h
  cases hi : (inI s slot s.cells.length)[k]? with
  | none => rw [hi] at h; cases h
  | some i =>
    rw [hi] at h
    cases h
    exact ⟨i, rfl, (inI_mem.1 (List.mem_of_getElem? hi)).1, rfl⟩
theorem celsIn_le {s : Sch} {slot : Int} {k : Nat} : (celsIn s slot k).length ≤ s.cells.length := by
  unfold celsIn inI
  rw [List.length_map, List.length_take]
  have := List.length_filter_le (fun i => decide ((celAt s i).1 = slot)) (List.range s.cells.length)
  rw [List.length_range] at this
  omega
structure AcM where
  A : Option Addr
  cap : Nat
  l : List Cel

set_option maxRecDepth 10000 in
set_option maxHeartbeats 1000000 in
theorem at_spec (s : SchM) (slot : Int) {B : Nat} {w0 : World} {H : List HP} {w : World} (hr : Rd B w0 H s.A (s.cells.flatMap celF)) (hl : s.cells.length ≤ 1000000000000) (hw : St B w0 H w) :
    Calls Tryz.prog 23 [s.val, .int .i64 slot].toArray w (Post B w0 fun v K => ∃ A cap, v = .slice A (atE s.sch slot).length cap ∧ K = cels A cap (atE s.sch slot) :: H) := by
  refine Calls_of_VCm Tryz.func23 Tryz.ntmps23 rfl rfl hw ?_
  have e1 : s.sch.cells = s.cells := rfl
  by_cases hf : formE s.sch = true
  rotate_left
  · have hf : formE s.sch = false := by simpa using hf
    repeat' (first | ((first | apply VL_callt en53 | apply VL_callq en53); (repeat (first | exact args_nil | (apply args_cons; exact rfl))); exact rfl; exact fun _ hw => (calls_val (congrArg Value.bool hf) (fun _ hw => form_spec s hr.cons hl hw) hw)) | apply (zs1 ?_) | apply (zs2 ?_) | (apply zg1; refine zs3 ?_) | (apply zg3; refine zs8 ?_) | (apply zg6; refine zs11 ?_) | (apply zg20; refine zs48 ?_) | (apply zg23; (refine zs52 ?_; intro _)) | apply (zs65 ?_) | apply (zs68 ?_) | apply (zs69 ?_) | apply (zs70 ?_) | (apply zg27; refine zs71 ?_) | apply (zs74 ?_) | apply (zs77 ?_) | fail)
    apply VQ_st (cels none 0 [] :: H)
    · exact fun w hw => hw.tail.nilSlice _ _
    apply VQ_m
    apply VQ_ret1; exact rfl; exact rfl
    exact ⟨none, 0, by rw [atE, if_pos (.inl hf)]; rfl, by rw [atE, if_pos (.inl hf)]⟩
  have hfr := form_iff.1 hf
  have hsz : 1 ≤ s.len ∧ s.len ≤ 512 := by
    have := of_decide_eq_true hfr.sized
    exact ⟨this.1, this.2.1⟩
  by_cases h0 : slot < 0
  · skip
    repeat' (first | ((first | apply VL_callt en53 | apply VL_callq en53); (repeat (first | exact args_nil | (apply args_cons; exact rfl))); exact rfl; exact fun _ hw => (calls_val (congrArg Value.bool hf) (fun _ hw => form_spec s hr.cons hl hw) hw)) | apply (zs1 ?_) | apply (zs2 ?_) | (apply zg1; refine zs4 ?_) | (apply zg3; refine zs8 ?_) | (apply zg6; refine zs12 ?_) | (apply (zs17 ?_ ?_) <;> intro _ <;> try (exfalso; omega)) | (apply zg20; refine zs47 ?_) | (apply zg23; (refine zs52 ?_; intro _)) | apply (zs65 ?_) | apply (zs68 ?_) | apply (zs69 ?_) | apply (zs70 ?_) | (apply zg27; refine zs71 ?_) | apply (zs74 ?_) | apply (zs77 ?_) | fail)
    apply VQ_st (cels none 0 [] :: H)
    · exact fun w hw => hw.tail.nilSlice _ _
    apply VQ_m
    apply VQ_ret1; exact rfl; exact rfl
    exact ⟨none, 0, by rw [atE, if_pos (.inr h0)]; rfl, by rw [atE, if_pos (.inr h0)]⟩
  obtain ⟨tz, hto⟩ : ∃ tz, slot % s.len = tz := ⟨_, rfl⟩
  have hat : atE s.sch slot = s.cells.filter fun c => decide (c.1 = tz) := by
    rw [atE, if_neg (by simp [hf, h0]), ← hto, ← Int.tmod_eq_emod_of_nonneg (by omega)]; rfl
  rw [hat]
  repeat' (first | ((first | apply VL_callt en53 | apply VL_callq en53); (repeat (first | exact args_nil | (apply args_cons; exact rfl))); exact rfl; exact fun _ hw => (calls_val (congrArg Value.bool hf) (fun _ hw => form_spec s hr.cons hl hw) hw)) | apply (zs1 ?_) | apply (zs2 ?_) | (apply zg1; refine zs4 ?_) | (apply zg3; refine zs8 ?_) | (apply zg6; refine zs12 ?_) | (apply (zs17 ?_ ?_) <;> intro _ <;> try (exfalso; omega)) | (apply zg20; refine zs47 ?_) | (apply zg23; (refine zs52 ?_; intro _)) | (apply zg24; (refine zs54 ?_; intro _)) | apply (zs65 ?_) | apply (zs68 ?_) | apply (zs69 ?_) | apply (zs70 ?_) | (apply zg27; refine zs72 ?_) | apply (zs76 ?_) | fail)
  rename_i gB _ gO
  apply VC_held [0, 1, 2, 3, 4] [5] [true, true]
  kernel_rfl
  kernel_rfl
  (repeat (first | with_reducible exact split_nil | with_reducible apply split_t | with_reducible apply split_f))
  (simp only [pickOps, nthO]; rfl)
  (simp only [pickOps, nthO]; rfl)
  repeat' (first | apply (zs1 ?_) | (apply zg2; refine zs6 ?_) | (apply zg3; first | refine zs7 ?_ | refine zs8 ?_) | (apply zg17; refine zs37 ?_) | (apply VL_nilh; (repeat (first | with_reducible exact app_nil | with_reducible apply app_cons | exact app_niln _))) | apply (zs93 ?_) | fail)
  apply VL_call _ en65
  (repeat (first | exact args_nil | (apply args_cons; exact rfl)))
  exact rfl
  exact fun _ hw => (inS_spec s _ (hw))
  rintro _ _ ⟨gs, gt, rfl, rfl⟩
  rw [hto]
  repeat' (first | apply (zs65 ?_) | apply (zs68 ?_) | apply (zs73 ?_) | apply (zs94 ?_) | fail)
  have hr4 : Rd B w0 (intB gt tz :: schB gs s :: schB gB s :: H) s.A (s.cells.flatMap celF) := hr.cons.cons.cons
  refine VC_nilSlice 51 5 ?_
  refine VC_rangeFunc (gf := 102) (lb := [.pointer (some ⟨gs, 0, none⟩), .pointer (some ⟨gt, 0, none⟩)]) (xs := inXs s.sch tz) (intB gt tz :: schB gs s :: schB gB s :: H) (fun x : AcM => [blk gO (.cells #[.slice x.A x.l.length x.cap] 28 (0, 0)), cels x.A x.cap x.l]) (fun i x => x.l = celsIn s.sch tz i) (fun _ _ => False) ⟨none, 0, []⟩ rfl en102 (in1_iter s tz gs gt hr4 hl (.tail _ (.head _)) (.head _)) rfl ?_ (by kernel_rfl) (by kernel_rfl) ?_ rfl ?_ ?_ (fun _ _ _ h => h.elim)
  · intro args h
    obtain ⟨k, hk⟩ := List.mem_iff_getElem?.1 h
    obtain ⟨i, _, _, rfl⟩ := inXs_get hk
    rfl
  · unfold schB intB cels
    simp only [List.cons_append, List.nil_append, List.length_nil, List.flatMap_nil]
    exact fun w hw => hw.perm (.trans (.cons _ (.cons _ (.swap _ _ _))) (.trans (.cons _ (.swap _ _ _)) (.swap _ _ _)))
  · rintro l k args R ⟨A, cap, xs⟩ hk hI
    obtain ⟨i, hi, hlt, rfl⟩ := inXs_get hk
    have hlt2 : i < s.cells.length := hlt
    dsimp only at hI ⊢
    dsimp only [putEnv, List.cons_append, List.nil_append]
    have hget : s.cells[i]? = some (celAt s.sch i) := celAt_some (s := s.sch) hlt
    repeat' (first | apply (zs2 ?_) | apply (zs65 ?_) | apply (zs70 ?_) | fail)
    apply VQ_assign rem_here
    intro R'
    unfold cels intB schB
    refine VC_st (R' :: blk gO (.cells #[.slice A xs.length cap] 28 (0, 0)) :: sl 51 5 A xs.length cap (xs.flatMap celF) :: blk gt (.cells #[.int .i64 tz] 3 (0, 0)) :: blk gs (.cells #[.int .i64 s.len, .int .i64 s.off, .slice s.A s.cells.length s.cap] 30 (0, 0)) :: blk gB (.cells #[.int .i64 s.len, .int .i64 s.off, .slice s.A s.cells.length s.cap] 30 (0, 0)) :: [many H]) (fun w hw => hw.perm (.cons _ (.cons _ (.cons _ (.cons _ (.cons _ (.cons _ (.closeT _)))))))) ?_
    have hrt : Rd B w0 [many H] s.A (s.cells.flatMap celF) := hr.tail
    repeat' (first | apply (zs73 ?_) | fail)
    apply VC_heldH [0, 1, 2, 3, 4, 5, 6] [7, 8] [false, true, false, false, false, true, true]
    kernel_rfl
    kernel_rfl
    (repeat (first | with_reducible exact split_nil | with_reducible apply split_t | with_reducible apply split_f))
    (simp only [pickOps, nthO]; rfl)
    (simp only [pickOps, nthO]; rfl)
    have hxl : xs.length ≤ 512 := by
      have h1 := celsIn_le (s := s.sch) (slot := tz) (k := k)
      rw [← hI] at h1
      exact Nat.le_trans h1 hfr.few
    repeat' (first | apply (zs1 ?_) | (apply zg2; refine zs6 ?_) | (apply zg3; first | refine zs7 ?_ | refine zs61 ?_) | (apply zg5; refine zs57 ?_) | (apply zg21; (refine zs49 ?_; intro _ _)) | (apply zg22; refine zs50 ?_) | (apply zg26; (refine zs56 ?_; intro _)) | apply (zs65 ?_) | (apply VL_nilh; (repeat (first | with_reducible exact app_nil | with_reducible apply app_cons | exact app_niln _))) | apply (zs79 ?_) | apply (zs87 ?_) | (apply VQ_heldq; (repeat (first | with_reducible exact pull_nil | (with_reducible apply pull_cons; (repeat (first | with_reducible exact rem_here | with_reducible apply rem_there)))))) | apply (zs93 ?_) | apply (zs94 ?_) | fail)
    rename_i A' cap'
    apply VQ_body (AcM.mk A' cap' (xs ++ [celAt s.sch i]))
    · show xs ++ [celAt s.sch i] = celsIn s.sch tz (k + 1)
      rw [celsIn_step hi, hI]
    · intro w hw
      rw [cels_snocR, len_snoc xs (celAt s.sch i)] at hw
      unfold cels at hw
      have h5 : St B w0 (R' :: blk gO (.cells #[.slice A' (xs ++ [celAt s.sch i]).length cap'] 28 (0, 0)) :: sl 51 5 A' (xs ++ [celAt s.sch i]).length cap' ((xs ++ [celAt s.sch i]).flatMap celF) :: blk gt (.cells #[.int .i64 tz] 3 (0, 0)) :: blk gs (.cells #[.int .i64 s.len, .int .i64 s.off, .slice s.A s.cells.length s.cap] 30 (0, 0)) :: blk gB (.cells #[.int .i64 s.len, .int .i64 s.off, .slice s.A s.cells.length s.cap] 30 (0, 0)) :: [many H]) w := by
        revert w
        (intro w hw; refine hw.perm ?_; focus repeat (first | with_reducible exact Perm.refl _ | (with_reducible apply perm_take; focus ((repeat (first | with_reducible exact rem_here | with_reducible apply rem_there)); done)) | with_reducible apply Perm.dropK))
      exact h5.perm (.cons _ (.cons _ (.cons _ (.cons _ (.cons _ (.cons _ (.openT _)))))))
  · rintro D ⟨A, cap, xs⟩ hI
    dsimp only at hI ⊢
    rw [celsIn_all, e1] at hI
    subst hI
    dsimp only [List.cons_append, List.nil_append]
    unfold cels intB schB
    repeat' (first | apply (zs2 ?_) | (apply zg3; refine zs7 ?_) | apply (zs65 ?_) | apply (zs68 ?_) | apply (zs69 ?_) | apply (zs70 ?_) | apply (zs74 ?_) | apply (zs79 ?_) | fail)
    apply VQ_mark rem_here
    apply VQ_m
    apply VQ_st (cels A cap (s.cells.filter fun c => decide (c.1 = tz)) :: H)
    · unfold cels
      (intro w hw; refine hw.perm ?_; focus repeat (first | with_reducible exact Perm.refl _ | (with_reducible apply perm_take; focus ((repeat (first | with_reducible exact rem_here | with_reducible apply rem_there)); done)) | with_reducible apply Perm.dropK))
    apply VQ_ret1; exact rfl; exact rfl
    exact ⟨A, cap, rfl, rfl⟩
end Go.Proofs.YtnkpfpgmbpnbgaaGreatDoor

/- Walks: strings.Builder; a line of a text; Print. -/
namespace Go.Proofs.YtnkpfpgmbpnbgaaGreatDoor
open Go.RowKit Go.Eng Go.Nw

section
variable {m : Eng.Mode} {n : Shp} {B d : Nat} {w0 : World} {ops : Array Oper} {Q : Exit → Act → World → Prop} {rest : List Oper} {env : Env} {H : List HP} {ty : TypeId} {pos : String} {after : Array Edge} {x y : Operand}
theorem VL_cat (a b : List UInt8) (hx : evo env x = some (strV a)) (hy : evo env y = some (strV b)) (hn : Nat.ble (d + 1) n.k = true) (hb : a.length + b.length ≤ 1000000) (h : VL Tryz.prog m n B w0 ops Q rest ((d, strV (a ++ b)) :: env) H) :
    VL Tryz.prog m n B w0 ops Q (⟨some d, .binOp .add 9 x y 9, ty, pos, after, none⟩ :: rest) env H := by
  have hs : ∀ l : List UInt8, (⟨l.toArray⟩ : ByteArray).size = l.length := fun l => by simp [ByteArray.size]
  refine VL_scat hx hy hn (by rw [hs, hs]; omega) ?_
  have e : (⟨a.toArray⟩ : ByteArray) ++ ⟨b.toArray⟩ = ⟨(a ++ b).toArray⟩ := by
    apply ByteArray.ext
    simp
  rw [e]
  exact h
theorem VL_toUns {g : Nat} {cs : Array Value} {fr : Nat × Nat} (hx : evo env x = some (.pointer (some ⟨g, 0, none⟩))) (hm : blk g (.cells cs 83 fr) ∈ H) (hc : cs.size = 2) (hn : Nat.ble (d + 1) n.k = true)
    (h : VL Tryz.prog none n B w0 ops Q rest ((d, .pointer (some ⟨g, 0, none⟩)) :: env) H) : VL Tryz.prog none n B w0 ops Q (⟨some d, .convert 80 138 x, ty, pos, after, none⟩ :: rest) env H := by
  refine VL_opE (fun v K' => v = .pointer (some ⟨g, 0, none⟩) ∧ K' = H) rfl rfl hn (fun a w ha hw => ?_) (by rintro _ _ ⟨rfl, rfl⟩; exact h)
  have hb := (hw.blk hm).1
  obtain ⟨j, hj, hjs⟩ := Option.map_eq_some_iff.1 (show (Tryz.prog.info? 83).map (·.size) = some 2 by kernel_rfl)
  have hr := Lib.run_to_unsafe (P := Tryz.prog) w ⟨g, 0, none⟩ Tryz.underlying80 Tryz.underlying138 hj (by rw [hjs]; decide) (show w.shape? g = some (83, 2) by simp [World.shape?, hb, hc]) (Nat.zero_lt_succ 1)
  exact ⟨_, H, w, by simp [execOp, ha.eval hx, hr], hw, rfl, rfl⟩
theorem VL_ofUns {g : Nat} {cs : Array Value} {fr : Nat × Nat} (hx : evo env x = some (.pointer (some ⟨g, 0, none⟩))) (hm : blk g (.cells cs 83 fr) ∈ H) (hc : cs.size = 2) (hn : Nat.ble (d + 1) n.k = true)
    (h : VL Tryz.prog none n B w0 ops Q rest ((d, .pointer (some ⟨g, 0, none⟩)) :: env) H) : VL Tryz.prog none n B w0 ops Q (⟨some d, .convert 138 80 x, ty, pos, after, none⟩ :: rest) env H := by
  refine VL_opE (fun v K' => v = .pointer (some ⟨g, 0, none⟩) ∧ K' = H) rfl rfl hn (fun a w ha hw => ?_) (by rintro _ _ ⟨rfl, rfl⟩; exact h)
  have hb := (hw.blk hm).1
  obtain ⟨j, hj, hjs⟩ := Option.map_eq_some_iff.1 (show (Tryz.prog.info? 83).map (·.size) = some 2 by kernel_rfl)
  have hr := Lib.run_from_unsafe (P := Tryz.prog) w ⟨g, 0, none⟩ Tryz.underlying138 Tryz.underlying80 hj (show w.shape? g = some (83, 2) by simp [World.shape?, hb, hc]) (by kernel_rfl)
  exact ⟨_, H, w, by simp [execOp, ha.eval hx, hr], hw, rfl, rfl⟩
theorem VL_noEsc {v : Value} {tys : Array TypeId} (hx : evo env x = some v) (hn : Nat.ble (d + 1) n.k = true) (h : VL Tryz.prog none n B w0 ops Q rest ((d, v) :: env) H) :
    VL Tryz.prog none n B w0 ops Q (⟨some d, .call ⟨.value (.func 132), #[x], tys⟩, ty, pos, after, none⟩ :: rest) env H := by
  refine VL_opE (fun u K' => u = v ∧ K' = H) rfl rfl hn (fun a w ha hw => ⟨v, H, w, ?_, hw, rfl, rfl⟩) (by rintro _ _ ⟨rfl, rfl⟩; exact h)
  have hr := run_callFunc_extern (P := Tryz.prog) Tryz.func132 (by kernel_rfl) (by kernel_rfl) (by kernel_rfl) (e := Extern.AbiNoEscape.same) (by kernel_rfl) #[v] w
  have he : a.eval (.func 132) = .func (.func 132) #[] #[] := rfl
  simp [execOp, resolve, invoke, ha.eval hx, he, Deferred.ofValue, hr, Lib.run_noEscape, Result.andThen]
theorem VL_pneqs {g : Addr} (hx : evo env x = some (.pointer (some g))) (hy : evo env y = some (.pointer (some g))) (hn : Nat.ble (d + 1) n.k = true) (h : VL Tryz.prog m n B w0 ops Q rest ((d, .bool false) :: env) H) :
    VL Tryz.prog m n B w0 ops Q (⟨some d, .binOp .neq 80 x y 80, ty, pos, after, none⟩ :: rest) env H := by
  obtain ⟨j, hj, hjs⟩ := Option.map_eq_some_iff.1 (show (Tryz.prog.info? 83).map (·.size) = some 2 by kernel_rfl)
  exact VL_bin hx hy hn (fun _ => rfl) (fun w => Lib.run_neq_ptr_same w g Tryz.underlying80 hj) h
end
set_option maxRecDepth 10000 in
theorem copyCheck_spec (b : Nat) (p v : Value) (hp : p = .pointer none ∨ p = .pointer (some ⟨b, 0, none⟩)) {B : Nat} {w0 : World} {H : List HP} {w : World} (hw : St B w0 (blk b (.cells #[p, v] 83 (0, 0)) :: H) w) :
    Calls Tryz.prog 95 [.pointer (some ⟨b, 0, none⟩)].toArray w (Post B w0 fun u K => u = .tuple #[] ∧ K = blk b (.cells #[.pointer (some ⟨b, 0, none⟩), v] 83 (0, 0)) :: H) := by
  refine Calls_of_VC Tryz.func95 Tryz.ntmps95 rfl rfl hw ?_
  rcases hp with rfl | rfl
  · skip
    repeat' (first | (apply VL_peql0; exact rfl; exact rfl; kernel_rfl) | (apply VL_toUns; exact rfl; (focus repeat (first | with_reducible exact List.mem_cons_self | with_reducible apply List.mem_cons_of_mem | assumption)); exact rfl; exact rfl) | (apply VL_ofUns; exact rfl; (focus repeat (first | with_reducible exact List.mem_cons_self | with_reducible apply List.mem_cons_of_mem | assumption)); exact rfl; exact rfl) | (apply VL_noEsc; exact rfl; exact rfl) | (apply VL_pneqs; exact rfl; exact rfl; exact rfl) | apply (zs1 ?_) | apply (zs5 ?_) | (apply zg2; refine zs6 ?_) | (apply zg3; refine zs7 ?_) | (apply zg22; refine zs50 ?_) | apply (zs65 ?_) | apply (zs68 ?_) | apply (zs69 ?_) | apply (zs70 ?_) | (apply zg27; refine zs71 ?_) | fail)
    apply VQ_end0; exact rfl; exact ⟨rfl, rfl⟩
  · skip
    repeat' (first | (apply VL_peql0; exact rfl; exact rfl; kernel_rfl) | (apply VL_pneqs; exact rfl; exact rfl; exact rfl) | apply (zs1 ?_) | apply (zs5 ?_) | (apply zg2; refine zs6 ?_) | (apply zg3; refine zs7 ?_) | apply (zs65 ?_) | apply (zs68 ?_) | apply (zs69 ?_) | apply (zs70 ?_) | (apply zg27; refine zs72 ?_) | apply (zs76 ?_) | fail)
    apply VQ_end0; exact rfl; exact ⟨rfl, rfl⟩
def bdP (b : Nat) (p : Value) (A : Option Addr) (cap : Nat) (l : List UInt8) (H : List HP) : List HP := blk b (.cells #[p, .slice A l.length cap] 83 (0, 0)) :: sl 5 1 A l.length cap (Lib.byteCells l) :: H
set_option maxRecDepth 10000 in
theorem write_spec (b : Nat) (p : Value) (hp : p = .pointer none ∨ p = .pointer (some ⟨b, 0, none⟩)) (A : Option Addr) (cap : Nat) (l s : List UInt8) (hl : l.length + s.length ≤ 1000000) {B : Nat} {w0 : World} {H : List HP} {w : World} (hw : St B w0 (bdP b p A cap l H) w) :
    Calls Tryz.prog 54 [.pointer (some ⟨b, 0, none⟩), strV s].toArray w (Post B w0 fun u K => u = .tuple #[.int .i64 s.length, .nilIface] ∧ ∃ A' cap', K = bdP b (.pointer (some ⟨b, 0, none⟩)) A' cap' (l ++ s) H) := by
  have hs : (⟨s.toArray⟩ : ByteArray).size = s.length := by simp [ByteArray.size]
  refine Calls_of_VC Tryz.func54 Tryz.ntmps54 rfl rfl hw ?_
  unfold bdP
  repeat' (first | apply (zs1 ?_) | apply (zs2 ?_) | apply (zs65 ?_) | apply (zs68 ?_) | apply (zs69 ?_) | apply (zs70 ?_) | fail)
  apply VL_call _ en95
  (repeat (first | exact args_nil | (apply args_cons; exact rfl)))
  exact rfl
  exact fun _ hw => (copyCheck_spec b p _ hp (hw))
  rintro _ _ ⟨rfl, rfl⟩
  repeat' (first | (apply VL_appendStr T (e := 5); exact rfl; exact rfl; exact rfl; kernel_rfl; exact rfl; exact rfl; (intro _ _; (repeat (first | with_reducible exact Upd.here _ | with_reducible apply Upd.there))); (rw [hs]; omega); intro A' cap') | apply (zs1 ?_) | apply (zs2 ?_) | apply (zs5 ?_) | (apply zg2; refine zs6 ?_) | (apply zg3; refine zs7 ?_) | (apply zg4; refine zs14 ?_) | (apply zg22; refine zs50 ?_) | apply (zs65 ?_) | apply (zs68 ?_) | apply (zs69 ?_) | apply (zs70 ?_) | apply (zs74 ?_) | fail)
  have e1 : Lib.byteCells l ++ Lib.strCells ⟨s.toArray⟩ = Lib.byteCells (l ++ s) := by
    unfold Lib.byteCells Lib.strCells
    rw [List.map_append]
  have e2 : l.length + (⟨s.toArray⟩ : ByteArray).size = (l ++ s).length := by rw [hs, List.length_append]
  apply VQ_ret2; exact rfl; exact rfl; exact rfl
  refine ⟨by rw [hs], A', cap', ?_⟩
  rw [e1, e2]
theorem bdP_is {b : Nat} {p : Value} {A : Option Addr} {cap : Nat} {l : List UInt8} {B : Nat} {w0 w : World} {H : List HP} (hp : p = .pointer none ∨ p = .pointer (some ⟨b, 0, none⟩)) (hw : St B w0 (bdP b p A cap l H) w) : Lib.IsBuilder 83 5 B b (Lib.byteCells l) w := by
  obtain ⟨_, _, S1, S2, k1, k2, k3, ⟨k4, k5⟩, S3, S4, j1, j2, j3, ⟨⟨j4, j5⟩, j6⟩, j7⟩ := hw
  have hl : (Lib.byteCells l).length = l.length := by unfold Lib.byteCells; rw [List.length_map]
  have hat : Lib.BuilderAt 83 5 B b p (Lib.byteCells l) w := by
    refine ⟨(k1 b k4).1, .slice A l.length cap, k5, ⟨by rw [hl]; omega, ?_⟩, ?_⟩
    · rw [hl]
      rcases j5 with j5 | ⟨g, c, cur, e1, e2, e3⟩
      · exact .inl j5
      · refine .inr ⟨g, c, cur, e1, ?_, e3⟩
        injection e1 with e1
        exact (k2 g (j1 g (j6 _ e1))).1
    · intro e
      cases A with
      | none => cases e
      | some a =>
        simp only [Value.ownBlock, Option.some.injEq] at e
        have := j6 a rfl
        rw [e] at this
        exact k3 b k4 (j1 b this)
  rcases hp with rfl | rfl
  · exact .inl hat
  · exact .inr hat
theorem string_spec {b : Nat} {p : Value} {A : Option Addr} {cap : Nat} {l : List UInt8} {B : Nat} {w0 w : World} {H : List HP} (hp : p = .pointer none ∨ p = .pointer (some ⟨b, 0, none⟩)) (hw : St B w0 (bdP b p A cap l H) w) :
    Calls Tryz.prog 57 [.pointer (some ⟨b, 0, none⟩)].toArray w (Post B w0 fun v K => v = strV l ∧ K = []) := by
  refine (Tryz.Builder_String_any B b l w (bdP_is hp hw) hw.le).mono ?_
  rintro e w' ⟨rfl, hb⟩
  exact ⟨_, [], rfl, ⟨hw.below.trans hb, Nat.le_trans hw.le hb.size, trivial⟩, rfl, rfl⟩
theorem itoa_len {n : Int} (h : 0 ≤ n ∧ n < 10000) : (Lib.itoa n).length ≤ 4 := by
  rw [itoa_nat h.1]; exact dec_len (by omega)
theorem body_len {w : List UInt8} : ∀ {l : List Int}, (∀ n ∈ l, 0 ≤ n ∧ n < 10000) → (bodyB w l).length ≤ w.length + 5 * l.length
  | [], _ => by simp [bodyB]
  | n :: l, h => by
    have ih := body_len (w := w) (l := l) fun m hm => h m (List.mem_cons_of_mem _ hm)
    have h1 := itoa_len (h n List.mem_cons_self)
    unfold bodyB at ih ⊢
    simp only [List.flatMap_cons, List.length_append, List.length_cons] at ih ⊢
    omega
theorem body_snoc (w : List UInt8) (l : List Int) (n : Int) : bodyB w (l ++ [n]) = bodyB w l ++ ([32] ++ Lib.itoa n) := by
  unfold bodyB; simp
set_option maxRecDepth 10000 in
theorem line_spec (word : List UInt8) (l : List Int) (h : ∀ n ∈ l, 0 ≤ n ∧ n < 10000) (h5 : l.length ≤ 100) (hwd : word.length ≤ 100) {A : Option Addr} {cap B : Nat} {w0 : World} {H : List HP} {w : World} (ht : TabsB B w0) (hr : Rd B w0 H A (l.flatMap numF)) (hw : St B w0 H w) :
    Calls Tryz.prog 55 [strV word, .slice A l.length cap].toArray w (Post B w0 fun v K => v = strV (lineB word l) ∧ K = H) := by
  refine Calls_of_VC Tryz.func55 Tryz.ntmps55 rfl rfl hw ?_
  repeat' (first | apply (zs1 ?_) | apply (zs2 ?_) | (apply zg4; refine zs9 ?_) | apply (zs65 ?_) | apply (zs68 ?_) | apply (zs69 ?_) | apply (zs70 ?_) | apply (zs73 ?_) | fail)
  refine VC_loop1 (fun (i : Nat) => [(9, .int .i64 i), (8, .int .i64 l.length), (7, .slice A l.length cap), (0, strV (bodyB word (l.take i)))]) (fun _ => H) (fun i => i ≤ l.length) (fun i => l.length - i) 0 (Nat.zero_le _) ?_ (fun w hw => hw) ?_
  · have e0 : bodyB word (l.take 0) = word := by simp [bodyB]
    rw [e0]
    (repeat (first | exact sub_nil _ | (apply sub_cons; first | exact rfl | exact congrArg (fun z : Int => some (Value.int .i64 z)) (by omega))))
  intro i hi K hK
  have hbl := body_len (w := word) (l := l.take i) fun n hn => h n (List.mem_of_mem_take hn)
  have hlt0 : (l.take i).length ≤ 100 := by rw [List.length_take]; omega
  by_cases hlt : i < l.length
  · obtain ⟨n, hn⟩ : ∃ n, l[i]? = some n := ⟨_, List.getElem?_eq_getElem hlt⟩
    have hnb := h n (List.mem_of_getElem? hn)
    have hil := itoa_len hnb
    repeat' (first | ((first | apply VL_callt en96 | apply VL_callq en96); (repeat (first | exact args_nil | (apply args_cons; exact rfl))); exact rfl; exact fun _ hw => (itoa_spec n (by omega) (by omega) ht hw)) | (apply VL_cat [32] (Lib.itoa n); exact rfl; exact rfl; exact rfl; (show 1 + _ ≤ _; omega)) | (apply VL_cat (bodyB word (l.take i)) ([32] ++ Lib.itoa n); exact rfl; exact rfl; exact rfl; (rw [List.length_append]; show _ + (1 + _) ≤ _; omega)) | apply (zs1 ?_) | apply (zs2 ?_) | (apply zg3; refine zs60 ?_) | (apply zg5; refine zs57 ?_) | (apply (zs17 ?_ ?_) <;> intro _ <;> try (exfalso; omega)) | (apply zg13; refine zs30 ?_) | apply (zs65 ?_) | apply (zs68 ?_) | apply (zs69 ?_) | apply (zs70 ?_) | (apply zg27; refine zs71 ?_) | apply (zs73 ?_) | apply (zs76 ?_) | apply (zs79 ?_) | fail)
    apply hK (i + 1)
    · show i + 1 ≤ l.length
      omega
    · omega
    · rw [List.take_add_one, hn, Option.toList_some, body_snoc]
      (repeat (first | exact sub_nil _ | (apply sub_cons; first | exact rfl | exact congrArg (fun z : Int => some (Value.int .i64 z)) (by omega))))
    · exact fun w hw => hw
  · skip
    repeat' (first | (apply VL_cat (bodyB word (l.take i)) [10]; exact rfl; exact rfl; exact rfl; (show _ + 1 ≤ _; omega)) | apply (zs1 ?_) | apply (zs2 ?_) | (apply (zs17 ?_ ?_) <;> intro _ <;> try (exfalso; omega)) | apply (zs65 ?_) | apply (zs68 ?_) | apply (zs69 ?_) | apply (zs70 ?_) | (apply zg27; refine zs72 ?_) | apply (zs74 ?_) | apply (zs75 ?_) | apply (zs80 ?_) | apply (zs81 ?_) | fail)
    apply VQ_ret1; exact rfl; exact rfl
    rw [show i = l.length by omega, List.take_length]
    exact ⟨rfl, rfl⟩

def textTo (s : Sch) (i : Nat) : List UInt8 := lineB wordS [s.len, s.off] ++ (s.cells.take i).flatMap fun c => lineB wordC (nums c)
theorem textTo_step {s : Sch} {i : Nat} (h : i < s.cells.length) : textTo s (i + 1) = textTo s i ++ lineB wordC (nums (celAt s i)) := by
  unfold textTo
  rw [List.take_add_one, celAt_some h, Option.toList_some, List.flatMap_append, List.append_assoc]
  simp
theorem line_len {w : List UInt8} {l : List Int} (h : ∀ n ∈ l, 0 ≤ n ∧ n < 10000) : (lineB w l).length ≤ w.length + 5 * l.length + 1 := by
  unfold lineB
  have := body_len (w := w) h
  rw [List.length_append]
  show _ + 1 ≤ _
  omega
theorem textTo_len {s : Sch} (h : Frm s) : ∀ i, i ≤ s.cells.length → (textTo s i).length ≤ 100 + 40 * i
  | 0, _ => by
    have h1 := line_len (w := wordS) (form_nums h).1
    unfold textTo
    simp only [List.take_zero, List.flatMap_nil, List.append_nil]
    have : wordS.length = 8 := rfl
    simp only [List.length_cons, List.length_nil] at h1
    omega
  | i + 1, hi => by
    have ih := textTo_len h i (by omega)
    have h1 := line_len (w := wordC) ((form_nums h).2 _ (celAt_mem (s := s) (i := i) (by omega)))
    rw [textTo_step (by omega), List.length_append]
    have : wordC.length = 4 := rfl
    have h2 : (nums (celAt s i)).length = 5 := rfl
    omega
set_option maxRecDepth 10000 in
set_option maxHeartbeats 1000000 in
theorem print_in (s : SchM) {B : Nat} {w0 : World} {w : World} (ht : TabsB B w0) (hr : Rd B w0 [] s.A (s.cells.flatMap celF)) (hl : s.cells.length ≤ 1000000000000) (hw : St B w0 [] w) :
    Calls Tryz.prog 16 [s.val].toArray w (Post B w0 fun v _ => v = .tuple #[strV (printE s.sch).1, .int .i64 (printE s.sch).2]) := by
  refine Calls_of_VC Tryz.func16 Tryz.ntmps16 rfl rfl hw ?_
  have e1 : s.sch.cells = s.cells := rfl
  cases hf : formE s.sch with
  | false =>
    repeat' (first | ((first | apply VL_callt en53 | apply VL_callq en53); (repeat (first | exact args_nil | (apply args_cons; exact rfl))); exact rfl; exact fun _ hw => (calls_val (congrArg Value.bool hf) (fun _ hw => form_spec s hr.cons hl hw) hw)) | apply (zs2 ?_) | (apply zg3; refine zs8 ?_) | (apply zg20; refine zs48 ?_) | (apply zg23; (refine zs52 ?_; intro _)) | apply (zs65 ?_) | apply (zs68 ?_) | apply (zs69 ?_) | apply (zs70 ?_) | (apply zg27; refine zs71 ?_) | apply (zs74 ?_) | apply (zs77 ?_) | fail)
    apply VQ_ret2; exact rfl; exact rfl; exact rfl
    rw [printE, if_pos hf]
  | true =>
    have hfr := form_iff.1 hf
    have hle : s.cells.length ≤ 512 := hfr.few
    have hnm := form_nums hfr
    have hln1 := line_len (w := wordS) hnm.1
    repeat' (first | ((first | apply VL_callt en53 | apply VL_callq en53); (repeat (first | exact args_nil | (apply args_cons; exact rfl))); exact rfl; exact fun _ hw => (calls_val (congrArg Value.bool hf) (fun _ hw => form_spec s hr.cons hl hw) hw)) | apply (zs2 ?_) | (apply zg2; refine zs6 ?_) | (apply zg3; first | refine zs7 ?_ | refine zs8 ?_) | (apply zg20; refine zs47 ?_) | (apply zg23; (refine zs52 ?_; intro _)) | (apply zg24; (refine zs54 ?_; intro _)) | (apply zg26; (refine zs56 ?_; intro _)) | apply (zs65 ?_) | apply (zs68 ?_) | apply (zs69 ?_) | apply (zs70 ?_) | (apply zg27; refine zs72 ?_) | apply (zs76 ?_) | fail)
    rename_i gs gb gl
    have hrl : Rd B w0 [blk gl (.cells #[.int .i64 s.len, .int .i64 s.off] 3 (0, 0)), blk gb (.cells (Value.agg #[.pointer none, .slice none 0 0]).cells 83 (0, 0)), blk gs (.cells #[.int .i64 s.len, .int .i64 s.off, .slice s.A s.cells.length s.cap] 30 (0, 0))] (some ⟨gl, 0, none⟩) ([s.sch.len, s.sch.off].flatMap numF) := Rd.blk (cs := #[.int .i64 s.len, .int .i64 s.off]) (.head _)
    first | apply VL_callt en55 | apply VL_callq en55
    (repeat (first | exact args_nil | (apply args_cons; exact rfl)))
    exact rfl
    exact fun _ hw => (line_spec wordS [s.sch.len, s.sch.off] hnm.1 (by show 2 ≤ 100; decide) (by decide) ht hrl hw)
    apply VL_st (bdP gb (.pointer none) none 0 [] [blk gs (.cells #[.int .i64 s.len, .int .i64 s.off, .slice s.A s.cells.length s.cap] 30 (0, 0))])
    · unfold bdP
      intro w hw
      have h5 : St B w0 [blk gb (.cells (Value.agg #[.pointer none, .slice none 0 0]).cells 83 (0, 0)), blk gs (.cells #[.int .i64 s.len, .int .i64 s.off, .slice s.A s.cells.length s.cap] 30 (0, 0))] w := by
        revert w
        (intro w hw; refine hw.perm ?_; focus repeat (first | with_reducible exact Perm.refl _ | (with_reducible apply perm_take; focus ((repeat (first | with_reducible exact rem_here | with_reducible apply rem_there)); done)) | with_reducible apply Perm.dropK))
      exact (h5.nilSlice _ _).perm (.swap _ _ _)
    apply VL_call _ en54
    (repeat (first | exact args_nil | (apply args_cons; exact rfl)))
    exact rfl
    exact fun _ hw => (write_spec gb _ (.inl rfl) none 0 [] (lineB wordS [s.sch.len, s.sch.off]) (by simp only [List.length_nil]; have : wordS.length = 8 := rfl; simp only [List.length_cons, List.length_nil] at hln1; omega) (hw))
    rintro _ _ ⟨rfl, A1, cap1, rfl⟩
    unfold bdP
    repeat' (first | apply (zs1 ?_) | (apply zg2; refine zs6 ?_) | (apply zg3; refine zs7 ?_) | (apply zg4; refine zs9 ?_) | apply (zs65 ?_) | apply (zs68 ?_) | apply (zs69 ?_) | apply (zs70 ?_) | apply (zs73 ?_) | fail)
    refine VC_loop1 (fun (z : Nat × Option Addr × Nat) => [(21, .int .i64 z.1), (20, .int .i64 s.cells.length), (19, .slice s.A s.cells.length s.cap), (4, .pointer (some ⟨gb, 0, none⟩))]) (fun z => bdP gb (.pointer (some ⟨gb, 0, none⟩)) z.2.1 z.2.2 (textTo s.sch z.1) [blk gs (.cells #[.int .i64 s.len, .int .i64 s.off, .slice s.A s.cells.length s.cap] 30 (0, 0))]) (fun z => z.1 ≤ s.cells.length) (fun z => s.cells.length - z.1) (0, A1, cap1) (Nat.zero_le _) ?_ ?_ ?_
    · (repeat (first | exact sub_nil _ | (apply sub_cons; first | exact rfl | exact congrArg (fun z : Int => some (Value.int .i64 z)) (by omega))))
    · have e0 : textTo s.sch 0 = [] ++ lineB wordS [s.sch.len, s.sch.off] := by unfold textTo; simp
      rw [e0]
      unfold bdP
      exact fun w hw => hw
    rintro ⟨i, A2, cap2⟩ hi K hK
    dsimp only at hi ⊢
    have htl := textTo_len hfr i hi
    by_cases hlt : i < s.cells.length
    · have hget : s.cells[i]? = some (celAt s.sch i) := celAt_some (s := s.sch) hlt
      have hnc := hnm.2 _ (celAt_mem (s := s.sch) hlt)
      have hln := line_len (w := wordC) hnc
      have hr' : Rd B w0 (bdP gb (.pointer (some ⟨gb, 0, none⟩)) A2 cap2 (textTo s.sch i) [blk gs (.cells #[.int .i64 s.len, .int .i64 s.off, .slice s.A s.cells.length s.cap] 30 (0, 0))]) s.A (s.cells.flatMap celF) := hr.cons.cons.cons
      repeat' (first | ((first | apply VL_callt en56 | apply VL_callq en56); (repeat (first | exact args_nil | (apply args_cons; exact rfl))); exact rfl; exact fun _ hw => (numbers_spec _ hw)) | (apply VL_slice_all T (e := 3); exact rfl; exact rfl; exact rfl) | (apply zg3; first | refine zs8 ?_ | refine zs61 ?_) | (apply zg5; refine zs57 ?_) | (apply (zs17 ?_ ?_) <;> intro _ <;> try (exfalso; omega)) | (apply zg22; refine zs51 ?_) | (apply zg24; (refine zs54 ?_; intro _)) | apply (zs65 ?_) | apply (zs68 ?_) | apply (zs69 ?_) | apply (zs70 ?_) | (apply zg27; refine zs71 ?_) | apply (zs73 ?_) | apply (zs76 ?_) | fail)
      rename_i gc ga
      have hra : ∀ X, Rd B w0 (blk ga (.cells (celF (celAt s.sch i)).toArray 89 (0, 0)) :: X) (some ⟨ga, 0, none⟩) ((nums (celAt s.sch i)).flatMap numF) := fun X => Rd.blk (cs := (celF (celAt s.sch i)).toArray) (.head _)
      first | apply VL_callt en55 | apply VL_callq en55
      (repeat (first | exact args_nil | (apply args_cons; exact rfl)))
      exact rfl
      exact fun _ hw => (line_spec wordC (nums (celAt s.sch i)) hnc (by show 5 ≤ 100; decide) (by decide) ht (hra _) hw)
      apply VL_st (bdP gb (.pointer (some ⟨gb, 0, none⟩)) A2 cap2 (textTo s.sch i) [blk gs (.cells #[.int .i64 s.len, .int .i64 s.off, .slice s.A s.cells.length s.cap] 30 (0, 0))])
      · exact fun w hw => hw.tail.tail
      have h5n : (nums (celAt s.sch i)).length = 5 := rfl
      have h4w : wordC.length = 4 := rfl
      apply VL_call _ en54
      (repeat (first | exact args_nil | (apply args_cons; exact rfl)))
      exact rfl
      exact fun _ hw => (write_spec gb _ (.inr rfl) A2 cap2 (textTo s.sch i) (lineB wordC (nums (celAt s.sch i))) (by omega) (hw))
      rintro _ _ ⟨rfl, A3, cap3, rfl⟩
      rw [← textTo_step hlt]
      repeat' (first | apply (zs1 ?_) | (apply zg13; refine zs30 ?_) | apply (zs65 ?_) | apply (zs68 ?_) | apply (zs70 ?_) | apply (zs79 ?_) | fail)
      apply hK (i + 1, A3, cap3)
      · show i + 1 ≤ s.cells.length
        omega
      · dsimp only; omega
      · (repeat (first | exact sub_nil _ | (apply sub_cons; first | exact rfl | exact congrArg (fun z : Int => some (Value.int .i64 z)) (by omega))))
      · exact fun w hw => hw
    · repeat' (first | (apply (zs17 ?_ ?_) <;> intro _ <;> try (exfalso; omega)) | apply (zs65 ?_) | apply (zs68 ?_) | apply (zs69 ?_) | apply (zs70 ?_) | (apply zg27; refine zs72 ?_) | apply (zs75 ?_) | apply (zs80 ?_) | apply (zs81 ?_) | fail)
      apply VL_call _ en57
      (repeat (first | exact args_nil | (apply args_cons; exact rfl)))
      exact rfl
      exact fun _ hw => (string_spec (l := textTo s.sch i) (.inr rfl) (hw))
      rintro _ _ ⟨rfl, rfl⟩
      repeat' (first | apply (zs2 ?_) | apply (zs65 ?_) | apply (zs68 ?_) | apply (zs74 ?_) | fail)
      apply VQ_ret2; exact rfl; exact rfl; exact rfl
      rw [printE, if_neg (by simp [hf])]
      rw [show i = s.sch.cells.length from (by have : s.sch.cells.length = s.cells.length := rfl; omega), show textTo s.sch s.sch.cells.length = textE s.sch from (by unfold textTo textE; rw [List.take_length])]
theorem print_spec (s : SchM) {B : Nat} {w0 : World} {H : List HP} {w : World} (ht : TabsB B w0) (hr : Rd B w0 H s.A (s.cells.flatMap celF)) (hl : s.cells.length ≤ 1000000000000) (hw : St B w0 H w) :
    Calls Tryz.prog 16 [s.val].toArray w (Post B w0 fun v K => v = .tuple #[strV (printE s.sch).1, .int .i64 (printE s.sch).2] ∧ K = H) :=
  calls_inner hw (print_in s (ht.here hw) (hr.here hw) hl (St.start w))
end Go.Proofs.YtnkpfpgmbpnbgaaGreatDoor

/- Walks: the numbers of a line; Parse. -/
namespace Go.Proofs.YtnkpfpgmbpnbgaaGreatDoor
open Go.RowKit Go.Eng Go.Nw

section
variable {m : Eng.Mode} {n : Shp} {B d : Nat} {w0 : World} {ops : Array Oper} {Q : Exit → Act → World → Prop} {rest : List Oper} {env : Env} {H : List HP} {ty : TypeId} {pos : String} {after : Array Edge} {x y : Operand}
theorem strV_inj {a b : List UInt8} : (⟨a.toArray⟩ : ByteArray) = ⟨b.toArray⟩ ↔ a = b := by
  constructor
  · intro h
    have h1 := congrArg (fun s : ByteArray => s.data.toList) h
    simpa using h1
  · rintro rfl; rfl
theorem VL_wneq (a b : List UInt8) (hx : evo env x = some (strV a)) (hy : evo env y = some (strV b)) (hn : Nat.ble (d + 1) n.k = true) (h1 : a ≠ b → VL Tryz.prog m n B w0 ops Q rest ((d, .bool true) :: env) H) (h2 : a = b → VL Tryz.prog m n B w0 ops Q rest ((d, .bool false) :: env) H) :
    VL Tryz.prog m n B w0 ops Q (⟨some d, .binOp .neq 9 x y 9, ty, pos, after, none⟩ :: rest) env H :=
  VL_sneq hx hy hn (fun h => h1 fun e => h (strV_inj.2 e)) (fun h => h2 (strV_inj.1 h))
theorem VL_errN (hx : evo env x = some .nilIface) (hn : Nat.ble (d + 1) n.k = true) (h : VL Tryz.prog m n B w0 ops Q rest ((d, .bool false) :: env) H) :
    VL Tryz.prog m n B w0 ops Q (⟨some d, .binOp .neq 85 x (.const .nilIface) 85, ty, pos, after, none⟩ :: rest) env H :=
  VL_bin (y := .const .nilIface) hx rfl hn (fun w => by simp [eqGuard]) (fun w => run_neq_nil_nil (P := Tryz.prog) (w := w) 85 (by kernel_rfl)) h
theorem VL_errS {t : TypeId} {p : Value} (hx : evo env x = some (.iface t p)) (hn : Nat.ble (d + 1) n.k = true) (h : VL Tryz.prog m n B w0 ops Q rest ((d, .bool true) :: env) H) :
    VL Tryz.prog m n B w0 ops Q (⟨some d, .binOp .neq 85 x (.const .nilIface) 85, ty, pos, after, none⟩ :: rest) env H :=
  VL_bin (y := .const .nilIface) hx rfl hn (fun w => by simp [eqGuard]) (fun w => run_neq_held_nil (P := Tryz.prog) (w := w) 85 t p (by kernel_rfl)) h
end
abbrev nrs (A : Option Addr) (cap : Nat) (l : List Int) : HP := sl 3 1 A l.length cap (l.flatMap numF)
theorem nrs_snoc (A : Option Addr) (cap : Nat) (l : List Int) (z : Int) : sl 3 1 A (l.length + 1) cap (l.flatMap numF ++ #[Value.int .i64 z].toList) = nrs A cap (l ++ [z]) := by simp [nrs, List.flatMap_append, numF]
theorem strs_flat (ps : List (List UInt8)) : (ps.map strV) = ps.flatMap strL := by induction ps with | nil => rfl | cons a l ih => simp [strL, List.flatMap_cons, ih]
theorem nums_some {ws : List (List UInt8)} (h : ∀ w ∈ ws, 0 ≤ numW w) : numsW ws = some (ws.map numW) := by
  unfold numsW
  rw [if_neg]
  rw [Bool.not_eq_true, List.any_eq_false]
  intro w hw
  have := h w hw
  simp; omega
theorem nums_none {ws : List (List UInt8)} {w : List UInt8} (hw : w ∈ ws) (h : numW w < 0) : numsW ws = none := by
  unfold numsW
  rw [if_pos]
  rw [List.any_eq_true]
  exact ⟨w, hw, by simpa using h⟩
theorem cut_len {c : UInt8} : ∀ {l : List UInt8}, ∀ p ∈ cutC c l, p.length ≤ l.length
  | [], p, hp => by
    simp only [cutC, List.mem_singleton] at hp
    subst hp; simp
  | x :: l, p, hp => by
    have ih := cut_len (c := c) (l := l)
    unfold cutC at hp
    split at hp
    · rcases List.mem_cons.1 hp with rfl | hp
      · simp
      · have := ih p hp; simp only [List.length_cons]; omega
    · cases hc : cutC c l with
      | nil => rw [hc] at hp; simp at hp; subst hp; simp
      | cons q qs =>
        rw [hc] at hp ih
        simp only [List.mem_cons] at hp ih
        rcases hp with rfl | hp
        · have := ih q (.inl rfl); simp only [List.length_cons]; omega
        · have := ih p (.inr hp); simp only [List.length_cons]; omega
def OutR (H : List HP) (r : Option (List Int)) (v : Value) (K : List HP) : Prop :=
  match r with
  | none => v = .tuple #[.slice none 0 0, .bool false] ∧ K = H
  | some x => ∃ A cap, v = .tuple #[.slice A x.length cap, .bool true] ∧ K = nrs A cap x :: H
set_option maxRecDepth 10000 in
set_option maxHeartbeats 2000000 in
theorem read_spec (line word : List UInt8) (many : Nat) (hl : line.length ≤ 100000) (hm : 1 ≤ many ∧ many ≤ 100) {B : Nat} {w0 : World} {H : List HP} {w : World} (ht : TabsB B w0) (hw : St B w0 H w) :
    Calls Tryz.prog 62 [strV line, strV word, .int .i64 many].toArray w (Post B w0 (OutR H (readE line word many))) := by
  refine Calls_of_VC Tryz.func62 Tryz.ntmps62 rfl rfl hw ?_
  repeat' (first | apply (zs1 ?_) | apply (zs2 ?_) | apply (zs65 ?_) | apply (zs68 ?_) | apply (zs69 ?_) | apply (zs70 ?_) | fail)
  apply VL_call _ en61
  (repeat (first | exact args_nil | (apply args_cons; exact rfl)))
  exact rfl
  exact fun _ hw => (split_spec line 32 (by omega) ht (hw))
  rintro _ _ ⟨g, rfl, rfl⟩
  obtain ⟨ps, hps⟩ : ∃ ps, cutC 32 line = ps := ⟨_, rfl⟩
  have hrd : readE line word many = if ps.length ≠ many + 1 ∨ ps.headD [] ≠ word then none else numsW ps.tail := by unfold readE; rw [hps]
  have hne : ps ≠ [] := hps ▸ cut_ne 32 line
  have hp0 : 1 ≤ ps.length := List.length_pos_iff.2 hne
  have hrp : Rd B w0 (blk g (.cells (ps.map strV).toArray 9 (0, 0)) :: H) (some ⟨g, 0, none⟩) (ps.flatMap strL) := by
    rw [← strs_flat]
    exact Rd.blk (cs := (ps.map strV).toArray) (.head _)
  have h0 : ps[0]? = some (ps.headD []) := by
    cases ps with
    | nil => exact absurd rfl hne
    | cons p ps => rfl
  rw [hps]
  repeat' (first | (apply VL_wneq (ps.headD []) word; exact rfl; exact rfl; exact rfl; all_goals intro hwd) | apply (zs1 ?_) | apply (zs2 ?_) | (apply zg1; first | refine zs3 ?_ | refine zs4 ?_) | (apply zg3; refine zs60 ?_) | (apply zg4; refine zs9 ?_) | (apply zg5; refine zs57 ?_) | (apply zg6; first | refine zs11 ?_ | refine zs12 ?_) | (apply zg8; (refine zs16 ?_ ?_ <;> intro _ <;> try (exfalso; omega))) | (apply zg13; refine zs30 ?_) | apply (zs65 ?_) | apply (zs68 ?_) | apply (zs69 ?_) | apply (zs70 ?_) | (apply zg27; first | refine zs71 ?_ | refine zs72 ?_) | apply (zs74 ?_) | apply (zs76 ?_) | apply (zs77 ?_) | fail)
  · rw [hrd, if_pos (.inl (by omega))]
    apply VQ_tail; apply VQ_ret2; exact rfl; exact rfl; exact rfl; exact ⟨rfl, rfl⟩
  · rw [hrd, if_pos (.inr hwd)]
    apply VQ_tail; apply VQ_ret2; exact rfl; exact rfl; exact rfl; exact ⟨rfl, rfl⟩
  have hpl : ps.length = many + 1 := by omega
  rw [hrd, if_neg (by rintro (h | h); exact h hpl; exact h hwd)]
  obtain ⟨ws, hws⟩ : ∃ ws, ps.tail = ws := ⟨_, rfl⟩
  have hwl : ws.length = many := by rw [← hws, List.length_tail]; omega
  have hwm : ∀ p ∈ ws, p.length ≤ 100000 := fun p hp => by
    have h1 := cut_len (c := 32) (l := line) p (by rw [hps]; exact List.mem_of_mem_tail (hws ▸ hp))
    omega
  rw [hws]
  apply VL_slice_lo T (n' := ws.length); exact rfl; exact rfl; exact rfl; exact rfl; omega; (rw [hwl]; show ps.length - 1 = many; omega)
  have hrw : Rd B w0 (blk g (.cells (ps.map strV).toArray 9 (0, 0)) :: H) (subA (some ⟨g, 0, none⟩) 1 ps.length 1) (ws.flatMap strL) := by
    have h1 := Rd.sub (q := 1) (o := 1) (k := ws.length) (cap := ps.length) (fun _ => rfl) hrp (Nat.le_refl _)
    rw [List.drop_one, hws, List.take_length] at h1
    exact h1
  rw [show (1 : Int).toNat = 1 from rfl]
  obtain ⟨A0, hA0⟩ : ∃ A0, subA (some ⟨g, 0, none⟩) 1 ps.length 1 = A0 := ⟨_, rfl⟩
  rw [hA0] at hrw ⊢
  repeat' (first | apply (zs1 ?_) | (apply zg4; refine zs9 ?_) | apply (zs65 ?_) | apply (zs68 ?_) | apply (zs73 ?_) | fail)
  have hnone : ∀ {p : List UInt8}, p ∈ ws → numW p < 0 → numsW ws = none := fun hp hn => nums_none hp hn
  refine VC_loop1 (fun (z : Nat × Option Addr × Nat) => [(31, .int .i64 z.1), (30, .int .i64 ws.length), (29, .slice A0 ws.length (ps.length - 1)), (9, .slice z.2.1 ((ws.take z.1).map numW).length z.2.2)]) (fun z => nrs z.2.1 z.2.2 ((ws.take z.1).map numW) :: blk g (.cells (ps.map strV).toArray 9 (0, 0)) :: H) (fun z => z.1 ≤ ws.length ∧ ∀ p ∈ ws.take z.1, 0 ≤ numW p) (fun z => ws.length - z.1) (0, none, 0) ⟨Nat.zero_le _, by simp⟩ ?_ (fun w hw => hw.nilSlice _ _) ?_
  · (repeat (first | exact sub_nil _ | (apply sub_cons; first | exact rfl | exact congrArg (fun z : Int => some (Value.int .i64 z)) (by omega))))
  rintro ⟨i, A, cap⟩ ⟨hi, hall⟩ K hK
  dsimp only at hi hall ⊢
  have hlen : ((ws.take i).map numW).length = i := by rw [List.length_map, List.length_take]; omega
  have hrw' := hrw.cons (X := nrs A cap ((ws.take i).map numW))
  by_cases hlt : i < ws.length
  · obtain ⟨p, hp⟩ : ∃ p, ws[i]? = some p := ⟨_, List.getElem?_eq_getElem hlt⟩
    have hpm := List.mem_of_getElem? hp
    have hpl := hwm p hpm
    have hs : (⟨p.toArray⟩ : ByteArray).size = p.length := by simp [ByteArray.size]
    by_cases hv : ∃ v, Lib.atoiAll p = .ok v
    · obtain ⟨v, hv⟩ := hv
      have hvb := Lib.atoiAll_bounds hv
      obtain ⟨q1, q2⟩ := prog_num hv
      repeat' (first | ((first | apply VL_callt en99 | apply VL_callq en99); (repeat (first | exact args_nil | (apply args_cons; exact rfl))); exact rfl; exact fun _ hw => (atoi_ok p (by omega) v hv hw)) | ((first | apply VL_callt en96 | apply VL_callq en96); (repeat (first | exact args_nil | (apply args_cons; exact rfl))); exact rfl; exact fun _ hw => (itoa_spec v hvb.1 hvb.2 ht hw)) | (apply VL_errN; exact rfl; exact rfl) | (apply VL_wneq (Lib.itoa v) p; exact rfl; exact rfl; exact rfl; all_goals intro hwd2) | apply (zs1 ?_) | apply (zs2 ?_) | (apply zg1; first | refine zs3 ?_ | refine zs4 ?_) | (apply zg3; refine zs60 ?_) | (apply zg4; refine zs14 ?_) | (apply zg5; refine zs57 ?_) | (apply zg6; first | refine zs11 ?_ | refine zs12 ?_) | apply (zs13 ?_) | (apply (zs17 ?_ ?_) <;> intro _ <;> try (exfalso; omega)) | (apply (zs19 ?_ ?_) <;> intro _ <;> try (exfalso; omega)) | (apply zg13; refine zs30 ?_) | (apply zg21; (refine zs49 ?_; intro _ _)) | (apply zg26; (refine zs56 ?_; intro _)) | apply (zs65 ?_) | apply (zs68 ?_) | apply (zs69 ?_) | apply (zs70 ?_) | (apply zg27; first | refine zs71 ?_ | refine zs72 ?_) | apply (zs73 ?_) | apply (zs74 ?_) | apply (zs76 ?_) | apply (zs77 ?_) | apply (zs78 ?_) | apply (zs79 ?_) | fail)
      all_goals first
        | (apply VQ_st H
           · (intro w hw; refine hw.perm ?_; focus repeat (first | with_reducible exact Perm.refl _ | (with_reducible apply perm_take; focus ((repeat (first | with_reducible exact rem_here | with_reducible apply rem_there)); done)) | with_reducible apply Perm.dropK))
           apply VQ_ret2; exact rfl; exact rfl; exact rfl
           rw [hnone hpm (q2 (by rintro ⟨c1, c2, c3⟩; first | omega | exact hwd2 c2))]
           exact ⟨rfl, rfl⟩)
        | (rename_i xA xcap
           have hq := q1 ⟨by omega, hwd2, by omega⟩
           have e5 : (ws.take i).map numW ++ [v] = (ws.take (i + 1)).map numW := by rw [List.take_add_one, hp, Option.toList_some, List.map_append, List.map_cons, List.map_nil, hq]
           rw [nrs_snoc, e5]
           apply hK (i + 1, xA, xcap)
           · refine ⟨by show i + 1 ≤ _; omega, fun p' hp' => ?_⟩
             dsimp only at hp'
             rw [List.take_add_one, hp, Option.toList_some, List.mem_append, List.mem_singleton] at hp'
             rcases hp' with hp' | rfl
             · exact hall p' hp'
             · omega
           · dsimp only; omega
           · rw [show ((ws.take i).map numW).length + 1 = ((ws.take (i + 1)).map numW).length from (by rw [← e5]; simp)]
             (repeat (first | exact sub_nil _ | (apply sub_cons; first | exact rfl | exact congrArg (fun z : Int => some (Value.int .i64 z)) (by omega))))
           · (intro w hw; refine hw.perm ?_; focus repeat (first | with_reducible exact Perm.refl _ | (with_reducible apply perm_take; focus ((repeat (first | with_reducible exact rem_here | with_reducible apply rem_there)); done)) | with_reducible apply Perm.dropK)))
    · have hbad := prog_bad (fun n hn => hv ⟨n, hn⟩)
      repeat' (first | apply (zs1 ?_) | apply (zs2 ?_) | (apply zg3; refine zs60 ?_) | (apply zg5; refine zs57 ?_) | (apply (zs17 ?_ ?_) <;> intro _ <;> try (exfalso; omega)) | apply (zs65 ?_) | apply (zs68 ?_) | apply (zs69 ?_) | apply (zs70 ?_) | (apply zg27; refine zs71 ?_) | apply (zs73 ?_) | apply (zs76 ?_) | fail)
      apply VL_call _ en99
      (repeat (first | exact args_nil | (apply args_cons; exact rfl)))
      exact rfl
      exact fun _ hw => (atoi_bad p (by omega) (fun n hn => hv ⟨n, hn⟩) ht (hw))
      rintro _ _ ⟨⟨n9, t9, p9, rfl⟩, rfl⟩
      repeat' (first | (apply VL_errS; exact rfl; exact rfl) | apply (zs1 ?_) | apply (zs2 ?_) | (apply zg1; refine zs3 ?_) | (apply zg6; refine zs11 ?_) | apply (zs13 ?_) | apply (zs65 ?_) | apply (zs68 ?_) | apply (zs69 ?_) | apply (zs70 ?_) | (apply zg27; refine zs71 ?_) | apply (zs74 ?_) | apply (zs77 ?_) | apply (zs78 ?_) | fail)
      rw [hnone hpm hbad]
      apply VQ_st H
      · (intro w hw; refine hw.perm ?_; focus repeat (first | with_reducible exact Perm.refl _ | (with_reducible apply perm_take; focus ((repeat (first | with_reducible exact rem_here | with_reducible apply rem_there)); done)) | with_reducible apply Perm.dropK))
      apply VQ_ret2; exact rfl; exact rfl; exact rfl; exact ⟨rfl, rfl⟩
  · have hie : i = ws.length := by omega
    rw [hie, List.take_length] at hall
    rw [nums_some hall]
    repeat' (first | apply (zs1 ?_) | apply (zs2 ?_) | (apply (zs17 ?_ ?_) <;> intro _ <;> try (exfalso; omega)) | apply (zs65 ?_) | apply (zs68 ?_) | apply (zs69 ?_) | apply (zs70 ?_) | (apply zg27; refine zs72 ?_) | apply (zs74 ?_) | apply (zs75 ?_) | apply (zs80 ?_) | apply (zs81 ?_) | fail)
    rw [hie, List.take_length]
    apply VQ_st (nrs A cap (ws.map numW) :: H)
    · (intro w hw; refine hw.perm ?_; focus repeat (first | with_reducible exact Perm.refl _ | (with_reducible apply perm_take; focus ((repeat (first | with_reducible exact rem_here | with_reducible apply rem_there)); done)) | with_reducible apply Perm.dropK))
    apply VQ_ret2; exact rfl; exact rfl; exact rfl
    exact ⟨A, cap, rfl, rfl⟩
end Go.Proofs.YtnkpfpgmbpnbgaaGreatDoor

/- Walks: cells searched; lists of cells copied, one struck; Remove. -/
namespace Go.Proofs.YtnkpfpgmbpnbgaaGreatDoor
open Go.RowKit Go.Eng Go.Nw

def OutS (H : List HP) (R : Sch × Int) (v : Value) (K : List HP) : Prop := ∃ A cap, v = .tuple #[.agg #[.int .i64 R.1.len, .int .i64 R.1.off, .slice A R.1.cells.length cap], .int .i64 R.2] ∧ K = cels A cap R.1.cells :: H
theorem outS_no {H : List HP} {R : Sch × Int} {v : Value} (e : Int) (hR : R = (zeroS, e)) (hv : v = .tuple #[.agg #[.int .i64 0, .int .i64 0, .slice none 0 0], .int .i64 e]) : OutS H R v (cels none 0 [] :: H) := ⟨none, 0, by rw [hR]; exact hv, by rw [hR]; rfl⟩

end Go.Proofs.YtnkpfpgmbpnbgaaGreatDoor

/- Walks: Parse. -/
namespace Go.Eng
open Go.RowKit
theorem VQ_retc3 {P : Program} {B : Nat} {w0 : World} {env : Env} {H : List HP} {n : Nat} (T : Tab P) {fn : Func} {Φ : Value → List HP → Prop} {p g k u s rt : Nat} {x y : Value} {cs : Array Value} {tt : TypeId} {fr : Nat × Nat} (hr : fn.results = #[.cell p rt, .tmp u, .tmp s]) (hp : get env p = some (.pointer (some ⟨g, 0, none⟩))) (hu : get env u = some x) (hs : get env s = some y)
    (hm : blk g (.cells cs tt fr) ∈ H) (ht : look T.ag rt = some k) (hk : cs.size = k) {H2 : List HP} (hH : ∀ w, St B w0 H w → St B w0 H2 w) (h : Φ (.tuple #[.agg cs, x, y]) H2) : VQ ⟨n, [], none⟩ B w0 (bodyPost P fn (Post B w0 Φ)) .ret env H := by
  refine ⟨fun a w ha hw => bodyPost_ret (v := .tuple #[.agg cs, x, y]) ?_ ha.defers ⟨_, H2, rfl, hH w hw, h⟩⟩
  have hp' := ha.slot p _ hp
  simp [results, hr, Array.getD_eq_getD_getElem?, hp', ha.slot u _ hu, ha.slot s _ hs, asAddr, run_load_blk T (hw.blk hm).1 ht hk]
end Go.Eng
namespace Go.Proofs.YtnkpfpgmbpnbgaaGreatDoor
open Go.RowKit Go.Eng Go.Nw

theorem firstF_at {f : Nat → Int} : ∀ {r i0 i : Nat}, (∀ k, i0 ≤ k → k < i → f k = 0) → i0 ≤ i → i < i0 + r → f i ≠ 0 → firstF f r i0 = ((i : Int), f i)
  | 0, i0, i, _, h1, h2, _ => by omega
  | r + 1, i0, i, h0, h1, h2, h3 => by
    unfold firstF
    by_cases e : i0 = i
    · subst e; rw [if_neg h3]
    · rw [if_pos (h0 i0 (Nat.le_refl _) (by omega))]
      exact firstF_at (fun k hk1 hk2 => h0 k (by omega) hk2) (by omega) (by omega) h3
theorem firstF_no {f : Nat → Int} {r i0 : Nat} (h : ∀ k, i0 ≤ k → k < i0 + r → f k = 0) : firstF f r i0 = (-1, 0) := by
  have h2 := firstF_ok.2 h
  exact Prod.ext (firstF_neg h2) h2
theorem cut_count {c : UInt8} : ∀ l : List UInt8, (cutC c l).length ≤ l.length + 1
  | [] => by simp [cutC]
  | x :: l => by
    have ih := cut_count (c := c) l
    unfold cutC
    split
    · simp only [List.length_cons]; omega
    · split
      · simp
      · rename_i h t he
        rw [he] at ih
        simp only [List.length_cons] at ih ⊢
        omega
theorem schTo_len (ls : List (List UInt8)) : ∀ k, (schTo ls k).cells.length ≤ k
  | 0 => by simp [schTo, zeroS]
  | k + 1 => by
    have ih := schTo_len ls k
    show (stepS k (schTo ls k) _).cells.length ≤ k + 1
    unfold stepS
    split
    · show (schTo ls k).cells.length ≤ k + 1
      omega
    · show ((schTo ls k).cells ++ _).length ≤ k + 1
      simp; omega
def OutP (H : List HP) (R : Sch × (Int × Int)) (v : Value) (K : List HP) : Prop := ∃ A cap, v = .tuple #[.agg #[.int .i64 R.1.len, .int .i64 R.1.off, .slice A R.1.cells.length cap], .int .i64 R.2.1, .int .i64 R.2.2] ∧ K = cels A cap R.1.cells :: H
theorem outP_no {H : List HP} {R : Sch × (Int × Int)} {v : Value} (i e : Int) (hR : R = (zeroS, (i, e))) (hv : v = .tuple #[.agg #[.int .i64 0, .int .i64 0, .slice none 0 0], .int .i64 i, .int .i64 e]) : OutP H R v (cels none 0 [] :: H) := ⟨none, 0, by rw [hR]; exact hv, by rw [hR]; rfl⟩
def schP (g : Nat) (s : Sch) (A : Option Addr) (cap : Nat) : HP := blk g (.cells #[.int .i64 s.len, .int .i64 s.off, .slice A s.cells.length cap] 30 (0, 0))
set_option maxRecDepth 10000 in
set_option maxHeartbeats 4000000 in
theorem parse_spec (text : List UInt8) (hl : text.length ≤ 100000) {B : Nat} {w0 : World} {H : List HP} {w : World} (ht : TabsB B w0) (hw : St B w0 H w) :
    Calls Tryz.prog 18 [strV text].toArray w (Post B w0 (OutP H (parseE text))) := by
  refine Calls_of_VC Tryz.func18 Tryz.ntmps18 rfl rfl hw ?_
  repeat' (first | apply (zs1 ?_) | apply (zs2 ?_) | (apply zg24; (refine zs54 ?_; intro _)) | apply (zs65 ?_) | apply (zs68 ?_) | apply (zs69 ?_) | apply (zs70 ?_) | fail)
  apply VL_call _ en61
  (repeat (first | exact args_nil | (apply args_cons; exact rfl)))
  exact rfl
  exact fun _ hw => (split_spec text 10 (by omega) ht (hw))
  rintro _ _ ⟨g, rfl, rfl⟩
  obtain ⟨ls, hls⟩ : ∃ ls, cutC 10 text = ls := ⟨_, rfl⟩
  have hpe : parseE text = parseL ls := by unfold parseE; rw [hls]
  have hlc : ls.length ≤ 100001 := by have := cut_count (c := 10) text; rw [hls] at this; omega
  have hl1 : 1 ≤ ls.length := List.length_pos_iff.2 (hls ▸ cut_ne 10 text)
  have hll : ∀ p ∈ ls, p.length ≤ 100000 := fun p hp => by have := cut_len (c := 10) (l := text) p (hls ▸ hp); omega
  have hrp : ∀ {L : List HP}, blk g (.cells (ls.map strV).toArray 9 (0, 0)) ∈ L → Rd B w0 L (some ⟨g, 0, none⟩) (ls.flatMap strL) := fun h => by
    rw [← strs_flat]
    exact Rd.blk (cs := (ls.map strV).toArray) h
  rw [hls, hpe]
  repeat' (first | apply (zs1 ?_) | apply (zs2 ?_) | (apply zg4; refine zs9 ?_) | (apply zg14; refine zs31 ?_) | (apply zg24; (refine zs54 ?_; intro _)) | apply (zs65 ?_) | apply (zs68 ?_) | apply (zs69 ?_) | apply (zs70 ?_) | fail)
  rename_i gr gs
  obtain ⟨m, hm⟩ : ∃ m, ls.length = m + 1 := ⟨ls.length - 1, by omega⟩
  rw [show ((ls.length : Nat) : Int) - 1 = (m : Int) by omega]
  apply VL_slice_hi_rd T (l := ls) (n' := (ls.take m).length); exact rfl; exact rfl; exact rfl; exact rfl; omega; exact Nat.le_refl _; (rw [List.length_take]; omega)
  rw [subA_zeroC]
  repeat' (first | apply (zs1 ?_) | (apply zg4; refine zs9 ?_) | apply (zs65 ?_) | apply (zs68 ?_) | apply (zs73 ?_) | fail)
  have hlt : (ls.take m).length = m := by rw [List.length_take]; omega
  have hrt : ∀ {L : List HP}, blk g (.cells (ls.map strV).toArray 9 (0, 0)) ∈ L → Rd B w0 L (some ⟨g, 0, none⟩) ((ls.take m).flatMap strL) := fun h => Rd.take (q := 1) m (fun _ => rfl) (hrp h)
  have hpl : parseL ls = if (firstF (badRow ls) m 0).2 ≠ 0 then (zeroS, firstF (badRow ls) m 0)
    else if m = 0 ∨ lineAt ls m ≠ [] then (zeroS, ((m : Int), 3))
    else if formE (schTo ls m) = false then (zeroS, (-1, 1)) else (schTo ls m, (-1, 0)) := by
    unfold parseL
    rw [show ls.length - 1 = m by omega]
  refine VC_loop1 (fun (z : Nat × Option Addr × Nat) => [(23, .int .i64 z.1), (22, .int .i64 (ls.take m).length), (21, .slice (some ⟨g, 0, none⟩) (ls.take m).length ls.length), (5, .slice (some ⟨g, 0, none⟩) ls.length ls.length), (6, .int .i64 m), (7, .pointer (some ⟨gs, 0, none⟩)), (2, .pointer (some ⟨gr, 0, none⟩))])
    (fun z => schP gs (schTo ls z.1) z.2.1 z.2.2 :: cels z.2.1 z.2.2 (schTo ls z.1).cells :: blk g (.cells (ls.map strV).toArray 9 (0, 0)) :: blk gr (.cells #[.int .i64 0, .int .i64 0, .slice none 0 0] 30 (0, 0)) :: H) (fun z => z.1 ≤ m ∧ ∀ k, k < z.1 → badRow ls k = 0) (fun z => m - z.1) (0, none, 0) ⟨Nat.zero_le _, fun k hk => absurd hk (Nat.not_lt_zero _)⟩ ?_ (fun w hw => ?_) ?_
  · (repeat (first | exact sub_nil _ | (apply sub_cons; first | exact rfl | exact congrArg (fun z : Int => some (Value.int .i64 z)) (by omega))))
  · exact (hw.nilSlice _ _).perm (.swap _ _ _)
  rintro ⟨i, A, cap⟩ ⟨hi, hall⟩ K hK
  dsimp only at hi hall ⊢
  have hcl := schTo_len ls i
  obtain ⟨SC, hSC⟩ : ∃ SC, schTo ls i = SC := ⟨_, rfl⟩
  rw [hSC] at hcl ⊢
  unfold schP
  by_cases hlti : i < m
  · have hrt' : Rd B w0 (blk gs (.cells #[.int .i64 SC.len, .int .i64 SC.off, .slice A SC.cells.length cap] 30 (0, 0)) :: cels A cap SC.cells :: blk g (.cells (ls.map strV).toArray 9 (0, 0)) :: blk gr (.cells #[.int .i64 0, .int .i64 0, .slice none 0 0] 30 (0, 0)) :: H) (some ⟨g, 0, none⟩) ((ls.take m).flatMap strL) := hrt (by (focus repeat (first | with_reducible exact List.mem_cons_self | with_reducible apply List.mem_cons_of_mem | assumption)))
    have hget : (ls.take m)[i]? = some (lineAt ls i) := by
      rw [List.getElem?_take, if_pos hlti]
      unfold lineAt
      rw [List.getD_eq_getElem?_getD, List.getElem?_eq_getElem (by omega)]
      rfl
    have hlm : (lineAt ls i).length ≤ 100000 := hll _ (List.mem_of_mem_take (List.mem_of_getElem? hget))
    rcases Nat.eq_zero_or_pos i with h0 | h0
    · subst h0
      have hsc : SC = zeroS := hSC.symm
      subst hsc
      repeat' (first | apply (zs1 ?_) | apply (zs2 ?_) | (apply zg3; refine zs60 ?_) | (apply zg5; refine zs57 ?_) | (apply zg7; (refine zs15 ?_ ?_ <;> intro _ <;> try (exfalso; omega))) | (apply (zs17 ?_ ?_) <;> intro _ <;> try (exfalso; omega)) | apply (zs65 ?_) | apply (zs68 ?_) | apply (zs69 ?_) | apply (zs70 ?_) | (apply zg27; refine zs71 ?_) | apply (zs73 ?_) | apply (zs76 ?_) | fail)
      apply VL_call _ en62
      (repeat (first | exact args_nil | (apply args_cons; exact rfl)))
      exact rfl
      exact fun _ hw => (read_spec (lineAt ls 0) wordS 2 hlm (by omega) ht (hw))
      intro v9 K9 hr9
      cases hrow : readE (lineAt ls 0) wordS 2 with
      | none =>
        rw [hrow] at hr9
        obtain ⟨rfl, rfl⟩ := hr9
        have hbr : badRow ls 0 = 3 := by unfold badRow; rw [show rowE 0 (lineAt ls 0) = none from hrow]; rfl
        have hfa := firstF_at (f := badRow ls) (r := m) (i0 := 0) (i := 0) (fun k _ hk => absurd hk (Nat.not_lt_zero _)) (Nat.le_refl _) (by omega) (by rw [hbr]; decide)
        repeat' (first | apply (zs1 ?_) | apply (zs2 ?_) | apply (zs13 ?_) | (apply zg20; refine zs48 ?_) | (apply zg22; refine zs51 ?_) | (apply zg25; refine zs55 ?_) | apply (zs65 ?_) | apply (zs68 ?_) | apply (zs69 ?_) | apply (zs70 ?_) | (apply zg27; refine zs71 ?_) | apply (zs73 ?_) | apply (zs74 ?_) | apply (zs77 ?_) | apply (zs78 ?_) | fail)
        apply VQ_retc3 T (H2 := cels none 0 [] :: H); exact rfl; exact rfl; exact rfl; exact rfl; (focus repeat (first | with_reducible exact List.mem_cons_self | with_reducible apply List.mem_cons_of_mem | assumption)); exact rfl; exact rfl; (intro w hw; refine St.nilSlice (H := H) ?_ _ _; revert w; (intro w hw; refine hw.perm ?_; focus repeat (first | with_reducible exact Perm.refl _ | (with_reducible apply perm_take; focus ((repeat (first | with_reducible exact rem_here | with_reducible apply rem_there)); done)) | with_reducible apply Perm.dropK)))
        exact outP_no 0 3 (by rw [hpl, hfa, hbr]; rfl) rfl
      | some x =>
        rw [hrow] at hr9
        obtain ⟨Ax, capx, rfl, rfl⟩ := hr9
        have hbr : badRow ls 0 = 0 := by unfold badRow; rw [show rowE 0 (lineAt ls 0) = some x from hrow]; rfl
        obtain ⟨xa, xb, rfl⟩ : ∃ a b, x = [a, b] := by
          have h2 := (read_some hrow).2.1
          match x, h2 with
          | [a, b], _ => exact ⟨a, b, rfl⟩
        have hst : schTo ls 1 = ⟨xa, xb, []⟩ := by
          show stepS 0 zeroS _ = _
          rw [show rowE 0 (lineAt ls 0) = some [xa, xb] from hrow]; rfl
        unfold nrs
        rw [show ([xa, xb] : List Int).length = 2 from rfl, show ([xa, xb] : List Int).flatMap numF = [.int .i64 xa, .int .i64 xb] from rfl]
        repeat' (first | apply (zs1 ?_) | apply (zs2 ?_) | apply (zs13 ?_) | (apply zg7; (refine zs15 ?_ ?_ <;> intro _ <;> try (exfalso; omega))) | (apply zg20; refine zs47 ?_) | apply (zs65 ?_) | apply (zs68 ?_) | apply (zs69 ?_) | apply (zs70 ?_) | (apply zg27; first | refine zs71 ?_ | refine zs72 ?_) | apply (zs73 ?_) | fail)
        apply VC_heldH [0, 1, 2, 3, 4, 5, 6, 7] [8, 9] [true, false]
        kernel_rfl
        kernel_rfl
        (repeat (first | with_reducible exact split_nil | with_reducible apply split_t | with_reducible apply split_f))
        (simp only [pickOps, nthO]; rfl)
        (simp only [pickOps, nthO]; rfl)
        repeat' (first | (apply VL_load_sl T; exact rfl; (focus repeat (first | with_reducible exact List.mem_cons_self | with_reducible apply List.mem_cons_of_mem | assumption)); exact rfl; exact rfl; exact rfl) | apply (zs1 ?_) | (apply zg2; refine zs6 ?_) | (apply zg5; refine zs10 ?_) | (apply zg13; refine zs30 ?_) | (apply zg22; refine zs50 ?_) | apply (zs65 ?_) | (apply VL_nilh; (repeat (first | with_reducible exact app_nil | with_reducible apply app_cons | exact app_niln _))) | apply (zs68 ?_) | apply (zs70 ?_) | apply (zs79 ?_) | apply (zs87 ?_) | (apply VQ_heldq; (repeat (first | with_reducible exact pull_nil | (with_reducible apply pull_cons; (repeat (first | with_reducible exact rem_here | with_reducible apply rem_there)))))) | apply (zs93 ?_) | apply (zs94 ?_) | fail)
        apply hK (0 + 1, A, cap)
        · refine ⟨by show 0 + 1 ≤ m; omega, fun k hk => ?_⟩
          obtain rfl : k = 0 := by have : k < 0 + 1 := hk; omega
          exact hbr
        · show m - (0 + 1) < m - 0
          omega
        · (repeat (first | exact sub_nil _ | (apply sub_cons; first | exact rfl | exact congrArg (fun z : Int => some (Value.int .i64 z)) (by omega))))
        · intro w hw
          have h5 : St B w0 (blk gs (.cells #[.int .i64 xa, .int .i64 xb, .slice A zeroS.cells.length cap] 30 (0, 0)) :: cels A cap zeroS.cells :: blk g (.cells (ls.map strV).toArray 9 (0, 0)) :: blk gr (.cells #[.int .i64 0, .int .i64 0, .slice none 0 0] 30 (0, 0)) :: H) w := by
            revert w
            (intro w hw; refine hw.perm ?_; focus repeat (first | with_reducible exact Perm.refl _ | (with_reducible apply perm_take; focus ((repeat (first | with_reducible exact rem_here | with_reducible apply rem_there)); done)) | with_reducible apply Perm.dropK))
          dsimp only
          rw [hst]
          exact h5
    · have hb : badRow ls i = 0 ∨ badRow ls i = 3 := by unfold badRow; split <;> simp
      repeat' (first | apply (zs1 ?_) | apply (zs2 ?_) | (apply zg3; refine zs60 ?_) | (apply zg5; refine zs57 ?_) | (apply zg7; (refine zs15 ?_ ?_ <;> intro _ <;> try (exfalso; omega))) | (apply (zs17 ?_ ?_) <;> intro _ <;> try (exfalso; omega)) | apply (zs65 ?_) | apply (zs68 ?_) | apply (zs69 ?_) | apply (zs70 ?_) | (apply zg27; first | refine zs71 ?_ | refine zs72 ?_) | apply (zs73 ?_) | apply (zs76 ?_) | fail)
      apply VL_call _ en62
      (repeat (first | exact args_nil | (apply args_cons; exact rfl)))
      exact rfl
      exact fun _ hw => (read_spec (lineAt ls i) wordC 5 hlm (by omega) ht (hw))
      intro v9 K9 hr9
      have hro : rowE i (lineAt ls i) = readE (lineAt ls i) wordC 5 := by
        unfold rowE wordOf manyOf
        rw [if_neg (by omega), if_neg (by omega)]
      cases hrow : readE (lineAt ls i) wordC 5 with
      | none =>
        rw [hrow] at hr9
        obtain ⟨rfl, rfl⟩ := hr9
        have hbr : badRow ls i = 3 := by unfold badRow; rw [hro, hrow]; rfl
        have hfa := firstF_at (f := badRow ls) (r := m) (i0 := 0) (i := i) (fun k _ hk => hall k hk) (Nat.zero_le _) (by omega) (by rw [hbr]; decide)
        repeat' (first | apply (zs1 ?_) | apply (zs2 ?_) | apply (zs13 ?_) | (apply zg20; refine zs48 ?_) | (apply zg22; refine zs51 ?_) | (apply zg25; refine zs55 ?_) | apply (zs65 ?_) | apply (zs68 ?_) | apply (zs69 ?_) | apply (zs70 ?_) | (apply zg27; refine zs71 ?_) | apply (zs73 ?_) | apply (zs74 ?_) | apply (zs77 ?_) | apply (zs78 ?_) | fail)
        apply VQ_retc3 T (H2 := cels none 0 [] :: H); exact rfl; exact rfl; exact rfl; exact rfl; (focus repeat (first | with_reducible exact List.mem_cons_self | with_reducible apply List.mem_cons_of_mem | assumption)); exact rfl; exact rfl; (intro w hw; refine St.nilSlice (H := H) ?_ _ _; revert w; (intro w hw; refine hw.perm ?_; focus repeat (first | with_reducible exact Perm.refl _ | (with_reducible apply perm_take; focus ((repeat (first | with_reducible exact rem_here | with_reducible apply rem_there)); done)) | with_reducible apply Perm.dropK)))
        exact outP_no i 3 (by rw [hpl, hfa, hbr]; rfl) rfl
      | some x =>
        rw [hrow] at hr9
        obtain ⟨Ax, capx, rfl, rfl⟩ := hr9
        have hbr : badRow ls i = 0 := by unfold badRow; rw [hro, hrow]; rfl
        obtain ⟨x1, x2, x3, x4, x5, rfl⟩ : ∃ a b c d e, x = [a, b, c, d, e] := by
          have h2 := (read_some hrow).2.1
          match x, h2 with
          | [a, b, c, d, e], _ => exact ⟨a, b, c, d, e, rfl⟩
        have hst : schTo ls (i + 1) = ⟨SC.len, SC.off, SC.cells ++ [(x1, x2, x3, x4, x5)]⟩ := by
          show stepS i (schTo ls i) _ = _
          rw [hro, hrow, hSC]
          unfold stepS
          rw [if_neg (by omega)]
          rfl
        unfold nrs cels
        rw [show ([x1, x2, x3, x4, x5] : List Int).length = 5 from rfl, show ([x1, x2, x3, x4, x5] : List Int).flatMap numF = [.int .i64 x1, .int .i64 x2, .int .i64 x3, .int .i64 x4, .int .i64 x5] from rfl]
        repeat' (first | apply (zs1 ?_) | apply (zs2 ?_) | apply (zs13 ?_) | (apply zg7; (refine zs15 ?_ ?_ <;> intro _ <;> try (exfalso; omega))) | (apply zg20; refine zs47 ?_) | apply (zs65 ?_) | apply (zs68 ?_) | apply (zs69 ?_) | apply (zs70 ?_) | (apply zg27; refine zs72 ?_) | apply (zs73 ?_) | fail)
        apply VC_heldH [0, 1, 2, 3, 4, 5, 6, 7, 8, 9, 10, 11, 12, 13, 14, 15, 16, 17, 18] [19, 20, 21] [true, true, false]
        kernel_rfl
        kernel_rfl
        (repeat (first | with_reducible exact split_nil | with_reducible apply split_t | with_reducible apply split_f))
        (simp only [pickOps, nthO]; rfl)
        (simp only [pickOps, nthO]; rfl)
        repeat' (first | (apply VL_load_sl T; exact rfl; (focus repeat (first | with_reducible exact List.mem_cons_self | with_reducible apply List.mem_cons_of_mem | assumption)); exact rfl; exact rfl; exact rfl) | apply (zs1 ?_) | (apply zg2; refine zs6 ?_) | (apply zg3; refine zs7 ?_) | (apply zg5; refine zs10 ?_) | (apply zg13; refine zs30 ?_) | (apply zg21; (refine zs49 ?_; intro _ _)) | (apply zg22; refine zs50 ?_) | (apply zg25; refine zs55 ?_) | (apply zg26; (refine zs56 ?_; intro _)) | apply (zs65 ?_) | (apply VL_nilh; (repeat (first | with_reducible exact app_nil | with_reducible apply app_cons | exact app_niln _))) | apply (zs68 ?_) | apply (zs70 ?_) | apply (zs79 ?_) | apply (zs87 ?_) | (apply VQ_heldq; (repeat (first | with_reducible exact pull_nil | (with_reducible apply pull_cons; (repeat (first | with_reducible exact rem_here | with_reducible apply rem_there)))))) | apply (zs93 ?_) | apply (zs94 ?_) | fail)
        rename_i gq A' cap'
        apply hK (i + 1, A', cap')
        · refine ⟨by show i + 1 ≤ m; omega, fun k hk => ?_⟩
          have hk : k < i + 1 := hk
          by_cases e : k = i
          · rw [e]; exact hbr
          · exact hall k (by omega)
        · show m - (i + 1) < m - i
          omega
        · (repeat (first | exact sub_nil _ | (apply sub_cons; first | exact rfl | exact congrArg (fun z : Int => some (Value.int .i64 z)) (by omega))))
        · intro w hw
          have e6 : sl 51 5 A' (SC.cells.length + 1) cap' (SC.cells.flatMap celF ++ #[Value.int .i64 x1, .int .i64 x2, .int .i64 x3, .int .i64 x4, .int .i64 x5].toList) = cels A' cap' (SC.cells ++ [(x1, x2, x3, x4, x5)]) := cels_snocR A' cap' SC.cells (x1, x2, x3, x4, x5)
          rw [e6, len_snoc SC.cells (x1, x2, x3, x4, x5)] at hw
          dsimp only
          rw [hst]
          unfold schP
          dsimp only
          revert w
          (intro w hw; refine hw.perm ?_; focus repeat (first | with_reducible exact Perm.refl _ | (with_reducible apply perm_take; focus ((repeat (first | with_reducible exact rem_here | with_reducible apply rem_there)); done)) | with_reducible apply Perm.dropK))
  · obtain rfl : i = m := by omega
    have hrp' : Rd B w0 (blk gs (.cells #[.int .i64 SC.len, .int .i64 SC.off, .slice A SC.cells.length cap] 30 (0, 0)) :: cels A cap SC.cells :: blk g (.cells (ls.map strV).toArray 9 (0, 0)) :: blk gr (.cells #[.int .i64 0, .int .i64 0, .slice none 0 0] 30 (0, 0)) :: H) (some ⟨g, 0, none⟩) (ls.flatMap strL) := hrp (by (focus repeat (first | with_reducible exact List.mem_cons_self | with_reducible apply List.mem_cons_of_mem | assumption)))
    have hz : firstF (badRow ls) i 0 = (-1, 0) := firstF_no fun k _ hk => hall k (by omega)
    have hgm : ls[(i : Int).toNat]? = some (lineAt ls i) := by
      unfold lineAt
      rw [List.getD_eq_getElem?_getD, Int.toNat_natCast, List.getElem?_eq_getElem (by omega)]
      rfl
    rw [hpl, hz, if_neg (by simp), hSC]
    repeat' (first | (apply VL_wneq (lineAt ls i) []; exact rfl; exact rfl; exact rfl; all_goals intro hwd) | apply (zs1 ?_) | apply (zs2 ?_) | (apply zg1; first | refine zs3 ?_ | refine zs4 ?_) | (apply zg3; first | refine zs8 ?_ | refine zs60 ?_) | (apply zg5; refine zs57 ?_) | (apply zg6; first | refine zs11 ?_ | refine zs12 ?_) | (apply zg7; (refine zs15 ?_ ?_ <;> intro _ <;> try (exfalso; omega))) | (apply (zs17 ?_ ?_) <;> intro _ <;> try (exfalso; omega)) | (apply zg22; refine zs51 ?_) | (apply zg25; refine zs55 ?_) | apply (zs65 ?_) | apply (zs68 ?_) | apply (zs69 ?_) | apply (zs70 ?_) | (apply zg27; first | refine zs71 ?_ | refine zs72 ?_) | apply (zs74 ?_) | apply (zs75 ?_) | apply (zs76 ?_) | apply (zs77 ?_) | apply (zs80 ?_) | apply (zs81 ?_) | fail)
    · apply VQ_retc3 T (H2 := cels none 0 [] :: H); exact rfl; exact rfl; exact rfl; exact rfl; (focus repeat (first | with_reducible exact List.mem_cons_self | with_reducible apply List.mem_cons_of_mem | assumption)); exact rfl; exact rfl; (intro w hw; refine St.nilSlice (H := H) ?_ _ _; revert w; (intro w hw; refine hw.perm ?_; focus repeat (first | with_reducible exact Perm.refl _ | (with_reducible apply perm_take; focus ((repeat (first | with_reducible exact rem_here | with_reducible apply rem_there)); done)) | with_reducible apply Perm.dropK)))
      exact outP_no i 3 (by rw [if_pos (.inl (by omega))]) rfl
    · apply VQ_retc3 T (H2 := cels none 0 [] :: H); exact rfl; exact rfl; exact rfl; exact rfl; (focus repeat (first | with_reducible exact List.mem_cons_self | with_reducible apply List.mem_cons_of_mem | assumption)); exact rfl; exact rfl; (intro w hw; refine St.nilSlice (H := H) ?_ _ _; revert w; (intro w hw; refine hw.perm ?_; focus repeat (first | with_reducible exact Perm.refl _ | (with_reducible apply perm_take; focus ((repeat (first | with_reducible exact rem_here | with_reducible apply rem_there)); done)) | with_reducible apply Perm.dropK)))
      exact outP_no i 3 (by rw [if_pos (.inr hwd)]) rfl
    have hrc : ∀ X, Rd B w0 (blk gs (.cells #[.int .i64 SC.len, .int .i64 SC.off, .slice A SC.cells.length cap] 30 (0, 0)) :: cels A cap SC.cells :: X) A (SC.cells.flatMap celF) := fun X => Rd.cels (cap := cap) (.tail _ (.head _))
    rw [if_neg (by rintro (h | h); omega; exact h hwd)]
    obtain ⟨SM, hSM⟩ : ∃ SM : SchM, SM = ⟨SC.len, SC.off, A, cap, SC.cells⟩ := ⟨_, rfl⟩
    have hss : SM.sch = SC := by rw [hSM]; rfl
    have hfc := fun {H' : List HP} {w : World} (hr : Rd B w0 H' SM.A (SM.cells.flatMap celF)) (hw : St B w0 H' w) => form_spec SM hr (by rw [hSM]; show SC.cells.length ≤ _; omega) hw
    rw [hss, hSM] at hfc
    cases hf : formE SC with
    | false =>
      rw [hf] at hfc
      repeat' (first | ((first | apply VL_callt en53 | apply VL_callq en53); (repeat (first | exact args_nil | (apply args_cons; exact rfl))); exact rfl; exact fun _ hw => (hfc (hrc _) hw)) | apply (zs2 ?_) | (apply zg20; refine zs48 ?_) | (apply zg22; refine zs51 ?_) | (apply zg25; refine zs55 ?_) | apply (zs65 ?_) | apply (zs68 ?_) | apply (zs69 ?_) | apply (zs70 ?_) | (apply zg27; refine zs71 ?_) | apply (zs74 ?_) | apply (zs77 ?_) | fail)
      apply VQ_retc3 T (H2 := cels none 0 [] :: H); exact rfl; exact rfl; exact rfl; exact rfl; (focus repeat (first | with_reducible exact List.mem_cons_self | with_reducible apply List.mem_cons_of_mem | assumption)); exact rfl; exact rfl; (intro w hw; refine St.nilSlice (H := H) ?_ _ _; revert w; (intro w hw; refine hw.perm ?_; focus repeat (first | with_reducible exact Perm.refl _ | (with_reducible apply perm_take; focus ((repeat (first | with_reducible exact rem_here | with_reducible apply rem_there)); done)) | with_reducible apply Perm.dropK)))
      exact outP_no (-1) 1 (by rw [if_pos rfl]) rfl
    | true =>
      rw [hf] at hfc
      repeat' (first | ((first | apply VL_callt en53 | apply VL_callq en53); (repeat (first | exact args_nil | (apply args_cons; exact rfl))); exact rfl; exact fun _ hw => (hfc (hrc _) hw)) | apply (zs2 ?_) | (apply zg3; refine zs8 ?_) | (apply zg20; refine zs47 ?_) | (apply zg22; refine zs51 ?_) | apply (zs65 ?_) | apply (zs68 ?_) | apply (zs69 ?_) | apply (zs70 ?_) | (apply zg27; refine zs72 ?_) | apply (zs74 ?_) | apply (zs76 ?_) | fail)
      apply VQ_retc3 T (H2 := cels A cap SC.cells :: H); exact rfl; exact rfl; exact rfl; exact rfl; (focus repeat (first | with_reducible exact List.mem_cons_self | with_reducible apply List.mem_cons_of_mem | assumption)); exact rfl; exact rfl; (intro w hw; refine hw.perm ?_; focus repeat (first | with_reducible exact Perm.refl _ | (with_reducible apply perm_take; focus ((repeat (first | with_reducible exact rem_here | with_reducible apply rem_there)); done)) | with_reducible apply Perm.dropK))
      exact ⟨A, cap, rfl, rfl⟩
end Go.Proofs.YtnkpfpgmbpnbgaaGreatDoor

/- Walks: the example of the chapter, and awake. -/
namespace Go.Proofs.YtnkpfpgmbpnbgaaGreatDoor
open Go.RowKit Go.Eng Go.Nw

def zeroN : NetM := ⟨0, none, 0, [], 0, 0, none, 0, [], none, 0, []⟩
theorem zeroN_in {B : Nat} {w0 : World} {K : List HP} : zeroN.In B w0 K := ⟨Rd.nil, fun _ h => (by cases h), Rd.nil, Rd.nil, by simp [zeroN], fun _ h => (by cases h), by simp [zeroN], by simp [zeroN]⟩
theorem zeroN_bad : checkE zeroN.net ≠ 0 := by decide
theorem check_arg (n : NetM) (l : Value) (s : SchM) (h : checkE n.net ≠ 0) {B : Nat} {w0 : World} {H : List HP} {w : World} (hin : n.In B w0 H) (hw : St B w0 H w) :
    Calls Tryz.prog 14 [n.val, l, s.val].toArray w (Post B w0 fun v K => v = .tuple #[.int .i64 (-1), .int .i64 1] ∧ K = H) := by
  refine Calls_of_VC Tryz.func14 Tryz.ntmps14 rfl rfl hw ?_
  repeat' (first | ((first | apply VL_callt en38 | apply VL_callq en38); (repeat (first | exact args_nil | (apply args_cons; exact rfl))); exact rfl; exact fun _ hw => (check_spec n hin.cons.cons hw)) | apply (zs2 ?_) | (apply zg3; refine zs8 ?_) | (apply zg8; (refine zs16 ?_ ?_ <;> intro _ <;> try (exfalso; omega))) | (apply zg23; (refine zs52 ?_; intro _)) | apply (zs65 ?_) | apply (zs68 ?_) | apply (zs69 ?_) | apply (zs70 ?_) | (apply zg27; refine zs71 ?_) | apply (zs74 ?_) | apply (zs77 ?_) | fail)
  apply VQ_st H
  · (intro w hw; refine hw.perm ?_; focus repeat (first | with_reducible exact Perm.refl _ | (with_reducible apply perm_take; focus ((repeat (first | with_reducible exact rem_here | with_reducible apply rem_there)); done)) | with_reducible apply Perm.dropK))
  apply VQ_ret2; exact rfl; exact rfl; exact rfl; exact ⟨rfl, rfl⟩

def exC : List Cel := [(0, 0, 0, 1, 5), (2, 1, 1, 2, 5)]
def exS (A : Option Addr) (cap : Nat) : SchM := ⟨4, 2, A, cap, exC⟩
def exE : Sch := ⟨4, 2, exC⟩
def exT : List UInt8 := [115, 99, 104, 101, 100, 117, 108, 101, 32, 52, 32, 50, 10, 99, 101, 108, 108, 32, 48, 32, 48, 32, 48, 32, 49, 32, 53, 10, 99, 101, 108, 108, 32, 50, 32, 49, 32, 49, 32, 50, 32, 53, 10]
theorem ex_form : formE exE = true := by decide
theorem itoa_one {n : Int} (h : 0 ≤ n ∧ n < 10) : Lib.itoa n = [UInt8.ofNat (48 + n.toNat)] := by
  rw [itoa_nat h.1, Lib.decDigits_one (by omega)]
theorem ex_text : textE exE = exT := by
  unfold textE lineB bodyB exE exC nums
  simp only [List.flatMap_cons, List.flatMap_nil]
  repeat rw [itoa_one (by omega)]
  rfl
theorem ex_at : atE exE 6 = [(2, 1, 1, 2, 5)] := by decide
theorem exa_spec {B : Nat} {w0 : World} {H : List HP} {w : World} (hw : St B w0 H w) :
    Calls Tryz.prog 37 [].toArray w (Post B w0 fun v K => ∃ A cap, v = .agg #[.int .i64 4, .int .i64 2, .slice A exC.length cap] ∧ K = cels A cap exC :: H) := by
  refine Calls_of_VC Tryz.func37 Tryz.ntmps37 rfl rfl hw ?_
  repeat' (first | (apply zg22; refine zs51 ?_) | (apply zg24; (refine zs54 ?_; intro _)) | (apply zg25; refine zs55 ?_) | (apply zg26; (refine zs56 ?_; intro _)) | apply (zs65 ?_) | apply (zs68 ?_) | apply (zs69 ?_) | apply (zs70 ?_) | apply (zs74 ?_) | fail)
  rename_i g1 g2
  apply VQ_retc1 T (H2 := cels (some ⟨g2, 0, none⟩) 2 exC :: H); exact rfl; exact rfl; (focus repeat (first | with_reducible exact List.mem_cons_self | with_reducible apply List.mem_cons_of_mem | assumption)); exact rfl; exact rfl
  · intro w hw
    have h2 := St.blk_sl (e := 51) (size := 5) (len := 2) (cs := exC.flatMap celF) hw rfl (by decide)
    exact (h2.perm (.swap _ _ _)).tail
  · exact ⟨some ⟨g2, 0, none⟩, 2, rfl, rfl⟩
set_option maxRecDepth 10000 in
set_option maxHeartbeats 2000000 in
theorem wake_spec {B : Nat} {w0 : World} {H : List HP} {w : World} (ht : TabsB B w0) (hw : St B w0 H w) :
    Calls Tryz.prog 11 [].toArray w (Post B w0 fun v K => v = .bool true ∧ K = H) := by
  refine Calls_of_VC Tryz.func11 Tryz.ntmps11 rfl rfl hw ?_
  have hpr : printE exE = (exT, 0) := by unfold printE; rw [ex_form, if_neg (by decide), ex_text]
  have hpa : parseE exT = (exE, (-1, 0)) := by rw [← ex_text]; exact parse_print ex_form
  repeat' (first | apply (zs2 ?_) | apply (zs65 ?_) | apply (zs68 ?_) | apply (zs69 ?_) | apply (zs70 ?_) | fail)
  apply VL_call _ en37
  (repeat (first | exact args_nil | (apply args_cons; exact rfl)))
  exact rfl
  exact fun _ hw => (exa_spec (hw))
  rintro _ _ ⟨A, cap, rfl, rfl⟩
  repeat' (first | (apply zg3; refine zs8 ?_) | (apply zg22; refine zs51 ?_) | (apply zg24; (refine zs54 ?_; intro _)) | apply (zs65 ?_) | apply (zs68 ?_) | apply (zs69 ?_) | apply (zs70 ?_) | fail)
  rename_i g1
  have hlc : (exS A cap).cells.length ≤ 1000000000000 := by show 2 ≤ _; omega
  have hrA : ∀ {L : List HP}, cels A cap exC ∈ L → Rd B w0 L A (exC.flatMap celF) := fun h => Rd.cels h
  have hp : ∀ {H' : List HP} {w : World}, Rd B w0 H' A (exC.flatMap celF) → St B w0 H' w → Calls Tryz.prog 16 [.agg #[.int .i64 4, .int .i64 2, .slice A exC.length cap]].toArray w (Post B w0 fun v K => v = .tuple #[strV exT, .int .i64 0] ∧ K = H') := fun hr hw => by
    have h := print_spec (exS A cap) ht hr hlc hw
    rw [show (exS A cap).sch = exE from rfl, hpr] at h
    exact h
  have hq : ∀ {H' : List HP} {w : World}, St B w0 H' w → Calls Tryz.prog 18 [strV exT].toArray w (Post B w0 fun v K => ∃ A cap, v = .tuple #[.agg #[.int .i64 4, .int .i64 2, .slice A exC.length cap], .int .i64 (-1), .int .i64 0] ∧ K = cels A cap exC :: H') := fun hw => by
    have h := parse_spec exT (by decide) ht hw
    rw [hpa] at h
    exact h
  have ha : ∀ {H' : List HP} {w : World}, Rd B w0 H' A (exC.flatMap celF) → St B w0 H' w → Calls Tryz.prog 23 [.agg #[.int .i64 4, .int .i64 2, .slice A exC.length cap], .int .i64 6].toArray w (Post B w0 fun v K => ∃ A cap, v = .slice A [((2, 1, 1, 2, 5) : Cel)].length cap ∧ K = cels A cap [(2, 1, 1, 2, 5)] :: H') := fun hr hw => by
    have h := at_spec (exS A cap) 6 hr hlc hw
    rw [show (exS A cap).sch = exE from rfl, ex_at] at h
    exact h
  first | apply VL_callt en16 | apply VL_callq en16
  (repeat (first | exact args_nil | (apply args_cons; exact rfl)))
  exact rfl
  exact fun _ hw => (hp (hrA (by (focus repeat (first | with_reducible exact List.mem_cons_self | with_reducible apply List.mem_cons_of_mem | assumption)))) hw)
  repeat' (first | apply (zs1 ?_) | apply (zs2 ?_) | apply (zs13 ?_) | apply (zs65 ?_) | apply (zs68 ?_) | apply (zs69 ?_) | apply (zs70 ?_) | fail)
  apply VL_call _ en18
  (repeat (first | exact args_nil | (apply args_cons; exact rfl)))
  exact rfl
  exact fun _ hw => (hq (hw))
  rintro _ _ ⟨A2, cap2, rfl, rfl⟩
  repeat' (first | apply (zs1 ?_) | apply (zs2 ?_) | (apply zg3; refine zs8 ?_) | apply (zs13 ?_) | (apply zg22; refine zs51 ?_) | (apply zg24; (refine zs54 ?_; intro _)) | apply (zs65 ?_) | apply (zs68 ?_) | apply (zs69 ?_) | apply (zs70 ?_) | fail)
  apply VL_call _ en23
  (repeat (first | exact args_nil | (apply args_cons; exact rfl)))
  exact rfl
  exact fun _ hw => (ha (hrA (by (focus repeat (first | with_reducible exact List.mem_cons_self | with_reducible apply List.mem_cons_of_mem | assumption)))) (hw))
  rintro _ _ ⟨A3, cap3, rfl, rfl⟩
  repeat' (first | apply (zs2 ?_) | (apply zg3; refine zs8 ?_) | (apply zg25; refine zs55 ?_) | apply (zs65 ?_) | apply (zs68 ?_) | apply (zs69 ?_) | apply (zs70 ?_) | fail)
  first | apply VL_callt en14 | apply VL_callq en14
  (repeat (first | exact args_nil | (apply args_cons; exact rfl)))
  exact rfl
  exact fun _ hw => (check_arg zeroN _ (exS A cap) zeroN_bad zeroN_in hw)
  have hg0 : [((2, 1, 1, 2, 5) : Cel)][(0 : Int).toNat]? = some (2, 1, 1, 2, 5) := rfl
  have hg1 : exC[(1 : Int).toNat]? = some (2, 1, 1, 2, 5) := rfl
  have hlx : exC.length = 2 := rfl
  have hl1 : [((2, 1, 1, 2, 5) : Cel)].length = 1 := rfl
  have hsm : ∀ {H' : List HP} {w : World}, Rd B w0 H' A (exC.flatMap celF) → Rd B w0 H' A2 (exC.flatMap celF) → St B w0 H' w → Calls Tryz.prog 20 [.agg #[.int .i64 4, .int .i64 2, .slice A exC.length cap], .agg #[.int .i64 4, .int .i64 2, .slice A2 exC.length cap2]].toArray w (Post B w0 fun v K => v = .bool true ∧ K = H') := fun hr hr2 hw => by
    have h := rsame_spec (exS A cap) (exS A2 cap2) hlc hlc hr hr2 hw
    rw [decide_eq_true ⟨rfl, rfl, rfl⟩] at h
    exact h
  unfold cels
  repeat' (first | (apply VL_seql; exact rfl; exact rfl; exact rfl; all_goals (intro hE; try (exact absurd rfl hE))) | ((first | apply VL_callt en20 | apply VL_callq en20); (repeat (first | exact args_nil | (apply args_cons; exact rfl))); exact rfl; exact fun _ hw => (hsm (Rd.sl (by (focus repeat (first | with_reducible exact List.mem_cons_self | with_reducible apply List.mem_cons_of_mem | assumption)))) (Rd.sl (by (focus repeat (first | with_reducible exact List.mem_cons_self | with_reducible apply List.mem_cons_of_mem | assumption)))) hw)) | (apply VL_ceql (2, 1, 1, 2, 5) (2, 1, 1, 2, 5); exact rfl; exact rfl; exact rfl; all_goals (intro hE; try (exact absurd rfl hE))) | apply (zs1 ?_) | apply (zs2 ?_) | (apply zg1; refine zs4 ?_) | (apply zg2; refine zs6 ?_) | (apply zg3; first | refine zs7 ?_ | refine zs8 ?_ | refine zs61 ?_) | (apply zg4; refine zs9 ?_) | (apply zg5; refine zs10 ?_) | (apply zg6; refine zs11 ?_) | apply (zs13 ?_) | (apply zg7; (refine zs15 ?_ ?_ <;> intro _ <;> try (exfalso; omega))) | apply (zs65 ?_) | apply (zs66 ?_) | apply (zs68 ?_) | apply (zs69 ?_) | apply (zs74 ?_) | (apply zg28; refine zs84 ?_) | fail)
  apply VQ_st H
  · (intro w hw; refine hw.perm ?_; focus repeat (first | with_reducible exact Perm.refl _ | (with_reducible apply perm_take; focus ((repeat (first | with_reducible exact rem_here | with_reducible apply rem_there)); done)) | with_reducible apply Perm.dropK))
  apply VQ_ret1; exact rfl; exact rfl
  exact ⟨rfl, rfl⟩
end Go.Proofs.YtnkpfpgmbpnbgaaGreatDoor

/- Walks: slices.DeleteFunc of cells; only, Differ. -/
namespace Go.Proofs.YtnkpfpgmbpnbgaaGreatDoor
open Go.RowKit Go.Eng Go.Nw

theorem indexFuncC (p : Cel → Bool) (l : List Cel) (f : Nat) (cs : List Value) (hen : ∀ xs w, (callFunc f xs).run Tryz.prog w = .ok (.enter f xs) w) (hlen : l.length ≤ 1000) {A : Option Addr} {cap B : Nat} {w0 : World} {H : List HP} {w : World} (hr : Rd B w0 H A (l.flatMap celF))
    (hp : ∀ a ∈ l, ∀ w, St B w0 H w → Calls Tryz.prog f ([celV a] ++ cs).toArray w (Post B w0 fun v K => v = .bool (p a) ∧ K = H)) (hw : St B w0 H w) :
    Calls Tryz.prog 143 [.slice A l.length cap, .func (.func f) #[] cs.toArray].toArray w (Post B w0 fun v K => v = .int .i64 (idxFrom p l 0) ∧ K = H) := by
  refine Calls_of_VC Tryz.func143 Tryz.ntmps143 rfl rfl hw ?_
  repeat' (first | apply (zs1 ?_) | apply (zs2 ?_) | (apply zg4; refine zs9 ?_) | apply (zs65 ?_) | apply (zs68 ?_) | apply (zs69 ?_) | apply (zs70 ?_) | apply (zs73 ?_) | fail)
  refine VC_loop1 (fun (k : Nat) => [(8, .int .i64 k), (7, .int .i64 l.length), (0, .slice A l.length cap), (1, .func (.func f) #[] cs.toArray)]) (fun _ => H) (fun k => k ≤ l.length ∧ idxFrom p l 0 = idxFrom p (l.drop k) k) (fun k => l.length - k) 0 ⟨Nat.zero_le _, by simp⟩ ?_ (fun w hw => hw) ?_
  · (repeat (first | exact sub_nil _ | (apply sub_cons; first | exact rfl | exact congrArg (fun z : Int => some (Value.int .i64 z)) (by omega))))
  rintro k ⟨hk, hi⟩ K hK
  by_cases hlt : k < l.length
  · obtain ⟨a, ha⟩ : ∃ a, l[k]? = some a := ⟨_, List.getElem?_eq_getElem hlt⟩
    have hpa := hp a (List.mem_of_getElem? ha)
    rw [idx_drop p l ha] at hi
    repeat' (first | ((first | apply VL_callvt (cs := cs)); exact rfl; exact hen; (repeat (first | exact args_nil | (apply args_cons; exact rfl))); exact rfl; exact fun _ hw => hpa _ hw) | apply (zs1 ?_) | apply (zs2 ?_) | (apply zg3; refine zs61 ?_) | (apply zg5; refine zs57 ?_) | (apply (zs17 ?_ ?_) <;> intro _ <;> try (exfalso; omega)) | apply (zs65 ?_) | apply (zs68 ?_) | apply (zs69 ?_) | apply (zs70 ?_) | (apply zg27; refine zs71 ?_) | apply (zs73 ?_) | apply (zs76 ?_) | fail)
    cases hpv : p a
    · rw [hpv] at hi
      repeat' (first | apply (zs1 ?_) | (apply zg13; refine zs30 ?_) | apply (zs65 ?_) | apply (zs68 ?_) | apply (zs70 ?_) | (apply zg27; refine zs72 ?_) | apply (zs76 ?_) | apply (zs79 ?_) | fail)
      apply hK (k + 1)
      · exact ⟨by omega, hi⟩
      · omega
      · (repeat (first | exact sub_nil _ | (apply sub_cons; first | exact rfl | exact congrArg (fun z : Int => some (Value.int .i64 z)) (by omega))))
      · exact fun w hw => hw
    · rw [hpv] at hi
      repeat' (first | apply (zs1 ?_) | apply (zs2 ?_) | apply (zs65 ?_) | apply (zs68 ?_) | apply (zs69 ?_) | apply (zs70 ?_) | (apply zg27; refine zs71 ?_) | apply (zs74 ?_) | apply (zs77 ?_) | apply (zs78 ?_) | fail)
      apply VQ_ret1; exact rfl; exact rfl
      exact ⟨by rw [hi]; rfl, rfl⟩
  · repeat' (first | apply (zs2 ?_) | (apply (zs17 ?_ ?_) <;> intro _ <;> try (exfalso; omega)) | apply (zs65 ?_) | apply (zs68 ?_) | apply (zs69 ?_) | apply (zs70 ?_) | (apply zg27; refine zs72 ?_) | apply (zs74 ?_) | apply (zs75 ?_) | apply (zs80 ?_) | apply (zs81 ?_) | fail)
    apply VQ_ret1; exact rfl; exact rfl
    rw [hi, List.drop_eq_nil_of_le (by omega)]
    exact ⟨rfl, rfl⟩

end Go.Proofs.YtnkpfpgmbpnbgaaGreatDoor

/- From arguments that came in to rows that are only read. -/
namespace Go.Eng
open Go.ChangeShapes Go.WideShapes Go.ChangeAt Go.RowKit Go.Deep

/-- In this world the cells xs lie from A on. -/
def Old (W : World) (A : Option Addr) (xs : List Value) : Prop := ∀ j v, xs[j]? = some v → ∃ g o, A = some ⟨g, o, none⟩ ∧ g < W.heap.size ∧ W.cell? ⟨g, o + j, none⟩ = some v
theorem Old.rd {W : World} {H : List HP} {A : Option Addr} {xs : List Value} (h : Old W A xs) : Rd W.heap.size W H A xs := Rd.old h

theorem cell_lt {W : World} {a : Addr} {v : Value} (h : W.cell? a = some v) : a.block < W.heap.size := by
  unfold World.cell? at h
  rcases Nat.lt_or_ge a.block W.heap.size with h1 | h1
  · exact h1
  · rw [Array.getElem?_eq_none h1] at h; cases h

section
variable {H : Type} {enc : TypeId × Value → H} {P : Program} {W : World} {held : Bool}

/-- A slice that came in: its elements, and where they lie; f: an element's cells; good: what is known of an element. -/
theorem open_rows {α : Type} {f : α → List Value} {good : α → Prop} {t e q : Nat} {fuel : Nat} {A : Option Addr} {len cap : Nat} {x : DataW H × List MemPlace} {spare : Nat → Bool} (ht : P.underlying t = some (.slice e)) (hc : P.cellsOf e = q) (h0 : 0 < q)
    (hel : ∀ n cs y, cs.length = q → DataW.trod enc P W 0 spare held n e cs = some y → ∃ a, cs = f a ∧ good a) (h : DataW.trod enc P W 0 spare held fuel t [.slice A len cap] = some x) :
    ∃ l : List α, l.length = len ∧ Old W A (l.flatMap f) ∧ (∀ a ∈ l, good a) ∧ len ≤ maxLen ∧ (∀ a ∈ l, (f a).length = q) := by
  rcases open_slice ht h with ⟨h1, _⟩ | ⟨a, len', cap', m, n, D, Pl, h1, _, hl, hm, hmm, hxx, hx⟩
  · injection h1 with h1 _
    injection h1 with h1 h2 h3
    subst h1 h2 h3
    exact ⟨[], rfl, (fun j v hv => by simp at hv), (fun a ha => by cases ha), Nat.zero_le _, (fun a ha => by cases ha)⟩
  · injection h1 with h1 _
    injection h1 with h1 h2 h3
    subst h1 h2 h3
    have hle : len ≤ m := by rw [hmm]; split <;> omega
    rw [hc] at hx
    have key : ∀ i, i < len → ∃ b : α, W.cells? 0 (a.add (i * q)) q = some (f b) ∧ good b := fun i hi => by
      obtain ⟨cs', h2, h3⟩ := hx i (by omega)
      obtain ⟨_, h5, _⟩ := World.cells?_some h2
      obtain ⟨b, rfl, hb⟩ := hel n cs' _ h5 h3
      exact ⟨b, h2, hb⟩
    obtain ⟨l, hlen, hl2⟩ : ∃ l : List α, l.length = len ∧ ∀ i b, l[i]? = some b → W.cells? 0 (a.add (i * q)) q = some (f b) ∧ good b := by
      clear hx hmm hle h hl hm hxx
      induction len with
      | zero => exact ⟨[], rfl, fun i b hb => by simp at hb⟩
      | succ k ih =>
        obtain ⟨l, h2, h3⟩ := ih (fun i hi => key i (by omega))
        obtain ⟨b, h4⟩ := key k (by omega)
        refine ⟨l ++ [b], by simp [h2], fun i c hc => ?_⟩
        by_cases hi : i < l.length
        · rw [List.getElem?_append_left hi] at hc; exact h3 i c hc
        · rw [List.getElem?_append_right (by omega)] at hc
          have hi2 : i - l.length = 0 := by
            have := (List.getElem?_eq_some_iff.1 hc).1
            simp at this; omega
          rw [hi2] at hc
          obtain rfl : b = c := by simpa using hc
          obtain rfl : i = k := by omega
          exact h4
    have hfq : ∀ b ∈ l, (f b).length = q := fun b hb => by
      obtain ⟨i, hi⟩ := List.getElem?_of_mem hb
      exact (World.cells?_some (hl2 i b hi).1).2.1
    refine ⟨l, hlen, fun j v hv => ?_, fun b hb => ?_, by omega, hfq⟩
    · have hspl : ∃ i b, l[i]? = some b ∧ ∃ r, j = i * q + r ∧ r < q ∧ (f b)[r]? = some v := by
        clear hlen hl2 key
        induction l generalizing j with
        | nil => simp at hv
        | cons b l ih =>
          rw [List.flatMap_cons] at hv
          have hb := hfq b (by simp)
          by_cases hj : j < q
          · rw [List.getElem?_append_left (by omega)] at hv
            exact ⟨0, b, rfl, j, by omega, hj, hv⟩
          · rw [List.getElem?_append_right (by omega), hb] at hv
            obtain ⟨i, b', h5, r, h6, h7, h8⟩ := ih (fun c hc => hfq c (by simp [hc])) (j - q) hv
            exact ⟨i + 1, b', by simpa using h5, r, by rw [Nat.add_mul]; omega, h7, h8⟩
      obtain ⟨i, b, h5, r, rfl, h7, h8⟩ := hspl
      have h9 := (World.cells?_some (hl2 i b h5).1).2.2 r h7
      rw [h8, add_add] at h9
      obtain ⟨ab, ao, spot⟩ := a
      have hs0 : spot = none := by
        have h10 := World.cell?_spot h9
        unfold Addr.add at h10
        split at h10
        · exact h10
        · rename_i hne
          have hi0 : i < len := by have := (List.getElem?_eq_some_iff.1 h5).1; omega
          have h11 := (World.cells?_some (hl2 0 l[0] (List.getElem?_eq_getElem (by omega))).1).2.2 0 h0
          rw [add_add, Nat.zero_mul, Nat.zero_add] at h11
          have hf0 : ((f l[0])[0]?).isSome = true := by
            rw [List.getElem?_eq_getElem (by rw [hfq _ (List.getElem_mem _)]; exact h0)]; rfl
          cases hf1 : (f l[0])[0]? with
          | none => rw [hf1] at hf0; cases hf0
          | some u =>
            rw [hf1] at h11
            exact World.cell?_spot h11
      subst hs0
      refine ⟨ab, ao, rfl, ?_, ?_⟩
      · have := cell_lt h9
        rw [Addr.add_lit] at this
        exact this
      · rw [Addr.add_lit] at h9
        exact h9
    · obtain ⟨i, hi⟩ := List.getElem?_of_mem hb
      exact (hl2 i b hi).2

end
end Go.Eng

/- From arguments that came in to what the walks speak of: openers, built up as types are. -/
namespace Go.Eng
open Go.ChangeShapes Go.WideShapes Go.ChangeAt Go.RowKit Go.Deep

/-- A slice: where it lies, its capacity, its elements. -/
structure SlM (α : Type) where
  A : Option Addr
  cap : Nat
  xs : List α
def SlM.val {α : Type} (s : SlM α) : Value := .slice s.A s.xs.length s.cap

section
variable {H : Type} {enc : TypeId × Value → H} {P : Program} {W : World} {spare : Nat → Bool} {held : Bool}

/-- Cells that are read as a value of type t are those of some a that is good. -/
def Opn (enc : TypeId × Value → H) (P : Program) (W : World) (spare : Nat → Bool) (held : Bool) (t : TypeId) {α : Type} (f : α → List Value) (good : α → Prop) : Prop :=
  ∀ fuel cs y, DataW.trod enc P W 0 spare held fuel t cs = some y → ∃ a, cs = f a ∧ good a

theorem op_map {t : TypeId} {α β : Type} {f : α → List Value} {good : α → Prop} {f' : β → List Value} {good' : β → Prop} (h : Opn enc P W spare held t f good) (g : α → β) (hf : ∀ a, f a = f' (g a)) (hg : ∀ a, good a → good' (g a)) : Opn enc P W spare held t f' good' := by
  intro fuel cs y hy
  obtain ⟨a, h1, h2⟩ := h fuel cs y hy
  exact ⟨g a, h1.trans (hf a), hg a h2⟩

theorem op_int {t : TypeId} {k : IntKind} (ht : P.underlying t = some (.int k)) : Opn enc P W spare held t (fun z : Int => [Value.int k z]) (fun z => (Lit.int k z).wf = true) := by
  intro fuel cs y hy
  obtain ⟨m, rfl, rfl, hw⟩ := DataW.trod_int ht hy
  exact ⟨m, rfl, hw⟩

/-- What is known of a slice that came in. -/
structure SlG {α : Type} (W : World) (f : α → List Value) (good : α → Prop) (s : SlM α) : Prop where
  old : Old W s.A (s.xs.flatMap f)
  good : ∀ a ∈ s.xs, good a
  len : s.xs.length ≤ maxLen
  cap : s.xs.length ≤ s.cap

theorem op_slice {t e q : TypeId} {α : Type} {f : α → List Value} {good : α → Prop} (ht : P.underlying t = some (.slice e)) (hc : P.cellsOf e = q) (h0 : 0 < q) (h : Opn enc P W spare held e f good) : Opn enc P W spare held t (fun s : SlM α => [s.val]) (SlG W f good) := by
  intro fuel cs y hy
  rcases open_slice ht hy with ⟨rfl, _⟩ | ⟨a, len, cap, m, n, D, Pl, rfl, _, hlc, _⟩
  · exact ⟨⟨none, 0, []⟩, rfl, ⟨(fun j v hv => by simp at hv), (fun a ha => by cases ha), Nat.zero_le _, Nat.zero_le _⟩⟩
  · obtain ⟨l, h1, h2, h3, h4, _⟩ := open_rows ht hc h0 (fun n cs y _ hy => h n cs y hy) hy
    subst h1
    exact ⟨⟨some a, cap, l⟩, rfl, h2, h3, h4, hlc⟩

/-- The same for the fields of a struct, one behind the other. -/
def FOpn (enc : TypeId × Value → H) (P : Program) (W : World) (spare : Nat → Bool) (held : Bool) (ts : List TypeId) {α : Type} (f : α → List Value) (good : α → Prop) : Prop :=
  ∀ (n : Nat) (cs : List Value), cs.length = (ts.map P.cellsOf).sum → (∀ i t, ts[i]? = some t → ∃ y, DataW.trod enc P W 0 spare held n t ((cs.drop ((ts.take i).map P.cellsOf).sum).take (P.cellsOf t)) = some y) → ∃ a, cs = f a ∧ good a

theorem fop_nil : FOpn enc P W spare held [] (fun _ : Unit => []) (fun _ => True) := fun n cs h _ => ⟨(), List.eq_nil_of_length_eq_zero (by simpa using h), trivial⟩
theorem fop_cons {t : TypeId} {ts : List TypeId} {α β : Type} {f : α → List Value} {good : α → Prop} {g : β → List Value} {good' : β → Prop} (h : Opn enc P W spare held t f good) (hs : FOpn enc P W spare held ts g good') :
    FOpn enc P W spare held (t :: ts) (fun x : α × β => f x.1 ++ g x.2) (fun x => good x.1 ∧ good' x.2) := by
  intro n cs hl hx
  simp only [List.map_cons, List.sum_cons] at hl
  obtain ⟨y, hy⟩ := hx 0 t rfl
  simp only [List.take_zero, List.map_nil, List.sum_nil, List.drop_zero] at hy
  obtain ⟨a, h1, h2⟩ := h n _ y hy
  obtain ⟨b, h3, h4⟩ := hs n (cs.drop (P.cellsOf t)) (by simp; omega) (fun i u hu => by
    obtain ⟨y, hy⟩ := hx (i + 1) u (by simpa using hu)
    refine ⟨y, ?_⟩
    rw [List.drop_drop]
    simpa using hy)
  exact ⟨(a, b), by show cs = f a ++ g b; rw [← h1, ← h3, List.take_append_drop], h2, h4⟩

def offs (P : Program) : List TypeId → Nat → List Nat
  | [], _ => []
  | t :: ts, o => o :: offs P ts (o + P.cellsOf t)
theorem offs_get (P : Program) : ∀ (ts : List TypeId) (o i : Nat), i < ts.length → (offs P ts o)[i]? = some (o + ((ts.take i).map P.cellsOf).sum)
  | [], _, _, h => by simp at h
  | t :: ts, o, 0, _ => by simp [offs]
  | t :: ts, o, i + 1, h => by
    rw [offs, List.getElem?_cons_succ, offs_get P ts _ i (by simpa using h)]
    simp [Nat.add_assoc]
/-- A struct whose fields have these types, one behind the other. -/
def structB (P : Program) (t : TypeId) (ts : List TypeId) : Bool :=
  match P.underlying t with
  | some (.struct fs) => (fs.toList.map (·.type) == ts) && (fs.toList.map (·.offset) == offs P ts 0) && (P.cellsOf t == (ts.map P.cellsOf).sum)
  | _ => false

theorem op_struct {t : TypeId} {ts : List TypeId} {α : Type} {f : α → List Value} {good : α → Prop} (hB : structB P t ts = true) (h : FOpn enc P W spare held ts f good) : Opn enc P W spare held t f good := by
  intro fuel cs y hy
  unfold structB at hB
  cases hu : P.underlying t with
  | none => rw [hu] at hB; cases hB
  | some d =>
    rw [hu] at hB
    cases d with
    | struct fs =>
      simp only [Bool.and_eq_true, beq_iff_eq] at hB
      obtain ⟨⟨h1, h2⟩, h3⟩ := hB
      obtain ⟨xs, n, _, _, hl, hn, hx⟩ := DataW.trod_struct hu hy
      refine h n cs (hl.trans h3) fun i u hi => ?_
      have hlt : i < ts.length := (List.getElem?_eq_some_iff.1 hi).1
      have hlf : i < fs.toList.length := by rw [← h1] at hlt; simpa using hlt
      have hf : fs[i]? = some (fs.toList[i]) := by rw [← Array.getElem?_toList, List.getElem?_eq_getElem hlf]
      have ht : (fs.toList[i]).type = u := by
        rw [← h1, List.getElem?_map, List.getElem?_eq_getElem hlf] at hi
        simpa using hi
      have ho : (fs.toList[i]).offset = ((ts.take i).map P.cellsOf).sum := by
        have h5 := offs_get P ts 0 i hlt
        rw [← h2, List.getElem?_map, List.getElem?_eq_getElem hlf] at h5
        simpa using h5
      have h6 := hx i _ hf
      rw [ht, ho] at h6
      have hlx : i < xs.length := by rw [hn]; simpa using hlf
      exact ⟨xs[i], by rw [h6, List.getElem?_eq_getElem hlx]⟩
    | _ => cases hB

end
end Go.Eng

/- A network that came in as an argument. -/
namespace Go.Proofs.YtnkpfpgmbpnbgaaGreatDoor
open Go.ChangeShapes Go.WideShapes Go.ChangeAt Go.RowKit Go.Eng Go.Nw

section
variable {H : Type} {enc : TypeId × Value → H} {W : World} {spare : Nat → Bool} {held : Bool}
abbrev I64 (z : Int) : Prop := (Lit.int .i64 z).wf = true
theorem op_i : Opn enc Tryz.prog W spare held 3 numF I64 := op_int Tryz.underlying3
theorem op_ints : Opn enc Tryz.prog W spare held 24 (fun s : SlM Int => [s.val]) (SlG W numF I64) := op_slice (q := 1) Tryz.underlying24 (by kernel_rfl) (by decide) op_i
theorem op_rows : Opn enc Tryz.prog W spare held 22 (fun s : SlM (SlM Int) => [s.val]) (SlG W (fun s : SlM Int => [s.val]) (SlG W numF I64)) := op_slice (q := 1) Tryz.underlying22 (by kernel_rfl) (by decide) op_ints
theorem op_link : Opn enc Tryz.prog W spare held 135 lkF (fun l => I64 l.1 ∧ I64 l.2.1 ∧ I64 l.2.2) :=
  op_map (op_struct (ts := [3, 3, 3]) (by kernel_rfl) (fop_cons op_i (fop_cons op_i (fop_cons op_i fop_nil)))) (fun x => (x.1, x.2.1, x.2.2.1)) (fun _ => rfl) (fun _ h => ⟨h.1, h.2.1, h.2.2.1⟩)
theorem op_links : Opn enc Tryz.prog W spare held 23 (fun s : SlM Lk => [s.val]) (SlG W lkF fun l => I64 l.1 ∧ I64 l.2.1 ∧ I64 l.2.2) := op_slice (q := 3) Tryz.underlying23 (by kernel_rfl) (by decide) op_link

structure NetG (W : World) (n : NetM) : Prop where
  nodes : I64 n.nodes
  pw : Old W n.pA (n.rows.flatMap rowF)
  rw_ : ∀ r ∈ n.rows, Old W r.A (r.xs.flatMap numF)
  noise : I64 n.noise
  thr : I64 n.thr
  lk : Old W n.lA (n.links.flatMap lkF)
  mg : Old W n.mA (n.margin.flatMap numF)
  s1 : n.rows.length ≤ 9223372036854775807
  s2 : ∀ r ∈ n.rows, r.xs.length ≤ 9223372036854775807
  s3 : n.links.length ≤ 9223372036854775807
  s4 : n.margin.length ≤ 9223372036854775807
  w1 : ∀ r ∈ n.rows, ∀ z ∈ r.xs, I64 z
  w2 : ∀ l ∈ n.links, I64 l.1 ∧ I64 l.2.1 ∧ I64 l.2.2
  w3 : ∀ z ∈ n.margin, I64 z
  c3 : n.links.length ≤ n.lcap
  c4 : n.margin.length ≤ n.mcap
theorem NetG.In {n : NetM} {K : List HP} (h : NetG W n) : n.In W.heap.size W K := ⟨h.pw.rd, fun r hr => (h.rw_ r hr).rd, h.lk.rd, h.mg.rd, h.s1, h.s2, h.s3, h.s4⟩

def netF (n : NetM) : List Value := [.int .i64 n.nodes, .slice n.pA n.rows.length n.pcap, .int .i64 n.noise, .int .i64 n.thr, .slice n.lA n.links.length n.lcap, .slice n.mA n.margin.length n.mcap]
def rowOf (s : SlM Int) : RowM := ⟨s.A, s.cap, s.xs⟩
theorem flat_rowOf (l : List (SlM Int)) : (l.map rowOf).flatMap rowF = l.flatMap fun s => [s.val] := by rw [List.flatMap_map]; rfl
theorem maxL : maxLen ≤ 9223372036854775807 := by decide
theorem op_net : Opn enc Tryz.prog W spare held 26 netF (NetG W) :=
  op_map (op_struct (ts := [3, 22, 3, 3, 23, 24]) (by kernel_rfl) (fop_cons op_i (fop_cons op_rows (fop_cons op_i (fop_cons op_i (fop_cons op_links (fop_cons op_ints fop_nil)))))))
    (fun x => ⟨x.1, x.2.1.A, x.2.1.cap, x.2.1.xs.map rowOf, x.2.2.1, x.2.2.2.1, x.2.2.2.2.1.A, x.2.2.2.2.1.cap, x.2.2.2.2.1.xs, x.2.2.2.2.2.1.A, x.2.2.2.2.2.1.cap, x.2.2.2.2.2.1.xs⟩)
    (fun x => by simp [netF, numF, SlM.val])
    (fun x h => by
      obtain ⟨h1, h2, h3, h4, h5, h6, _⟩ := h
      have hm := maxL
      refine ⟨h1, ?_, ?_, h3, h4, h5.old, h6.old, ?_, ?_, Nat.le_trans h5.len hm, Nat.le_trans h6.len hm, ?_, h5.good, h6.good, h5.cap, h6.cap⟩
      · rw [flat_rowOf]; exact h2.old
      · intro r hr
        obtain ⟨s, hs, rfl⟩ := List.mem_map.1 hr
        exact (h2.good s hs).old
      · rw [List.length_map]; exact Nat.le_trans h2.len hm
      · intro r hr
        obtain ⟨s, hs, rfl⟩ := List.mem_map.1 hr
        exact Nat.le_trans (h2.good s hs).len hm
      · intro r hr
        obtain ⟨s, hs, rfl⟩ := List.mem_map.1 hr
        exact (h2.good s hs).good)

set_option maxRecDepth 100000 in
theorem open_net {r : Reach} {b0 : Nat} {v : Value} {d : DataW H} {p : List MemPlace} (hv : Value.okWide Tryz.prog W r b0 26 v) (h : DataW.Trod enc Tryz.prog W 0 spare held 26 v d p) : ∃ n : NetM, v = n.val ∧ NetG W n := by
  obtain ⟨cs, rfl, _⟩ := okWide_struct Tryz.underlying26 hv
  obtain ⟨fuel, hf⟩ := h
  obtain ⟨n, h1, h2⟩ := op_net fuel _ _ hf
  refine ⟨n, ?_, h2⟩
  have : cs = (netF n).toArray := by rw [← h1]; simp [Value.cells]
  rw [this]; rfl
end
end Go.Proofs.YtnkpfpgmbpnbgaaGreatDoor

/- From a walk to a row: a law that returns true and leaves memory below as it was. -/
namespace Go.Proofs.YtnkpfpgmbpnbgaaGreatDoor
open Go.ChangeShapes Go.WideShapes Go.ChangeAt Go.RowKit

section
variable {H : Type} {enc : TypeId × Value → H} {P : Program}

theorem trodAll_keep (hl : laidOutB P = true) {W W' : World} {sp : Nat → Bool} : ∀ {ts : List TypeId} {vs : List Value} {ds : List (DataW H)} {ps : List MemPlace}, (ts.all fun t => P.readableRec t && decide (t < P.types.size)) = true →
    DataW.TrodAll enc P W 0 (fun _ => true) true ts vs ds ps → (∀ p ∈ ps, W.sameAt W' p) → (∀ p ∈ ps, sp p.block = true) → DataW.TrodAll enc P W' 0 sp true ts vs ds ps
  | [], [], [], _, _, h, _, _ => h
  | [], [], _ :: _, _, _, h, _, _ => h.elim
  | [], _ :: _, _, _, _, h, _, _ => h.elim
  | _ :: _, [], _, _, _, h, _, _ => h.elim
  | _ :: _, _ :: _, [], _, _, h, _, _ => h.elim
  | t :: ts, v :: vs, d :: ds, ps, hr, h, hs, hp => by
    obtain ⟨p, q, h1, h2, rfl⟩ := h
    simp only [List.all_cons, Bool.and_eq_true, decide_eq_true_eq] at hr
    exact ⟨p, q, WideElems.Trod_stays hl hr.1.1 hr.1.2 h1 (fun x hx => hs x (by simp [hx])) (fun x hx => hp x (by simp [hx])), trodAll_keep hl hr.2 h2 (fun x hx => hs x (by simp [hx])) (fun x hx => hp x (by simp [hx])), rfl⟩

/-- The call returned true, and below the heap's old end nothing is changed: what the row asks. -/
theorem post_true {f : Func} {s : ChangeSpec} {apart fresh handsOn again : Bool} {W W' : World} {args : Array Value} {ds gs : List (DataW H)} {before : List MemPlace} {tb : TypeId} (hl : laidOutB P = true)
    (hrd : (f.params.toList.all fun t => P.readableRec t && decide (t < P.types.size)) = true) (hv : s.vars = []) (hrt : f.resultTypes = #[tb]) (htb : P.underlying tb = some .bool)
    (hW : DataW.Whole enc P f.params.toList s.vars apart W args.toList ds gs before) (hb : Below W.heap.size W W')
    (hres : (s.fn H (ds ++ gs)).results = [.lit (.bool true)]) (hargs : (s.fn H (ds ++ gs)).args = ds) (hvars : (s.fn H (ds ++ gs)).vars = []) :
    s.post enc P f apart fresh handsOn again W args (.bool true) W' := by
  have hlt : ∀ p ∈ before, p.block < W.heap.size := fun p hp => hW.lt p hp
  have hW0 := hW
  obtain ⟨p, q, hA, hV, rfl, hz, hn⟩ := hW
  rw [hv] at hV
  have hq : gs = [] ∧ q = [] := by
    cases gs with
    | nil => exact ⟨rfl, hV⟩
    | cons _ _ => exact hV.elim
  obtain ⟨rfl, rfl⟩ := hq
  have hkeep : ∀ sp : Nat → Bool, (∀ x ∈ p ++ [], sp x.block = true) → DataW.TrodAll enc P W' 0 sp true f.params.toList args.toList ds p := fun sp hsp =>
    trodAll_keep hl hrd hA (fun x hx => hb.same (hlt x (by simpa using hx))) (fun x hx => hsp x (by simpa using hx))
  have hR : ∀ (b : Nat) (sp : Nat → Bool) (hd : Bool), DataW.TrodAll enc P W' b sp hd f.resultTypes.toList ((Value.bool true).resultList f.resultTypes.size) (s.fn H (ds ++ [])).results [] := by
    intro b sp hd
    rw [hres, hrt]
    exact trodAll_mk1 (shut_bool htb true)
  have hok := ok_one (P := P) (W' := W') (f := f) (v := .bool true) hrt rfl (okWide_bool_mk htb true)
  have hold : ∀ x ∈ p ++ [], (fun b => decide (b < W.heap.size)) x.block = true := fun x hx => by simpa using hlt x hx
  refine ⟨ds, [], p ++ [], [], p, [], hW0, hR _ _ _, by rw [hargs]; exact hkeep _ hold, by rw [hvars, hv]; rfl, World.keptBut_mono (fun x hx => ⟨hx, Or.inr (by simpa using hx)⟩) (hb.frame (· ∈ p ++ [])), fun _ => ?_⟩
  refine ⟨hok, _, _, ([] ++ p) ++ [], ⟨[] ++ p, [], trodAll_append (hkeep _ (fun _ _ => rfl)) (hR _ _ _), (show DataW.TrodVars enc P W' (fun _ => true) s.vars [] [] by rw [hv]; rfl), rfl, ?_, ?_⟩, ?_⟩
  · intro b off hp
    have hin : MemPlace.cell b off ∈ p ++ [] := by simpa using hp
    rw [hb.frozen (hlt _ hin)]
    exact hz b off hin
  · intro ha
    simpa using hn ha
  · intro x hx _
    simpa using hx
end
end Go.Proofs.YtnkpfpgmbpnbgaaGreatDoor

/- From a walk to a row: more arguments; bounds of numbers. -/
namespace Go.Proofs.YtnkpfpgmbpnbgaaGreatDoor
open Go.ChangeShapes Go.WideShapes Go.ChangeAt Go.RowKit
section
variable {H : Type} {enc : TypeId × Value → H} {P : Program} {w : World} {base : Nat} {spare : Nat → Bool} {held : Bool}
theorem trodAll_five {t t1 t2 t3 t4 : TypeId} {args : Array Value} {ds : List (DataW H)} {ps : List MemPlace} (h : DataW.TrodAll enc P w base spare held [t, t1, t2, t3, t4] args.toList ds ps) :
    ∃ v v1 v2 v3 v4 d d1 d2 d3 d4 p p1 p2 p3 p4, args = #[v, v1, v2, v3, v4] ∧ ds = [d, d1, d2, d3, d4] ∧ ps = p ++ p1 ++ p2 ++ p3 ++ p4 ∧ DataW.Trod enc P w base spare held t v d p ∧ DataW.Trod enc P w base spare held t1 v1 d1 p1 ∧ DataW.Trod enc P w base spare held t2 v2 d2 p2 ∧ DataW.Trod enc P w base spare held t3 v3 d3 p3 ∧ DataW.Trod enc P w base spare held t4 v4 d4 p4 := by
  obtain ⟨v, vs, d, ds', p, q, hargs, rfl, rfl, hd, hrest⟩ := trodAll_cons h
  obtain ⟨v1, vs1, d1, ds1, p1, q1, rfl, rfl, rfl, hd1, hrest1⟩ := trodAll_cons hrest
  obtain ⟨v2, vs2, d2, ds2, p2, q2, rfl, rfl, rfl, hd2, hrest2⟩ := trodAll_cons hrest1
  obtain ⟨v3, vs3, d3, ds3, p3, q3, rfl, rfl, rfl, hd3, hrest3⟩ := trodAll_cons hrest2
  obtain ⟨v4, vs4, d4, ds4, p4, q4, rfl, rfl, rfl, hd4, hrest4⟩ := trodAll_cons hrest3
  obtain ⟨rfl, rfl, rfl⟩ := trodAll_nil hrest4
  exact ⟨v, v1, v2, v3, v4, d, d1, d2, d3, d4, p, p1, p2, p3, p4, by cases args; simp_all, rfl, by simp, hd, hd1, hd2, hd3, hd4⟩
end
theorem wf_u8 {z : Int} (h : (Lit.int .u8 z).wf = true) : 0 ≤ z ∧ z ≤ 255 := by
  simp only [Lit.wf, Bool.and_eq_true, decide_eq_true_eq] at h
  have e1 : IntKind.min .u8 = 0 := by decide
  have e2 : IntKind.max .u8 = 255 := by decide
  omega
end Go.Proofs.YtnkpfpgmbpnbgaaGreatDoor

/- From a row's argument to a schedule, a cell, a list of flows, a text. -/
namespace Go.Proofs.YtnkpfpgmbpnbgaaGreatDoor
open Go.ChangeShapes Go.WideShapes Go.ChangeAt Go.RowKit Go.Eng Go.Nw
open Go.ChangeMaps (open_string)

def flwF (f : Flw) : List Value := [.int .i64 f.1, .int .i64 f.2.1, .int .i64 f.2.2.1, .int .i64 f.2.2.2.1, .int .i64 f.2.2.2.2.1, .int .i64 f.2.2.2.2.2]
section
variable {H : Type} {enc : TypeId × Value → H} {W : World} {spare : Nat → Bool} {held : Bool}
abbrev CelG (c : Cel) : Prop := I64 c.1 ∧ I64 c.2.1 ∧ I64 c.2.2.1 ∧ I64 c.2.2.2.1 ∧ I64 c.2.2.2.2
abbrev FlwG (f : Flw) : Prop := I64 f.1 ∧ I64 f.2.1 ∧ I64 f.2.2.1 ∧ I64 f.2.2.2.1 ∧ I64 f.2.2.2.2.1 ∧ I64 f.2.2.2.2.2
theorem op_cell : Opn enc Tryz.prog W spare held 51 celF CelG :=
  op_map (op_struct (ts := [3, 3, 3, 3, 3]) (by kernel_rfl) (fop_cons op_i (fop_cons op_i (fop_cons op_i (fop_cons op_i (fop_cons op_i fop_nil)))))) (fun x => (x.1, x.2.1, x.2.2.1, x.2.2.2.1, x.2.2.2.2.1)) (fun _ => rfl) (fun _ h => ⟨h.1, h.2.1, h.2.2.1, h.2.2.2.1, h.2.2.2.2.1⟩)
theorem op_cells : Opn enc Tryz.prog W spare held 28 (fun s : SlM Cel => [s.val]) (SlG W celF CelG) := op_slice (q := 5) Tryz.underlying28 (by kernel_rfl) (by decide) op_cell
theorem op_flow : Opn enc Tryz.prog W spare held 70 flwF FlwG :=
  op_map (op_struct (ts := [3, 3, 3, 3, 3, 3]) (by kernel_rfl) (fop_cons op_i (fop_cons op_i (fop_cons op_i (fop_cons op_i (fop_cons op_i (fop_cons op_i fop_nil))))))) (fun x => (x.1, x.2.1, x.2.2.1, x.2.2.2.1, x.2.2.2.2.1, x.2.2.2.2.2.1)) (fun _ => rfl) (fun _ h => ⟨h.1, h.2.1, h.2.2.1, h.2.2.2.1, h.2.2.2.2.1, h.2.2.2.2.2.1⟩)
theorem op_flows : Opn enc Tryz.prog W spare held 27 (fun s : SlM Flw => [s.val]) (SlG W flwF FlwG) := op_slice (q := 6) Tryz.underlying27 (by kernel_rfl) (by decide) op_flow
structure SchG (W : World) (s : SchM) : Prop where
  len : I64 s.len
  off : I64 s.off
  old : Old W s.A (s.cells.flatMap celF)
  few : s.cells.length ≤ 9223372036854775807
  good : ∀ c ∈ s.cells, CelG c
  cap : s.cells.length ≤ s.cap
def schF (s : SchM) : List Value := [.int .i64 s.len, .int .i64 s.off, .slice s.A s.cells.length s.cap]
theorem op_sch : Opn enc Tryz.prog W spare held 30 schF (SchG W) :=
  op_map (op_struct (ts := [3, 3, 28]) (by kernel_rfl) (fop_cons op_i (fop_cons op_i (fop_cons op_cells fop_nil))))
    (fun x => ⟨x.1, x.2.1, x.2.2.1.A, x.2.2.1.cap, x.2.2.1.xs⟩) (fun x => by simp [schF, numF, SlM.val])
    (fun x h => by
      obtain ⟨h1, h2, h3, _⟩ := h
      exact ⟨h1, h2, h3.old, Nat.le_trans h3.len maxL, h3.good, h3.cap⟩)
set_option maxRecDepth 100000 in
theorem open_sch {r : Reach} {b0 : Nat} {v : Value} {d : DataW H} {p : List MemPlace} (hv : Value.okWide Tryz.prog W r b0 30 v) (h : DataW.Trod enc Tryz.prog W 0 spare held 30 v d p) : ∃ s : SchM, v = s.val ∧ SchG W s := by
  obtain ⟨cs, rfl, _⟩ := okWide_struct Tryz.underlying30 hv
  obtain ⟨fuel, hf⟩ := h
  obtain ⟨n, h1, h2⟩ := op_sch fuel _ _ hf
  refine ⟨n, ?_, h2⟩
  have : cs = (schF n).toArray := by rw [← h1]; simp [Value.cells]
  rw [this]; rfl
set_option maxRecDepth 100000 in
theorem open_flows {r : Reach} {b0 : Nat} {v : Value} {d : DataW H} {p : List MemPlace} (hv : Value.okWide Tryz.prog W r b0 27 v) (h : DataW.Trod enc Tryz.prog W 0 spare held 27 v d p) : ∃ s : SlM Flw, v = s.val ∧ SlG W flwF FlwG s := by
  obtain ⟨a, len, cap, rfl⟩ := okWide_slice Tryz.underlying27 hv
  obtain ⟨fuel, hf⟩ := h
  obtain ⟨n, h1, h2⟩ := op_flows fuel _ _ hf
  refine ⟨n, ?_, h2⟩
  injection h1
end
end Go.Proofs.YtnkpfpgmbpnbgaaGreatDoor

/- Walks: flow.Check, flow.Find. -/
namespace Go.Proofs.YtnkpfpgmbpnbgaaGreatDoor
open Go.RowKit Go.Eng Go.Nw

def flwV (f : Flw) : Value := .agg #[.int .i64 f.1, .int .i64 f.2.1, .int .i64 f.2.2.1, .int .i64 f.2.2.2.1, .int .i64 f.2.2.2.2.1, .int .i64 f.2.2.2.2.2]
theorem flwAt_some {l : List Flw} {i : Nat} (h : i < l.length) : l[i]? = some (flwAt l i) := by
  unfold flwAt; rw [List.getD_eq_getElem?_getD, List.getElem?_eq_getElem h]; rfl
theorem fnode_spec (v nodes : Int) (gn : Nat) {B : Nat} {w0 : World} {H : List HP} {w : World} (hm : blk gn (.cells #[.int .i64 nodes] 3 (0, 0)) ∈ H) (hw : St B w0 H w) :
    Calls Tryz.prog 117 [.int .i64 v, .pointer (some ⟨gn, 0, none⟩)].toArray w (Post B w0 fun u K => u = .bool (insE v nodes) ∧ K = H) := by
  refine Calls_of_VC Tryz.func117 Tryz.ntmps117 rfl rfl hw ?_
  repeat' (first | apply (zs1 ?_) | apply (zs2 ?_) | (apply zg1; first | refine zs3 ?_ | refine zs4 ?_) | (apply zg3; refine zs7 ?_) | (apply zg6; first | refine zs11 ?_ | refine zs12 ?_) | (apply (zs17 ?_ ?_) <;> intro _ <;> try (exfalso; omega)) | (apply (zs20 ?_ ?_) <;> intro _ <;> try (exfalso; omega)) | apply (zs65 ?_) | apply (zs68 ?_) | apply (zs69 ?_) | apply (zs70 ?_) | apply (zs74 ?_) | fail)
  all_goals (
    apply VQ_ret1; exact rfl; exact rfl
    first
      | exact ⟨by rw [show insE v nodes = true from decide_eq_true (by omega)], rfl⟩
      | exact ⟨by rw [show insE v nodes = false from decide_eq_false (by omega)], rfl⟩)
set_option maxRecDepth 10000 in
set_option maxHeartbeats 1000000 in
theorem fcheck_spec (nodes : Int) (f : Flw) {B : Nat} {w0 : World} {H : List HP} {w : World} (hw : St B w0 H w) :
    Calls Tryz.prog 82 [.int .i64 nodes, flwV f].toArray w (Post B w0 fun v K => v = .int .i64 (flowE nodes f) ∧ K = H) := by
  refine Calls_of_VC Tryz.func82 Tryz.ntmps82 rfl rfl hw ?_
  obtain ⟨e, he⟩ : ∃ e, flowE nodes f = e := ⟨_, rfl⟩
  rw [he]
  by_cases hA : f.1 < 0 ∨ 255 < f.1
  · repeat' (first | apply (zs1 ?_) | apply (zs2 ?_) | (apply zg1; first | refine zs3 ?_ | refine zs4 ?_) | (apply zg2; refine zs6 ?_) | (apply zg3; refine zs7 ?_) | (apply zg6; first | refine zs11 ?_ | refine zs12 ?_) | (apply (zs17 ?_ ?_) <;> intro _ <;> try (exfalso; omega)) | (apply (zs19 ?_ ?_) <;> intro _ <;> try (exfalso; omega)) | (apply zg23; first | (refine zs52 ?_; intro _) | (refine zs53 ?_; intro _)) | apply (zs65 ?_) | apply (zs68 ?_) | apply (zs69 ?_) | apply (zs70 ?_) | (apply zg27; refine zs71 ?_) | apply (zs73 ?_) | apply (zs74 ?_) | apply (zs77 ?_) | apply (zs78 ?_) | (apply zg29; (apply VL_makeFunc; (repeat (first | exact args_nil | (apply args_cons; exact rfl))) ; exact rfl)) | fail)
    all_goals (
      apply VQ_st H
      · (intro w hw; refine hw.perm ?_; focus repeat (first | with_reducible exact Perm.refl _ | (with_reducible apply perm_take; focus ((repeat (first | with_reducible exact rem_here | with_reducible apply rem_there)); done)) | with_reducible apply Perm.dropK))
      apply VQ_ret1; exact rfl; exact rfl
      refine ⟨?_, rfl⟩
      rw [← he]
      unfold flowE
      first
        | (rw [if_pos (by first | exact .inl (by omega) | exact .inr (.inl (by omega)) | exact .inr (.inr (.inl (by assumption))) | exact .inr (.inr (.inr (by assumption))))]; done)
        | (rw [if_neg (by rintro (h | h | h | h) <;> first | omega | simp_all)]
           first
             | (rw [if_pos (by omega)]; done)
             | (rw [if_neg (by omega), if_pos (by omega)]; done)
             | (rw [if_neg (by omega), if_neg (by omega)]; done)))
  · repeat' (first | apply (zs1 ?_) | apply (zs2 ?_) | (apply zg1; refine zs4 ?_) | (apply zg2; refine zs6 ?_) | (apply zg3; refine zs7 ?_) | (apply zg6; refine zs12 ?_) | (apply (zs17 ?_ ?_) <;> intro _ <;> try (exfalso; omega)) | (apply (zs19 ?_ ?_) <;> intro _ <;> try (exfalso; omega)) | (apply zg23; first | (refine zs52 ?_; intro _) | (refine zs53 ?_; intro _)) | apply (zs65 ?_) | apply (zs68 ?_) | apply (zs69 ?_) | apply (zs70 ?_) | apply (zs73 ?_) | (apply zg29; (apply VL_makeFunc; (repeat (first | exact args_nil | (apply args_cons; exact rfl))) ; exact rfl)) | fail)
    rename_i gn gf _ _
    repeat' (first | ((first | apply VL_callvtb (cs := [.pointer (some ⟨gn, 0, none⟩)]) | apply VL_callvqb (cs := [.pointer (some ⟨gn, 0, none⟩)])); exact rfl; exact en117; (repeat (first | exact args_nil | (apply args_cons; exact rfl))); exact rfl; exact fun _ hw => (fnode_spec _ nodes gn (by (focus repeat (first | with_reducible exact List.mem_cons_self | with_reducible apply List.mem_cons_of_mem | assumption))) hw); all_goals (intro hB; (try simp only [decide_eq_true_eq, decide_eq_false_iff_not] at hB); try (exfalso; omega))) | apply (zs1 ?_) | apply (zs2 ?_) | (apply zg1; first | refine zs3 ?_ | refine zs4 ?_) | (apply zg2; refine zs6 ?_) | (apply zg3; refine zs7 ?_) | (apply zg6; first | refine zs11 ?_ | refine zs12 ?_) | (apply zg7; (refine zs15 ?_ ?_ <;> intro _ <;> try (exfalso; omega))) | (apply (zs17 ?_ ?_) <;> intro _ <;> try (exfalso; omega)) | (apply (zs19 ?_ ?_) <;> intro _ <;> try (exfalso; omega)) | (apply (zs20 ?_ ?_) <;> intro _ <;> try (exfalso; omega)) | (apply zg20; first | refine zs47 ?_ | refine zs48 ?_) | apply (zs65 ?_) | apply (zs68 ?_) | apply (zs69 ?_) | apply (zs70 ?_) | (apply zg27; first | refine zs71 ?_ | refine zs72 ?_) | apply (zs74 ?_) | apply (zs76 ?_) | apply (zs77 ?_) | apply (zs78 ?_) | apply (zs79 ?_) | fail)
    all_goals (
      apply VQ_st H
      · (intro w hw; refine hw.perm ?_; focus repeat (first | with_reducible exact Perm.refl _ | (with_reducible apply perm_take; focus ((repeat (first | with_reducible exact rem_here | with_reducible apply rem_there)); done)) | with_reducible apply Perm.dropK))
      apply VQ_ret1; exact rfl; exact rfl
      refine ⟨?_, rfl⟩
      rw [← he]
      unfold flowE
      first
        | (rw [if_pos (by first | exact .inl (by omega) | exact .inr (.inl (by omega)) | exact .inr (.inr (.inl (by assumption))) | exact .inr (.inr (.inr (by assumption))))]; done)
        | (rw [if_neg (by rintro (h | h | h | h) <;> first | omega | simp_all)]
           first
             | (rw [if_pos (by omega)]; done)
             | (rw [if_neg (by omega), if_pos (by omega)]; done)
             | (rw [if_neg (by omega), if_neg (by omega)]; done)))
set_option maxRecDepth 10000 in
set_option maxHeartbeats 1000000 in
theorem fcheckAll_spec (nodes : Int) (l : List Flw) (hl : l.length ≤ 9223372036854775807) {A : Option Addr} {cap B : Nat} {w0 : World} {H : List HP} {w : World} (hr : Rd B w0 H A (l.flatMap flwF)) (hw : St B w0 H w) :
    Calls Tryz.prog 39 [.int .i64 nodes, .slice A l.length cap].toArray w (Post B w0 fun v K => v = .tuple #[.int .i64 (flowsE nodes l).1, .int .i64 (flowsE nodes l).2] ∧ K = H) := by
  refine Calls_of_VC Tryz.func39 Tryz.ntmps39 rfl rfl hw ?_
  by_cases hn : nodes < 2 ∨ 32 < nodes
  · have hE : flowsE nodes l = (-1, 2) := by unfold flowsE; exact if_pos hn
    rw [hE]
    repeat' (first | apply (zs1 ?_) | apply (zs2 ?_) | (apply zg1; first | refine zs3 ?_ | refine zs4 ?_) | (apply zg6; first | refine zs11 ?_ | refine zs12 ?_) | (apply (zs17 ?_ ?_) <;> intro _ <;> try (exfalso; omega)) | (apply (zs19 ?_ ?_) <;> intro _ <;> try (exfalso; omega)) | apply (zs65 ?_) | apply (zs68 ?_) | apply (zs69 ?_) | apply (zs70 ?_) | (apply zg27; refine zs71 ?_) | apply (zs74 ?_) | apply (zs77 ?_) | fail)
    all_goals (apply VQ_ret2; exact rfl; exact rfl; exact rfl; exact ⟨rfl, rfl⟩)
  by_cases h16 : 16 < l.length
  · have hE : flowsE nodes l = (-1, 8) := by unfold flowsE; exact (if_neg hn).trans (if_pos h16)
    rw [hE]
    repeat' (first | apply (zs1 ?_) | apply (zs2 ?_) | (apply zg1; refine zs4 ?_) | (apply zg4; refine zs9 ?_) | (apply zg6; refine zs12 ?_) | (apply (zs17 ?_ ?_) <;> intro _ <;> try (exfalso; omega)) | (apply (zs19 ?_ ?_) <;> intro _ <;> try (exfalso; omega)) | apply (zs65 ?_) | apply (zs68 ?_) | apply (zs69 ?_) | apply (zs70 ?_) | (apply zg27; first | refine zs71 ?_ | refine zs72 ?_) | apply (zs74 ?_) | apply (zs76 ?_) | apply (zs77 ?_) | fail)
    apply VQ_ret2; exact rfl; exact rfl; exact rfl; exact ⟨rfl, rfl⟩
  have hE : flowsE nodes l = firstF (flowAtE nodes l) l.length 0 := by unfold flowsE; exact (if_neg hn).trans (if_neg h16)
  rw [hE]
  repeat' (first | apply (zs1 ?_) | apply (zs2 ?_) | (apply zg1; refine zs4 ?_) | (apply zg4; refine zs9 ?_) | (apply zg6; refine zs12 ?_) | (apply (zs17 ?_ ?_) <;> intro _ <;> try (exfalso; omega)) | (apply (zs19 ?_ ?_) <;> intro _ <;> try (exfalso; omega)) | apply (zs65 ?_) | apply (zs68 ?_) | apply (zs69 ?_) | apply (zs70 ?_) | (apply zg27; refine zs72 ?_) | apply (zs73 ?_) | apply (zs76 ?_) | fail)
  refine VC_loop1 (fun (i : Nat) => [(20, .int .i64 i), (19, .int .i64 l.length), (18, .slice A l.length cap), (0, .int .i64 nodes), (1, .slice A l.length cap)]) (fun _ => H) (fun i => i ≤ l.length ∧ ∀ k, k < i → flowAtE nodes l k = 0) (fun i => l.length - i) 0 ⟨Nat.zero_le _, fun k hk => absurd hk (Nat.not_lt_zero _)⟩ ?_ (fun w hw => hw) ?_
  · (repeat (first | exact sub_nil _ | (apply sub_cons; first | exact rfl | exact congrArg (fun z : Int => some (Value.int .i64 z)) (by omega))))
  rintro i ⟨hi, hall⟩ K hK
  by_cases hlt : i < l.length
  · have hget : l[i]? = some (flwAt l i) := flwAt_some hlt
    have hbad : flowAtE nodes l i ≠ 0 → firstF (flowAtE nodes l) l.length 0 = ((i : Int), flowAtE nodes l i) := fun h => firstF_at (fun k _ hk => hall k hk) (Nat.zero_le _) (by omega) h
    have hstep : flowAtE nodes l i = 0 → ∀ k, k < i + 1 → flowAtE nodes l k = 0 := fun h k hk => by
      by_cases e : k = i
      · rw [e]; exact h
      · exact hall k (by omega)
    by_cases he : flowE nodes (flwAt l i) ≠ 0
    · have hf : flowAtE nodes l i = flowE nodes (flwAt l i) := by unfold flowAtE; exact if_pos he
      rw [hbad (by rw [hf]; exact he), hf]
      repeat' (first | ((first | apply VL_callt en82 | apply VL_callq en82); (repeat (first | exact args_nil | (apply args_cons; exact rfl))); exact rfl; exact fun _ hw => (fcheck_spec nodes (flwAt l i) hw)) | apply (zs1 ?_) | apply (zs2 ?_) | (apply zg3; first | refine zs8 ?_ | refine zs61 ?_) | (apply zg5; refine zs57 ?_) | (apply zg8; (refine zs16 ?_ ?_ <;> intro _ <;> try (exfalso; omega))) | (apply (zs17 ?_ ?_) <;> intro _ <;> try (exfalso; omega)) | (apply zg22; refine zs51 ?_) | (apply zg24; (refine zs54 ?_; intro _)) | apply (zs65 ?_) | apply (zs68 ?_) | apply (zs69 ?_) | apply (zs70 ?_) | (apply zg27; refine zs71 ?_) | apply (zs73 ?_) | apply (zs74 ?_) | apply (zs76 ?_) | apply (zs77 ?_) | apply (zs78 ?_) | fail)
      apply VQ_st H
      · (intro w hw; refine hw.perm ?_; focus repeat (first | with_reducible exact Perm.refl _ | (with_reducible apply perm_take; focus ((repeat (first | with_reducible exact rem_here | with_reducible apply rem_there)); done)) | with_reducible apply Perm.dropK))
      apply VQ_ret2; exact rfl; exact rfl; exact rfl; exact ⟨rfl, rfl⟩
    have he0 := Decidable.not_not.1 he
    have hck := fun {H' : List HP} {w : World} (hw : St B w0 H' w) => fcheck_spec nodes (flwAt l i) hw
    rw [he0] at hck
    rcases Nat.eq_zero_or_pos i with h0 | h0
    · subst h0
      have hf : flowAtE nodes l 0 = 0 := by unfold flowAtE; rw [if_neg he, if_neg (by omega)]
      repeat' (first | ((first | apply VL_callt en82 | apply VL_callq en82); (repeat (first | exact args_nil | (apply args_cons; exact rfl))); exact rfl; exact fun _ hw => (hck hw)) | apply (zs1 ?_) | apply (zs2 ?_) | (apply zg1; refine zs3 ?_) | (apply zg3; first | refine zs8 ?_ | refine zs61 ?_) | (apply zg5; refine zs57 ?_) | (apply zg6; refine zs12 ?_) | (apply zg8; (refine zs16 ?_ ?_ <;> intro _ <;> try (exfalso; omega))) | (apply (zs17 ?_ ?_) <;> intro _ <;> try (exfalso; omega)) | (apply (zs19 ?_ ?_) <;> intro _ <;> try (exfalso; omega)) | (apply zg13; refine zs30 ?_) | (apply zg22; refine zs51 ?_) | (apply zg24; (refine zs54 ?_; intro _)) | apply (zs65 ?_) | apply (zs66 ?_) | apply (zs68 ?_) | apply (zs69 ?_) | apply (zs70 ?_) | (apply zg27; first | refine zs71 ?_ | refine zs72 ?_) | apply (zs73 ?_) | apply (zs76 ?_) | apply (zs79 ?_) | (apply zg28; refine zs83 ?_) | fail)
      apply hK (0 + 1)
      · exact ⟨by omega, hstep hf⟩
      · omega
      · (repeat (first | exact sub_nil _ | (apply sub_cons; first | exact rfl | exact congrArg (fun z : Int => some (Value.int .i64 z)) (by omega))))
      · (intro w hw; refine hw.perm ?_; focus repeat (first | with_reducible exact Perm.refl _ | (with_reducible apply perm_take; focus ((repeat (first | with_reducible exact rem_here | with_reducible apply rem_there)); done)) | with_reducible apply Perm.dropK))
    have hget2 : l[((i : Int) - 1).toNat]? = some (flwAt l (i - 1)) := by
      rw [show ((i : Int) - 1).toNat = i - 1 by omega]
      exact flwAt_some (by omega)
    by_cases hle : (flwAt l i).1 ≤ (flwAt l (i - 1)).1
    · have hf : flowAtE nodes l i = 5 := by unfold flowAtE; rw [if_neg he, if_pos ⟨h0, hle⟩]
      rw [hbad (by rw [hf]; decide), hf]
      repeat' (first | ((first | apply VL_callt en82 | apply VL_callq en82); (repeat (first | exact args_nil | (apply args_cons; exact rfl))); exact rfl; exact fun _ hw => (hck hw)) | apply (zs1 ?_) | apply (zs2 ?_) | (apply zg1; refine zs4 ?_) | (apply zg2; first | refine zs6 ?_ | refine zs58 ?_) | (apply zg3; first | refine zs7 ?_ | refine zs8 ?_ | refine zs59 ?_ | refine zs61 ?_) | (apply zg5; refine zs57 ?_) | (apply zg6; refine zs11 ?_) | (apply zg8; (refine zs16 ?_ ?_ <;> intro _ <;> try (exfalso; omega))) | (apply (zs17 ?_ ?_) <;> intro _ <;> try (exfalso; omega)) | (apply (zs18 ?_ ?_) <;> intro _ <;> try (exfalso; omega)) | (apply (zs19 ?_ ?_) <;> intro _ <;> try (exfalso; omega)) | (apply zg14; refine zs31 ?_) | (apply zg22; refine zs51 ?_) | (apply zg24; (refine zs54 ?_; intro _)) | apply (zs65 ?_) | apply (zs66 ?_) | apply (zs68 ?_) | apply (zs69 ?_) | apply (zs70 ?_) | (apply zg27; first | refine zs71 ?_ | refine zs72 ?_) | apply (zs73 ?_) | apply (zs74 ?_) | apply (zs76 ?_) | apply (zs77 ?_) | apply (zs78 ?_) | (apply zg28; refine zs83 ?_) | fail)
      apply VQ_st H
      · (intro w hw; refine hw.perm ?_; focus repeat (first | with_reducible exact Perm.refl _ | (with_reducible apply perm_take; focus ((repeat (first | with_reducible exact rem_here | with_reducible apply rem_there)); done)) | with_reducible apply Perm.dropK))
      apply VQ_ret2; exact rfl; exact rfl; exact rfl; exact ⟨rfl, rfl⟩
    · have hf : flowAtE nodes l i = 0 := by unfold flowAtE; rw [if_neg he, if_neg (fun h => hle h.2)]
      repeat' (first | ((first | apply VL_callt en82 | apply VL_callq en82); (repeat (first | exact args_nil | (apply args_cons; exact rfl))); exact rfl; exact fun _ hw => (hck hw)) | apply (zs1 ?_) | apply (zs2 ?_) | (apply zg1; refine zs4 ?_) | (apply zg2; first | refine zs6 ?_ | refine zs58 ?_) | (apply zg3; first | refine zs7 ?_ | refine zs8 ?_ | refine zs59 ?_ | refine zs61 ?_) | (apply zg5; refine zs57 ?_) | (apply zg6; refine zs11 ?_) | (apply zg8; (refine zs16 ?_ ?_ <;> intro _ <;> try (exfalso; omega))) | (apply (zs17 ?_ ?_) <;> intro _ <;> try (exfalso; omega)) | (apply (zs18 ?_ ?_) <;> intro _ <;> try (exfalso; omega)) | (apply (zs19 ?_ ?_) <;> intro _ <;> try (exfalso; omega)) | (apply zg13; refine zs30 ?_) | (apply zg14; refine zs31 ?_) | (apply zg22; refine zs51 ?_) | (apply zg24; (refine zs54 ?_; intro _)) | apply (zs65 ?_) | apply (zs66 ?_) | apply (zs68 ?_) | apply (zs69 ?_) | apply (zs70 ?_) | (apply zg27; first | refine zs71 ?_ | refine zs72 ?_) | apply (zs73 ?_) | apply (zs76 ?_) | apply (zs79 ?_) | (apply zg28; refine zs83 ?_) | fail)
      apply hK (i + 1)
      · exact ⟨by omega, hstep hf⟩
      · omega
      · (repeat (first | exact sub_nil _ | (apply sub_cons; first | exact rfl | exact congrArg (fun z : Int => some (Value.int .i64 z)) (by omega))))
      · (intro w hw; refine hw.perm ?_; focus repeat (first | with_reducible exact Perm.refl _ | (with_reducible apply perm_take; focus ((repeat (first | with_reducible exact rem_here | with_reducible apply rem_there)); done)) | with_reducible apply Perm.dropK))
  · repeat' (first | apply (zs2 ?_) | (apply (zs17 ?_ ?_) <;> intro _ <;> try (exfalso; omega)) | apply (zs65 ?_) | apply (zs68 ?_) | apply (zs69 ?_) | apply (zs70 ?_) | (apply zg27; refine zs72 ?_) | apply (zs74 ?_) | apply (zs75 ?_) | apply (zs80 ?_) | apply (zs81 ?_) | fail)
    rw [show i = l.length by omega] at hall
    rw [firstF_no fun k _ hk => hall k (by omega)]
    apply VQ_ret2; exact rfl; exact rfl; exact rfl; exact ⟨rfl, rfl⟩
theorem indexFuncF (p : Flw → Bool) (l : List Flw) (f : Nat) (cs : List Value) (hen : ∀ xs w, (callFunc f xs).run Tryz.prog w = .ok (.enter f xs) w) (hlen : l.length ≤ 1000) {A : Option Addr} {cap B : Nat} {w0 : World} {H : List HP} {w : World} (hr : Rd B w0 H A (l.flatMap flwF))
    (hp : ∀ a ∈ l, ∀ w, St B w0 H w → Calls Tryz.prog f ([flwV a] ++ cs).toArray w (Post B w0 fun v K => v = .bool (p a) ∧ K = H)) (hw : St B w0 H w) :
    Calls Tryz.prog 83 [.slice A l.length cap, .func (.func f) #[] cs.toArray].toArray w (Post B w0 fun v K => v = .int .i64 (idxFrom p l 0) ∧ K = H) := by
  refine Calls_of_VC Tryz.func83 Tryz.ntmps83 rfl rfl hw ?_
  repeat' (first | apply (zs1 ?_) | apply (zs2 ?_) | (apply zg4; refine zs9 ?_) | apply (zs65 ?_) | apply (zs68 ?_) | apply (zs69 ?_) | apply (zs70 ?_) | apply (zs73 ?_) | fail)
  refine VC_loop1 (fun (k : Nat) => [(8, .int .i64 k), (7, .int .i64 l.length), (0, .slice A l.length cap), (1, .func (.func f) #[] cs.toArray)]) (fun _ => H) (fun k => k ≤ l.length ∧ idxFrom p l 0 = idxFrom p (l.drop k) k) (fun k => l.length - k) 0 ⟨Nat.zero_le _, by simp⟩ ?_ (fun w hw => hw) ?_
  · (repeat (first | exact sub_nil _ | (apply sub_cons; first | exact rfl | exact congrArg (fun z : Int => some (Value.int .i64 z)) (by omega))))
  rintro k ⟨hk, hi⟩ K hK
  by_cases hlt : k < l.length
  · obtain ⟨a, ha⟩ : ∃ a, l[k]? = some a := ⟨_, List.getElem?_eq_getElem hlt⟩
    have hpa := hp a (List.mem_of_getElem? ha)
    rw [idx_drop p l ha] at hi
    repeat' (first | ((first | apply VL_callvt (cs := cs)); exact rfl; exact hen; (repeat (first | exact args_nil | (apply args_cons; exact rfl))); exact rfl; exact fun _ hw => hpa _ hw) | apply (zs1 ?_) | apply (zs2 ?_) | (apply zg3; refine zs61 ?_) | (apply zg5; refine zs57 ?_) | (apply (zs17 ?_ ?_) <;> intro _ <;> try (exfalso; omega)) | apply (zs65 ?_) | apply (zs68 ?_) | apply (zs69 ?_) | apply (zs70 ?_) | (apply zg27; refine zs71 ?_) | apply (zs73 ?_) | apply (zs76 ?_) | fail)
    cases hpv : p a
    · rw [hpv] at hi
      repeat' (first | apply (zs1 ?_) | (apply zg13; refine zs30 ?_) | apply (zs65 ?_) | apply (zs68 ?_) | apply (zs70 ?_) | (apply zg27; refine zs72 ?_) | apply (zs76 ?_) | apply (zs79 ?_) | fail)
      apply hK (k + 1)
      · exact ⟨by omega, hi⟩
      · omega
      · (repeat (first | exact sub_nil _ | (apply sub_cons; first | exact rfl | exact congrArg (fun z : Int => some (Value.int .i64 z)) (by omega))))
      · exact fun w hw => hw
    · rw [hpv] at hi
      repeat' (first | apply (zs1 ?_) | apply (zs2 ?_) | apply (zs65 ?_) | apply (zs68 ?_) | apply (zs69 ?_) | apply (zs70 ?_) | (apply zg27; refine zs71 ?_) | apply (zs74 ?_) | apply (zs77 ?_) | apply (zs78 ?_) | fail)
      apply VQ_ret1; exact rfl; exact rfl
      exact ⟨by rw [hi]; rfl, rfl⟩
  · repeat' (first | apply (zs2 ?_) | (apply (zs17 ?_ ?_) <;> intro _ <;> try (exfalso; omega)) | apply (zs65 ?_) | apply (zs68 ?_) | apply (zs69 ?_) | apply (zs70 ?_) | (apply zg27; refine zs72 ?_) | apply (zs74 ?_) | apply (zs75 ?_) | apply (zs80 ?_) | apply (zs81 ?_) | fail)
    apply VQ_ret1; exact rfl; exact rfl
    rw [hi, List.drop_eq_nil_of_le (by omega)]
    exact ⟨rfl, rfl⟩

theorem find1_spec (f : Flw) (id : Int) (gi : Nat) {B : Nat} {w0 : World} {H : List HP} {w : World} (hm : blk gi (.cells #[.int .i64 id] 3 (0, 0)) ∈ H) (hw : St B w0 H w) :
    Calls Tryz.prog 120 [flwV f, .pointer (some ⟨gi, 0, none⟩)].toArray w (Post B w0 fun v K => v = .bool (decide (f.1 = id)) ∧ K = H) := by
  refine Calls_of_VC Tryz.func120 Tryz.ntmps120 rfl rfl hw ?_
  by_cases h : f.1 = id
  · rw [decide_eq_true h]
    repeat' (first | apply (zs2 ?_) | (apply zg2; refine zs6 ?_) | (apply zg3; refine zs7 ?_) | (apply zg7; (refine zs15 ?_ ?_ <;> intro _ <;> try (exfalso; omega))) | (apply zg23; (refine zs52 ?_; intro _)) | apply (zs65 ?_) | apply (zs68 ?_) | apply (zs69 ?_) | apply (zs70 ?_) | apply (zs74 ?_) | fail)
    all_goals (apply VQ_tail; apply VQ_ret1; exact rfl; exact rfl; exact ⟨rfl, rfl⟩)
  · rw [decide_eq_false h]
    repeat' (first | apply (zs2 ?_) | (apply zg2; refine zs6 ?_) | (apply zg3; refine zs7 ?_) | (apply zg7; (refine zs15 ?_ ?_ <;> intro _ <;> try (exfalso; omega))) | (apply zg23; (refine zs52 ?_; intro _)) | apply (zs65 ?_) | apply (zs68 ?_) | apply (zs69 ?_) | apply (zs70 ?_) | apply (zs74 ?_) | fail)
    all_goals (apply VQ_tail; apply VQ_ret1; exact rfl; exact rfl; exact ⟨rfl, rfl⟩)
theorem ffind_spec (l : List Flw) (id : Int) (hlen : l.length ≤ 1000) {A : Option Addr} {cap B : Nat} {w0 : World} {H : List HP} {w : World} (hr : Rd B w0 H A (l.flatMap flwF)) (hw : St B w0 H w) :
    Calls Tryz.prog 87 [.slice A l.length cap, .int .i64 id].toArray w (Post B w0 fun v K => v = .int .i64 (findF l id) ∧ K = H) := by
  refine Calls_of_VC Tryz.func87 Tryz.ntmps87 rfl rfl hw ?_
  repeat' (first | apply (zs1 ?_) | apply (zs2 ?_) | (apply zg23; (refine zs53 ?_; intro _)) | apply (zs65 ?_) | apply (zs68 ?_) | apply (zs69 ?_) | apply (zs70 ?_) | (apply zg29; (apply VL_makeFunc; (repeat (first | exact args_nil | (apply args_cons; exact rfl))) ; exact rfl)) | fail)
  rename_i gi
  first | apply VL_callt en83 | apply VL_callq en83
  (repeat (first | exact args_nil | (apply args_cons; exact rfl)))
  exact rfl
  exact fun _ hw => (indexFuncF (fun f => decide (f.1 = id)) l 120 [.pointer (some ⟨gi, 0, none⟩)] en120 hlen hr.cons (fun f _ w hw => find1_spec f id gi (by (focus repeat (first | with_reducible exact List.mem_cons_self | with_reducible apply List.mem_cons_of_mem | assumption))) hw) hw)
  repeat' (first | apply (zs2 ?_) | apply (zs65 ?_) | apply (zs68 ?_) | apply (zs74 ?_) | fail)
  apply VQ_st H
  · (intro w hw; refine hw.perm ?_; focus repeat (first | with_reducible exact Perm.refl _ | (with_reducible apply perm_take; focus ((repeat (first | with_reducible exact rem_here | with_reducible apply rem_there)); done)) | with_reducible apply Perm.dropK))
  apply VQ_ret1; exact rfl; exact rfl
  exact ⟨rfl, rfl⟩
theorem period1_spec (s : SchM) (f : Flw) (gs : Nat) (hs : 1 ≤ s.len ∧ s.len ≤ 512) (hf : 1 ≤ f.2.2.2.1 ∧ f.2.2.2.1 ≤ 512) {B : Nat} {w0 : World} {H : List HP} {w : World} (hm : blk gs (.cells #[.int .i64 s.len, .int .i64 s.off, .slice s.A s.cells.length s.cap] 30 (0, 0)) ∈ H) (hw : St B w0 H w) :
    Calls Tryz.prog 42 [flwV f, .pointer (some ⟨gs, 0, none⟩)].toArray w (Post B w0 fun v K => v = .bool (decide (s.len.tmod f.2.2.2.1 ≠ 0)) ∧ K = H) := by
  refine Calls_of_VC Tryz.func42 Tryz.ntmps42 rfl rfl hw ?_
  by_cases h : s.len.tmod f.2.2.2.1 ≠ 0
  · rw [decide_eq_true h]
    rw [Int.tmod_eq_emod_of_nonneg (by omega)] at h
    repeat' (first | apply (zs2 ?_) | (apply zg2; refine zs6 ?_) | (apply zg3; refine zs7 ?_) | (apply zg8; (refine zs16 ?_ ?_ <;> intro _ <;> try (exfalso; omega))) | (apply zg17; refine zs37 ?_) | (apply zg23; (refine zs52 ?_; intro _)) | apply (zs65 ?_) | apply (zs68 ?_) | apply (zs69 ?_) | apply (zs70 ?_) | apply (zs74 ?_) | fail)
    all_goals (apply VQ_tail; apply VQ_ret1; exact rfl; exact rfl; exact ⟨rfl, rfl⟩)
  · rw [decide_eq_false h]
    rw [Int.tmod_eq_emod_of_nonneg (by omega)] at h
    repeat' (first | apply (zs2 ?_) | (apply zg2; refine zs6 ?_) | (apply zg3; refine zs7 ?_) | (apply zg8; (refine zs16 ?_ ?_ <;> intro _ <;> try (exfalso; omega))) | (apply zg17; refine zs37 ?_) | (apply zg23; (refine zs52 ?_; intro _)) | apply (zs65 ?_) | apply (zs68 ?_) | apply (zs69 ?_) | apply (zs70 ?_) | apply (zs74 ?_) | fail)
    all_goals (apply VQ_tail; apply VQ_ret1; exact rfl; exact rfl; exact ⟨rfl, rfl⟩)
theorem idx_some {α : Type} (p : α → Bool) (l : List α) : decide (0 ≤ idxFrom p l 0) = l.any p := by
  have h := idx_any p l 0 (by omega)
  by_cases h0 : 0 ≤ idxFrom p l 0
  · rw [decide_eq_true h0, h.1 h0]
  · rw [decide_eq_false h0]
    cases h1 : l.any p with
    | false => rfl
    | true => exact absurd (h.2 h1) h0
theorem containsF_spec (p : Flw → Bool) (l : List Flw) (f : Nat) (cs : List Value) (hen : ∀ xs w, (callFunc f xs).run Tryz.prog w = .ok (.enter f xs) w) (hlen : l.length ≤ 1000) {A : Option Addr} {cap B : Nat} {w0 : World} {H : List HP} {w : World} (hr : Rd B w0 H A (l.flatMap flwF))
    (hp : ∀ a ∈ l, ∀ w, St B w0 H w → Calls Tryz.prog f ([flwV a] ++ cs).toArray w (Post B w0 fun v K => v = .bool (p a) ∧ K = H)) (hw : St B w0 H w) :
    Calls Tryz.prog 41 [.slice A l.length cap, .func (.func f) #[] cs.toArray].toArray w (Post B w0 fun v K => v = .bool (l.any p) ∧ K = H) := by
  refine Calls_of_VC Tryz.func41 Tryz.ntmps41 rfl rfl hw ?_
  rw [← idx_some]
  repeat' (first | apply (zs1 ?_) | apply (zs2 ?_) | apply (zs65 ?_) | apply (zs68 ?_) | apply (zs69 ?_) | apply (zs70 ?_) | fail)
  first | apply VL_callt en83 | apply VL_callq en83
  (repeat (first | exact args_nil | (apply args_cons; exact rfl)))
  exact rfl
  exact fun _ hw => (indexFuncF p l f cs hen hlen hr hp hw)
  by_cases h0 : 0 ≤ idxFrom p l 0
  · rw [decide_eq_true h0]
    repeat' (first | apply (zs2 ?_) | (apply (zs20 ?_ ?_) <;> intro _ <;> try (exfalso; omega)) | apply (zs65 ?_) | apply (zs68 ?_) | apply (zs74 ?_) | fail)
    apply VQ_ret1; exact rfl; exact rfl
    exact ⟨rfl, rfl⟩
  · rw [decide_eq_false h0]
    repeat' (first | apply (zs2 ?_) | (apply (zs20 ?_ ?_) <;> intro _ <;> try (exfalso; omega)) | apply (zs65 ?_) | apply (zs68 ?_) | apply (zs74 ?_) | fail)
    apply VQ_ret1; exact rfl; exact rfl
    exact ⟨rfl, rfl⟩
end Go.Proofs.YtnkpfpgmbpnbgaaGreatDoor

/- Walks: the program's checkCells. -/
namespace Go.Proofs.YtnkpfpgmbpnbgaaGreatDoor
open Go.RowKit Go.Eng Go.Nw

def netN (g : Nat) (n : NetM) : HP := blk g (.cells #[.int .i64 n.nodes, .slice n.pA n.rows.length n.pcap, .int .i64 n.noise, .int .i64 n.thr, .slice n.lA n.links.length n.lcap, .slice n.mA n.margin.length n.mcap] 26 (0, 0))
set_option maxRecDepth 10000 in
set_option maxHeartbeats 2000000 in
theorem checkCells_spec (n : NetM) (l : List Flw) (s : SchM) (hck : checkE n.net = 0) (hlen : l.length ≤ 1000) (hl : s.cells.length ≤ 1000000000000) {A : Option Addr} {cap B : Nat} {w0 : World} {H : List HP} {w : World} (hin : n.In B w0 H) (hrf : Rd B w0 H A (l.flatMap flwF)) (hr : Rd B w0 H s.A (s.cells.flatMap celF)) (hw : St B w0 H w) :
    Calls Tryz.prog 43 [n.val, .slice A l.length cap, s.val].toArray w (Post B w0 fun v K => v = .tuple #[.int .i64 (cellsF n.net l s.sch).1, .int .i64 (cellsF n.net l s.sch).2] ∧ K = H) := by
  refine Calls_of_VC Tryz.func43 Tryz.ntmps43 rfl rfl hw ?_
  have e4 : s.sch.cells.length = s.cells.length := rfl
  have hE : cellsF n.net l s.sch = firstF (cellF n.net l s.sch) s.cells.length 0 := rfl
  rw [hE]
  repeat' (first | apply (zs1 ?_) | apply (zs2 ?_) | (apply zg2; refine zs6 ?_) | (apply zg3; refine zs7 ?_) | (apply zg4; refine zs9 ?_) | (apply zg23; (refine zs52 ?_; intro _)) | apply (zs65 ?_) | apply (zs68 ?_) | apply (zs69 ?_) | apply (zs70 ?_) | apply (zs73 ?_) | fail)
  rename_i gn gs
  refine VC_loop1 (fun (i : Nat) => [(13, .int .i64 i), (12, .int .i64 s.cells.length), (11, .slice s.A s.cells.length s.cap), (3, .pointer (some ⟨gn, 0, none⟩)), (5, .pointer (some ⟨gs, 0, none⟩)), (1, .slice A l.length cap)])
    (fun _ => blk gs (.cells #[.int .i64 s.len, .int .i64 s.off, .slice s.A s.cells.length s.cap] 30 (0, 0)) :: netN gn n :: H) (fun i => i ≤ s.cells.length ∧ ∀ k, k < i → cellF n.net l s.sch k = 0) (fun i => s.cells.length - i) 0 ⟨Nat.zero_le _, fun k hk => absurd hk (Nat.not_lt_zero _)⟩ ?_ (fun w hw => hw) ?_
  · (repeat (first | exact sub_nil _ | (apply sub_cons; first | exact rfl | exact congrArg (fun z : Int => some (Value.int .i64 z)) (by omega))))
  rintro i ⟨hi, hall⟩ K hK
  unfold netN
  have hrc := fun (X : HP) => ((hr.cons (X := netN gn n)).cons (X := blk gs (.cells #[.int .i64 s.len, .int .i64 s.off, .slice s.A s.cells.length s.cap] 30 (0, 0)))).cons (X := X)
  by_cases hlt : i < s.cells.length
  · have hget : s.cells[i]? = some (celAt s.sch i) := celAt_some (s := s.sch) hlt
    have hbad : cellF n.net l s.sch i ≠ 0 → firstF (cellF n.net l s.sch) s.cells.length 0 = ((i : Int), cellF n.net l s.sch i) := fun h => firstF_at (fun k _ hk => hall k hk) (Nat.zero_le _) (by omega) h
    have hstep : cellF n.net l s.sch i = 0 → ∀ k, k < i + 1 → cellF n.net l s.sch k = 0 := fun h k hk => by
      by_cases e : k = i
      · rw [e]; exact h
      · exact hall k (by omega)
    obtain ⟨c, hc⟩ : ∃ c, celAt s.sch i = c := ⟨_, rfl⟩
    have hce : cellF n.net l s.sch i = if placedE s.sch c = false then 2 else if goodE n.net (fromC c) (toC c) = false ∨ findF l (flowC c) < 0 then 7 else if 0 < i ∧ celLt (celAt s.sch (i - 1)) c = false then 5 else 0 := by
      unfold cellF
      rw [hc]
    rw [hc] at hget
    have hplc := fun {H' : List HP} {w : World} (hw : St B w0 H' w) => placed_spec s c hw
    cases hp : placedE s.sch c with
    | false =>
      rw [hp] at hplc
      rw [hp, if_pos rfl] at hce
      rw [hbad (by rw [hce]; decide), hce]
      repeat' (first | ((first | apply VL_callt en84 | apply VL_callq en84); (repeat (first | exact args_nil | (apply args_cons; exact rfl))); exact rfl; exact fun _ hw => (hplc hw)) | apply (zs1 ?_) | apply (zs2 ?_) | (apply zg3; first | refine zs8 ?_ | refine zs61 ?_) | (apply zg5; refine zs57 ?_) | (apply (zs17 ?_ ?_) <;> intro _ <;> try (exfalso; omega)) | (apply zg20; refine zs48 ?_) | (apply zg22; refine zs51 ?_) | (apply zg24; (refine zs54 ?_; intro _)) | apply (zs65 ?_) | apply (zs68 ?_) | apply (zs69 ?_) | apply (zs70 ?_) | (apply zg27; refine zs71 ?_) | apply (zs73 ?_) | apply (zs74 ?_) | apply (zs76 ?_) | apply (zs77 ?_) | apply (zs78 ?_) | fail)
      apply VQ_st H
      · (intro w hw; refine hw.perm ?_; focus repeat (first | with_reducible exact Perm.refl _ | (with_reducible apply perm_take; focus ((repeat (first | with_reducible exact rem_here | with_reducible apply rem_there)); done)) | with_reducible apply Perm.dropK))
      apply VQ_ret2; exact rfl; exact rfl; exact rfl; exact ⟨rfl, rfl⟩
    | true =>
    rw [hp] at hplc
    rw [hp, if_neg (by decide)] at hce
    have hix := fun {H' : List HP} {w : World} (hin : n.In B w0 H') (hw : St B w0 H' w) => index_spec n c.2.2.1 c.2.2.2.1 hin hw
    have hus := fun {H' : List HP} {w : World} (hin : n.In B w0 H') (hw : St B w0 H' w) => Usable_spec n (indexE n.net c.2.2.1 c.2.2.2.1) hin hw
    rw [use_good hck] at hus
    have hfi := fun {H' : List HP} {w : World} (hr : Rd B w0 H' A (l.flatMap flwF)) (hw : St B w0 H' w) => ffind_spec l c.2.2.2.2 hlen (cap := cap) hr hw
    have hgf : goodE n.net (fromC c) (toC c) = goodE n.net c.2.2.1 c.2.2.2.1 := rfl
    have hff : findF l (flowC c) = findF l c.2.2.2.2 := rfl
    by_cases hg : goodE n.net c.2.2.1 c.2.2.2.1 = false ∨ findF l c.2.2.2.2 < 0
    · rw [hgf, hff, if_pos hg] at hce
      rw [hbad (by rw [hce]; decide), hce]
      cases hgd : goodE n.net c.2.2.1 c.2.2.2.1 with
      | false =>
        rw [hgd] at hus
        repeat' (first | ((first | apply VL_callt en84 | apply VL_callq en84); (repeat (first | exact args_nil | (apply args_cons; exact rfl))); exact rfl; exact fun _ hw => (hplc hw)) | ((first | apply VL_callt en86 | apply VL_callq en86); (repeat (first | exact args_nil | (apply args_cons; exact rfl))); exact rfl; exact fun _ hw => (hix hin.cons.cons.cons hw)) | ((first | apply VL_callt en85 | apply VL_callq en85); (repeat (first | exact args_nil | (apply args_cons; exact rfl))); exact rfl; exact fun _ hw => (hus hin.cons.cons.cons hw)) | apply (zs1 ?_) | apply (zs2 ?_) | (apply zg1; refine zs3 ?_) | (apply zg2; refine zs6 ?_) | (apply zg3; first | refine zs7 ?_ | refine zs8 ?_ | refine zs61 ?_) | (apply zg5; refine zs57 ?_) | (apply zg6; refine zs11 ?_) | (apply (zs17 ?_ ?_) <;> intro _ <;> try (exfalso; omega)) | (apply zg20; first | refine zs47 ?_ | refine zs48 ?_) | (apply zg22; refine zs51 ?_) | (apply zg24; (refine zs54 ?_; intro _)) | apply (zs65 ?_) | apply (zs66 ?_) | apply (zs68 ?_) | apply (zs69 ?_) | apply (zs70 ?_) | (apply zg27; first | refine zs71 ?_ | refine zs72 ?_) | apply (zs73 ?_) | apply (zs74 ?_) | apply (zs76 ?_) | apply (zs77 ?_) | apply (zs78 ?_) | (apply zg28; refine zs84 ?_) | fail)
        apply VQ_st H
        · (intro w hw; refine hw.perm ?_; focus repeat (first | with_reducible exact Perm.refl _ | (with_reducible apply perm_take; focus ((repeat (first | with_reducible exact rem_here | with_reducible apply rem_there)); done)) | with_reducible apply Perm.dropK))
        apply VQ_ret2; exact rfl; exact rfl; exact rfl; exact ⟨rfl, rfl⟩
      | true =>
        have hneg : findF l c.2.2.2.2 < 0 := hg.elim (fun h => by rw [hgd] at h; cases h) id
        rw [hgd] at hus
        repeat' (first | ((first | apply VL_callt en84 | apply VL_callq en84); (repeat (first | exact args_nil | (apply args_cons; exact rfl))); exact rfl; exact fun _ hw => (hplc hw)) | ((first | apply VL_callt en86 | apply VL_callq en86); (repeat (first | exact args_nil | (apply args_cons; exact rfl))); exact rfl; exact fun _ hw => (hix hin.cons.cons.cons hw)) | ((first | apply VL_callt en85 | apply VL_callq en85); (repeat (first | exact args_nil | (apply args_cons; exact rfl))); exact rfl; exact fun _ hw => (hus hin.cons.cons.cons hw)) | ((first | apply VL_callt en87 | apply VL_callq en87); (repeat (first | exact args_nil | (apply args_cons; exact rfl))); exact rfl; exact fun _ hw => (hfi hrf.cons.cons.cons hw)) | apply (zs1 ?_) | apply (zs2 ?_) | (apply zg1; refine zs4 ?_) | (apply zg2; refine zs6 ?_) | (apply zg3; first | refine zs7 ?_ | refine zs8 ?_ | refine zs61 ?_) | (apply zg5; refine zs57 ?_) | (apply zg6; refine zs12 ?_) | (apply (zs17 ?_ ?_) <;> intro _ <;> try (exfalso; omega)) | (apply zg20; refine zs47 ?_) | (apply zg22; refine zs51 ?_) | (apply zg24; (refine zs54 ?_; intro _)) | apply (zs65 ?_) | apply (zs66 ?_) | apply (zs68 ?_) | apply (zs69 ?_) | apply (zs70 ?_) | (apply zg27; first | refine zs71 ?_ | refine zs72 ?_) | apply (zs73 ?_) | apply (zs74 ?_) | apply (zs76 ?_) | apply (zs77 ?_) | apply (zs78 ?_) | (apply zg28; refine zs84 ?_) | fail)
        apply VQ_st H
        · (intro w hw; refine hw.perm ?_; focus repeat (first | with_reducible exact Perm.refl _ | (with_reducible apply perm_take; focus ((repeat (first | with_reducible exact rem_here | with_reducible apply rem_there)); done)) | with_reducible apply Perm.dropK))
        apply VQ_ret2; exact rfl; exact rfl; exact rfl; exact ⟨rfl, rfl⟩
    have hgd : goodE n.net c.2.2.1 c.2.2.2.1 = true := by
      cases h : goodE n.net c.2.2.1 c.2.2.2.1 with
      | true => rfl
      | false => exact absurd (.inl h) hg
    have hpos : ¬ findF l c.2.2.2.2 < 0 := fun h => hg (.inr h)
    rw [hgf, hff, if_neg hg] at hce
    rw [hgd] at hus
    rcases Nat.eq_zero_or_pos i with h0 | h0
    · subst h0
      rw [if_neg (by omega)] at hce
      repeat' (first | ((first | apply VL_callt en84 | apply VL_callq en84); (repeat (first | exact args_nil | (apply args_cons; exact rfl))); exact rfl; exact fun _ hw => (hplc hw)) | ((first | apply VL_callt en86 | apply VL_callq en86); (repeat (first | exact args_nil | (apply args_cons; exact rfl))); exact rfl; exact fun _ hw => (hix hin.cons.cons.cons hw)) | ((first | apply VL_callt en85 | apply VL_callq en85); (repeat (first | exact args_nil | (apply args_cons; exact rfl))); exact rfl; exact fun _ hw => (hus hin.cons.cons.cons hw)) | ((first | apply VL_callt en87 | apply VL_callq en87); (repeat (first | exact args_nil | (apply args_cons; exact rfl))); exact rfl; exact fun _ hw => (hfi hrf.cons.cons.cons hw)) | apply (zs1 ?_) | apply (zs2 ?_) | (apply zg1; first | refine zs3 ?_ | refine zs4 ?_) | (apply zg2; refine zs6 ?_) | (apply zg3; first | refine zs7 ?_ | refine zs8 ?_ | refine zs61 ?_) | (apply zg5; refine zs57 ?_) | (apply zg6; refine zs12 ?_) | (apply (zs17 ?_ ?_) <;> intro _ <;> try (exfalso; omega)) | (apply (zs19 ?_ ?_) <;> intro _ <;> try (exfalso; omega)) | (apply zg13; refine zs30 ?_) | (apply zg20; refine zs47 ?_) | (apply zg22; refine zs51 ?_) | (apply zg24; (refine zs54 ?_; intro _)) | apply (zs65 ?_) | apply (zs66 ?_) | apply (zs68 ?_) | apply (zs69 ?_) | apply (zs70 ?_) | (apply zg27; first | refine zs71 ?_ | refine zs72 ?_) | apply (zs73 ?_) | apply (zs76 ?_) | apply (zs79 ?_) | (apply zg28; refine zs84 ?_) | fail)
      apply hK (0 + 1)
      · exact ⟨by omega, hstep hce⟩
      · omega
      · (repeat (first | exact sub_nil _ | (apply sub_cons; first | exact rfl | exact congrArg (fun z : Int => some (Value.int .i64 z)) (by omega))))
      · unfold netN
        (intro w hw; refine hw.perm ?_; focus repeat (first | with_reducible exact Perm.refl _ | (with_reducible apply perm_take; focus ((repeat (first | with_reducible exact rem_here | with_reducible apply rem_there)); done)) | with_reducible apply Perm.dropK))
    have hget2 : s.cells[((i : Int) - 1).toNat]? = some (celAt s.sch (i - 1)) := by
      rw [show ((i : Int) - 1).toNat = i - 1 by omega]
      exact celAt_some (s := s.sch) (show i - 1 < s.cells.length by omega)
    obtain ⟨p, hpv⟩ : ∃ p, celAt s.sch (i - 1) = p := ⟨_, rfl⟩
    rw [hpv] at hce hget2
    have hcl := cmp_lt p c
    have hcm := fun {H' : List HP} {w : World} (hw : St B w0 H' w) => compareC_spec p c hw
    obtain ⟨q, hq⟩ : ∃ q, cmpV (nums p) (nums c) = q := ⟨_, rfl⟩
    rw [hq] at hcl hcm
    by_cases hlt2 : q < 0
    · rw [hcl.1 hlt2, if_neg (by simp)] at hce
      repeat' (first | ((first | apply VL_callt en84 | apply VL_callq en84); (repeat (first | exact args_nil | (apply args_cons; exact rfl))); exact rfl; exact fun _ hw => (hplc hw)) | ((first | apply VL_callt en86 | apply VL_callq en86); (repeat (first | exact args_nil | (apply args_cons; exact rfl))); exact rfl; exact fun _ hw => (hix hin.cons.cons.cons hw)) | ((first | apply VL_callt en85 | apply VL_callq en85); (repeat (first | exact args_nil | (apply args_cons; exact rfl))); exact rfl; exact fun _ hw => (hus hin.cons.cons.cons hw)) | ((first | apply VL_callt en87 | apply VL_callq en87); (repeat (first | exact args_nil | (apply args_cons; exact rfl))); exact rfl; exact fun _ hw => (hfi hrf.cons.cons.cons hw)) | ((first | apply VL_callt en68 | apply VL_callq en68); (repeat (first | exact args_nil | (apply args_cons; exact rfl))); exact rfl; exact fun _ hw => (hcm hw)) | apply (zs1 ?_) | apply (zs2 ?_) | (apply zg1; refine zs4 ?_) | (apply zg2; refine zs6 ?_) | (apply zg3; first | refine zs7 ?_ | refine zs8 ?_ | refine zs61 ?_) | (apply zg5; refine zs57 ?_) | (apply zg6; first | refine zs11 ?_ | refine zs12 ?_) | (apply (zs17 ?_ ?_) <;> intro _ <;> try (exfalso; omega)) | (apply (zs19 ?_ ?_) <;> intro _ <;> try (exfalso; omega)) | (apply (zs20 ?_ ?_) <;> intro _ <;> try (exfalso; omega)) | (apply zg13; refine zs30 ?_) | (apply zg14; refine zs31 ?_) | (apply zg20; refine zs47 ?_) | (apply zg22; refine zs51 ?_) | (apply zg24; (refine zs54 ?_; intro _)) | apply (zs65 ?_) | apply (zs66 ?_) | apply (zs68 ?_) | apply (zs69 ?_) | apply (zs70 ?_) | (apply zg27; first | refine zs71 ?_ | refine zs72 ?_) | apply (zs73 ?_) | apply (zs76 ?_) | apply (zs79 ?_) | (apply zg28; refine zs84 ?_) | fail)
      apply hK (i + 1)
      · exact ⟨by omega, hstep hce⟩
      · omega
      · (repeat (first | exact sub_nil _ | (apply sub_cons; first | exact rfl | exact congrArg (fun z : Int => some (Value.int .i64 z)) (by omega))))
      · unfold netN
        (intro w hw; refine hw.perm ?_; focus repeat (first | with_reducible exact Perm.refl _ | (with_reducible apply perm_take; focus ((repeat (first | with_reducible exact rem_here | with_reducible apply rem_there)); done)) | with_reducible apply Perm.dropK))
    · have hnl : celLt p c = false := by
        cases h : celLt p c with
        | false => rfl
        | true => exact absurd (hcl.2 h) hlt2
      rw [hnl, if_pos ⟨h0, rfl⟩] at hce
      rw [hbad (by rw [hce]; decide), hce]
      repeat' (first | ((first | apply VL_callt en84 | apply VL_callq en84); (repeat (first | exact args_nil | (apply args_cons; exact rfl))); exact rfl; exact fun _ hw => (hplc hw)) | ((first | apply VL_callt en86 | apply VL_callq en86); (repeat (first | exact args_nil | (apply args_cons; exact rfl))); exact rfl; exact fun _ hw => (hix hin.cons.cons.cons hw)) | ((first | apply VL_callt en85 | apply VL_callq en85); (repeat (first | exact args_nil | (apply args_cons; exact rfl))); exact rfl; exact fun _ hw => (hus hin.cons.cons.cons hw)) | ((first | apply VL_callt en87 | apply VL_callq en87); (repeat (first | exact args_nil | (apply args_cons; exact rfl))); exact rfl; exact fun _ hw => (hfi hrf.cons.cons.cons hw)) | ((first | apply VL_callt en68 | apply VL_callq en68); (repeat (first | exact args_nil | (apply args_cons; exact rfl))); exact rfl; exact fun _ hw => (hcm hw)) | apply (zs1 ?_) | apply (zs2 ?_) | (apply zg1; refine zs4 ?_) | (apply zg2; refine zs6 ?_) | (apply zg3; first | refine zs7 ?_ | refine zs8 ?_ | refine zs61 ?_) | (apply zg5; refine zs57 ?_) | (apply zg6; first | refine zs11 ?_ | refine zs12 ?_) | (apply (zs17 ?_ ?_) <;> intro _ <;> try (exfalso; omega)) | (apply (zs19 ?_ ?_) <;> intro _ <;> try (exfalso; omega)) | (apply (zs20 ?_ ?_) <;> intro _ <;> try (exfalso; omega)) | (apply zg14; refine zs31 ?_) | (apply zg20; refine zs47 ?_) | (apply zg22; refine zs51 ?_) | (apply zg24; (refine zs54 ?_; intro _)) | apply (zs65 ?_) | apply (zs66 ?_) | apply (zs68 ?_) | apply (zs69 ?_) | apply (zs70 ?_) | (apply zg27; first | refine zs71 ?_ | refine zs72 ?_) | apply (zs73 ?_) | apply (zs74 ?_) | apply (zs76 ?_) | apply (zs77 ?_) | apply (zs78 ?_) | (apply zg28; refine zs84 ?_) | fail)
      apply VQ_st H
      · (intro w hw; refine hw.perm ?_; focus repeat (first | with_reducible exact Perm.refl _ | (with_reducible apply perm_take; focus ((repeat (first | with_reducible exact rem_here | with_reducible apply rem_there)); done)) | with_reducible apply Perm.dropK))
      apply VQ_ret2; exact rfl; exact rfl; exact rfl; exact ⟨rfl, rfl⟩
  · repeat' (first | apply (zs2 ?_) | (apply (zs17 ?_ ?_) <;> intro _ <;> try (exfalso; omega)) | apply (zs65 ?_) | apply (zs68 ?_) | apply (zs69 ?_) | apply (zs70 ?_) | (apply zg27; refine zs72 ?_) | apply (zs74 ?_) | apply (zs75 ?_) | apply (zs80 ?_) | apply (zs81 ?_) | fail)
    rw [show i = s.cells.length by omega] at hall
    rw [firstF_no fun k _ hk => hall k (by omega)]
    apply VQ_st H
    · (intro w hw; refine hw.perm ?_; focus repeat (first | with_reducible exact Perm.refl _ | (with_reducible apply perm_take; focus ((repeat (first | with_reducible exact rem_here | with_reducible apply rem_there)); done)) | with_reducible apply Perm.dropK))
    apply VQ_ret2; exact rfl; exact rfl; exact rfl; exact ⟨rfl, rfl⟩
end Go.Proofs.YtnkpfpgmbpnbgaaGreatDoor

/- Walks: the program's twice. -/
namespace Go.Eng
open Go.RowKit
theorem VQ_rets {P : Program} {B : Nat} {w0 : World} {env : Env} {H : List HP} {n : Nat} (T : Tab P) {fn : Func} {Φ : Value → List HP → Prop} {p g rt : Nat} {v : Value} {cs : Array Value} {tt : TypeId} {fr : Nat × Nat} (hr : fn.results = #[.cell p rt]) (hp : get env p = some (.pointer (some ⟨g, 0, none⟩)))
    (hm : Eng.blk g (.cells cs tt fr) ∈ H) (hv : nth cs.toList 0 = some v) (ht : Eng.look T.sc rt = some ()) {H2 : List HP} (hH : ∀ w, St B w0 H w → St B w0 H2 w) (h : Φ v H2) : VQ ⟨n, [], none⟩ B w0 (bodyPost P fn (Post B w0 Φ)) .ret env H := by
  refine ⟨fun a w ha hw => bodyPost_ret (v := v) ?_ ha.defers ⟨_, H2, rfl, hH w hw, h⟩⟩
  have hp' := ha.slot p _ hp
  rw [nth_arr] at hv
  have hc := cell_of_blk (i := 0) (hw.blk hm).1
  simp [results, hr, Array.getD_eq_getD_getElem?, hp', asAddr, loadVar, run_isAgg_false (T.scal ht).1, hc, hv]
end Go.Eng
namespace Go.Proofs.YtnkpfpgmbpnbgaaGreatDoor
open Go.RowKit Go.Eng Go.Nw

theorem twice_not {s : Sch} {i : Nat} (hi : i < s.cells.length) (h : ∀ j ∈ inI s (celAt s i).1 s.cells.length, j < i → touchE (celAt s i) (celAt s j) = false) : twiceB s i = false := by
  unfold twiceB
  rw [List.any_eq_false]
  intro j hj
  have hj := List.mem_range.1 hj
  rw [Bool.and_eq_true, decide_eq_true_eq]
  rintro ⟨h1, h2⟩
  rw [h j (inI_mem.2 ⟨by omega, h1⟩) hj] at h2
  cases h2
theorem twice_yes {s : Sch} {i j : Nat} (hji : j < i) (hs : (celAt s j).1 = (celAt s i).1) (ht : touchE (celAt s i) (celAt s j) = true) : twiceB s i = true := by
  unfold twiceB
  rw [List.any_eq_true]
  exact ⟨j, List.mem_range.2 hji, by rw [decide_eq_true hs, ht]; rfl⟩
set_option maxRecDepth 10000 in
set_option maxHeartbeats 2000000 in
theorem twice_spec (s : SchM) (i : Nat) (hi : i < s.cells.length) (hl : s.cells.length ≤ 1000) {B : Nat} {w0 : World} {H : List HP} {w : World} (hr : Rd B w0 H s.A (s.cells.flatMap celF)) (hw : St B w0 H w) :
    Calls Tryz.prog 44 [s.val, .int .i64 i].toArray w (Post B w0 fun v K => v = .bool (twiceB s.sch i) ∧ K = H) := by
  refine Calls_of_VCm Tryz.func44 Tryz.ntmps44 rfl rfl hw ?_
  have hget : s.cells[i]? = some (celAt s.sch i) := celAt_some (s := s.sch) hi
  obtain ⟨c, hc⟩ : ∃ c, celAt s.sch i = c := ⟨_, rfl⟩
  rw [hc] at hget
  repeat' (first | (apply zg2; refine zs6 ?_) | (apply zg3; first | refine zs7 ?_ | refine zs8 ?_ | refine zs61 ?_) | (apply zg5; refine zs57 ?_) | (apply zg22; refine zs51 ?_) | (apply zg23; first | (refine zs52 ?_; intro _) | (refine zs53 ?_; intro _)) | (apply zg24; (refine zs54 ?_; intro _)) | apply (zs65 ?_) | apply (zs68 ?_) | apply (zs69 ?_) | apply (zs70 ?_) | fail)
  rename_i gs gi gr gc
  apply VL_call _ en65
  (repeat (first | exact args_nil | (apply args_cons; exact rfl)))
  exact rfl
  exact fun _ hw => (inS_spec s c.1 (hw))
  rintro _ _ ⟨g1, g2, rfl, rfl⟩
  repeat' (first | apply (zs65 ?_) | apply (zs68 ?_) | apply (zs73 ?_) | fail)
  have hr6 : Rd B w0 (intB g2 c.1 :: schB g1 s :: blk gc (.cells (celF c).toArray 51 (0, 0)) :: blk gi (.cells #[.int .i64 i] 3 (0, 0)) :: schB gs s :: H) s.A (s.cells.flatMap celF) := hr.cons.cons.cons.cons.cons
  refine VC_rangeFunc (gf := 102) (lb := [.pointer (some ⟨g1, 0, none⟩), .pointer (some ⟨g2, 0, none⟩)]) (xs := inXs s.sch c.1) (intB g2 c.1 :: schB g1 s :: blk gc (.cells (celF c).toArray 51 (0, 0)) :: blk gi (.cells #[.int .i64 i] 3 (0, 0)) :: schB gs s :: H) (fun _ : Unit => [blk gr (.cells #[.bool false] 4 (0, 0))])
    (fun k _ => ∀ m j, m < k → (inI s.sch c.1 s.cells.length)[m]? = some j → j < i → touchE c (celAt s.sch j) = false) (fun e K => e = .ret ∧ twiceB s.sch i = true ∧ K = [blk gr (.cells #[.bool true] 4 (0, 0))]) () rfl en102 (in1_iter s c.1 g1 g2 hr6 (by omega) (.tail _ (.head _)) (.head _)) rfl ?_ (by kernel_rfl) (by kernel_rfl) ?_ (fun m j h => absurd h (Nat.not_lt_zero _)) ?_ ?_ ?_
  · intro args h
    obtain ⟨k, hk⟩ := List.mem_iff_getElem?.1 h
    obtain ⟨i, _, _, rfl⟩ := inXs_get hk
    rfl
  · exact fun w hw => hw.perm (.trans (.cons _ (.cons _ (.swap _ _ _))) (.trans (.cons _ (.swap _ _ _)) (.swap _ _ _)))
  · rintro l k args R ⟨⟩ hk hI
    obtain ⟨j, hj, hlt, rfl⟩ := inXs_get hk
    have hlt2 : j < s.cells.length := hlt
    dsimp only [putEnv, List.cons_append, List.nil_append]
    have hgj : s.cells[j]? = some (celAt s.sch j) := celAt_some (s := s.sch) hlt
    have hjs : (celAt s.sch j).1 = c.1 := (inI_mem.1 (List.mem_of_getElem? hj)).2
    obtain ⟨d, hd⟩ : ∃ d, celAt s.sch j = d := ⟨_, rfl⟩
    rw [hd] at hgj
    have htc : touchE c d = true ↔ (c.2.2.1 = d.2.2.1 ∨ c.2.2.1 = d.2.2.2.1 ∨ c.2.2.2.1 = d.2.2.1 ∨ c.2.2.2.1 = d.2.2.2.1) := by unfold touchE fromC toC; rw [decide_eq_true_eq]
    repeat' (first | apply (zs2 ?_) | apply (zs65 ?_) | apply (zs70 ?_) | fail)
    apply VQ_assign rem_here
    intro R'
    unfold intB schB
    have hr7 : Rd B w0 (R' :: blk gr (.cells #[.bool false] 4 (0, 0)) :: intB g2 c.1 :: schB g1 s :: blk gc (.cells (celF c).toArray 51 (0, 0)) :: blk gi (.cells #[.int .i64 i] 3 (0, 0)) :: schB gs s :: H) s.A (s.cells.flatMap celF) := hr6.cons.cons
    unfold intB schB at hr7
    clear hr6
    repeat' (first | apply (zs1 ?_) | (apply zg1; first | refine zs3 ?_ | refine zs4 ?_) | (apply zg2; refine zs6 ?_) | (apply zg3; first | refine zs7 ?_ | refine zs61 ?_) | (apply zg5; refine zs57 ?_) | (apply zg6; first | refine zs11 ?_ | refine zs12 ?_) | (apply zg7; (refine zs15 ?_ ?_ <;> intro _ <;> try (exfalso; omega))) | (apply (zs17 ?_ ?_) <;> intro _ <;> try (exfalso; omega)) | (apply zg22; first | refine zs50 ?_ | refine zs51 ?_) | (apply zg24; (refine zs54 ?_; intro _)) | apply (zs65 ?_) | apply (zs68 ?_) | apply (zs69 ?_) | apply (zs70 ?_) | (apply zg27; first | refine zs71 ?_ | refine zs72 ?_) | apply (zs73 ?_) | apply (zs74 ?_) | apply (zs76 ?_) | apply (zs78 ?_) | apply (zs79 ?_) | fail)
    all_goals first
      | (refine VQ_bodyR [blk gr (.cells #[.bool true] 4 (0, 0))] ⟨rfl, ?_, rfl⟩ ?_
         · exact twice_yes (j := j) (by omega) (by rw [hc]; exact hjs) (by rw [hc, hd]; exact htc.2 (by omega))
         · dsimp only [List.cons_append, List.nil_append]
           (intro w hw; refine hw.perm ?_; focus repeat (first | with_reducible exact Perm.refl _ | (with_reducible apply perm_take; focus ((repeat (first | with_reducible exact rem_here | with_reducible apply rem_there)); done)) | with_reducible apply Perm.dropK))
         done)
      | (refine VQ_body () ?_ ?_
         · intro m j2 hm hj2 hji
           rcases Nat.lt_succ_iff_lt_or_eq.1 hm with h | h
           · exact hI m j2 h hj2 hji
           · subst h
             obtain rfl := Option.some.inj (hj.symm.trans hj2)
             rw [hd]
             exact Bool.eq_false_iff.2 fun h => by have := htc.1 h; omega
         · dsimp only [List.cons_append, List.nil_append]
           (intro w hw; refine hw.perm ?_; focus repeat (first | with_reducible exact Perm.refl _ | (with_reducible apply perm_take; focus ((repeat (first | with_reducible exact rem_here | with_reducible apply rem_there)); done)) | with_reducible apply Perm.dropK))
         done)
  · rintro D ⟨⟩ hI
    have htw : twiceB s.sch i = false := twice_not hi fun j hj hji => by
      rw [hc] at hj ⊢
      obtain ⟨m, hm⟩ := List.mem_iff_getElem?.1 hj
      refine hI m j ?_ hm hji
      rw [inXs, List.length_map]
      exact (List.getElem?_eq_some_iff.1 hm).1
    rw [htw]
    dsimp only [List.cons_append, List.nil_append]
    unfold intB schB
    repeat' (first | (apply zg22; refine zs50 ?_) | apply (zs65 ?_) | apply (zs68 ?_) | apply (zs69 ?_) | apply (zs70 ?_) | apply (zs74 ?_) | apply (zs79 ?_) | fail)
    apply VQ_mark rem_here
    apply VQ_m
    apply VQ_rets T (H2 := H); exact rfl; exact rfl; (focus repeat (first | with_reducible exact List.mem_cons_self | with_reducible apply List.mem_cons_of_mem | assumption)); exact rfl; exact rfl; (intro w hw; refine hw.perm ?_; focus repeat (first | with_reducible exact Perm.refl _ | (with_reducible apply perm_take; focus ((repeat (first | with_reducible exact rem_here | with_reducible apply rem_there)); done)) | with_reducible apply Perm.dropK)); exact ⟨rfl, rfl⟩
  · rintro D e K ⟨rfl, htw, rfl⟩ hjmp
    rw [htw]
    dsimp only [List.cons_append, List.nil_append]
    unfold intB schB
    repeat' (first | apply (zs77 ?_) | apply (zs78 ?_) | fail)
    apply VQ_mark rem_here
    apply VQ_m
    apply VQ_rets T (H2 := H); exact rfl; exact rfl; (focus repeat (first | with_reducible exact List.mem_cons_self | with_reducible apply List.mem_cons_of_mem | assumption)); exact rfl; exact rfl; (intro w hw; refine hw.perm ?_; focus repeat (first | with_reducible exact Perm.refl _ | (with_reducible apply perm_take; focus ((repeat (first | with_reducible exact rem_here | with_reducible apply rem_there)); done)) | with_reducible apply Perm.dropK)); exact ⟨rfl, rfl⟩
end Go.Proofs.YtnkpfpgmbpnbgaaGreatDoor
