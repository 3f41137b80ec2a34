/- The law ScheduleEdits returns true at every input, and its arguments read behind the call as they read before: the statement Rows.ScheduleEditsCardSaid. Condition: the listed package-level variables start as the program's text lays them, to which the card ties them. -/
import Derived.ProofKit
import Derived.Below
import Derived.ChangeSame
import Derived.Carry
import Derived.Test.YtnkpfpgmbpnbgaaGreatDoorRows
import Derived.Lib.LaidU8
import Derived.LaidMore
import Derived.Deep.DeepLaidRun
import Derived.Stop.Joined
import Derived.Deep.Slices
import Derived.Lib.SmallJoins
import Derived.OpenShut
import Derived.Test.YtnkpfpgmbpnbgaaGreatDoorCards
import Derived.Test.YtnkpfpgmbpnbgaaGreatDoorTie
import Derived.SevenTiedAt
import Derived.Test.YtnkpfpgmbpnbgaaGreatDoorQ3

/- Walks: the reference's Formed, At. -/
namespace Go.Proofs.YtnkpfpgmbpnbgaaGreatDoor
open Go.RowKit Go.Eng Go.Nw

set_option maxRecDepth 10000 in
set_option maxHeartbeats 2000000 in
theorem rformed_spec (s : SchM) {B : Nat} {w0 : World} {H : List HP} {w : World} (hr : Rd B w0 H s.A (s.cells.flatMap celF)) (hl : s.cells.length ≤ 1000000000000) (hw : St B w0 H w) :
    Calls Tryz.prog 58 [s.val].toArray w (Post B w0 fun v K => v = .bool (formE s.sch) ∧ K = H) := by
  refine Calls_of_VC Tryz.func58 Tryz.ntmps58 rfl rfl hw ?_
  have e1 : s.sch.cells = s.cells := rfl
  have e2 : s.sch.len = s.len := rfl
  have e3 : s.sch.off = s.off := rfl
  have e4 : s.sch.cells.length = s.cells.length := rfl
  have hno : ¬ (1 ≤ s.len ∧ s.len ≤ 512 ∧ 1 ≤ s.off ∧ s.off ≤ 16 ∧ s.cells.length ≤ 512) → formE s.sch = false := fun h => by
    rw [Bool.eq_false_iff]
    intro hh
    have h0 := form_iff.1 hh
    have h1 := of_decide_eq_true h0.sized
    have h2 := h0.few
    omega
  by_cases hz : 1 ≤ s.len ∧ s.len ≤ 512 ∧ 1 ≤ s.off ∧ s.off ≤ 16 ∧ s.cells.length ≤ 512
  rotate_left
  · rw [hno hz]
    repeat' (first | ((first | apply VL_calltb en47 | apply VL_callqb en47); (repeat (first | exact args_nil | (apply args_cons; exact rfl))); exact rfl; exact fun _ hw => (rin_spec _ _ _ hw); all_goals (intro hB; (try simp only [decide_eq_true_eq, decide_eq_false_iff_not] at hB); try (exfalso; omega))) | apply (zs1 ?_) | apply (zs2 ?_) | (apply zg1; first | refine zs3 ?_ | refine zs4 ?_) | (apply zg2; refine zs6 ?_) | (apply zg3; refine zs7 ?_) | (apply zg4; refine zs9 ?_) | (apply zg6; first | refine zs11 ?_ | refine zs12 ?_) | (apply (zs19 ?_ ?_) <;> intro _ <;> try (exfalso; omega)) | (apply zg20; first | refine zs47 ?_ | refine zs48 ?_) | (apply zg23; (refine zs52 ?_; intro _)) | apply (zs65 ?_) | apply (zs68 ?_) | apply (zs69 ?_) | apply (zs70 ?_) | (apply zg27; refine zs71 ?_) | apply (zs74 ?_) | apply (zs77 ?_) | fail)
    all_goals (
      apply VQ_st H
      · (intro w hw; refine hw.perm ?_; focus repeat (first | with_reducible exact Perm.refl _ | (with_reducible apply perm_take; focus ((repeat (first | with_reducible exact rem_here | with_reducible apply rem_there)); done)) | with_reducible apply Perm.dropK))
      apply VQ_ret1; exact rfl; exact rfl
      exact ⟨rfl, rfl⟩)
  have hss : sizedE s.sch = true := decide_eq_true (by omega)
  have hfe : formE s.sch = (List.range s.cells.length).all (celOk s.sch) := by
    unfold formE
    rw [hss, e1, decide_eq_true hz.2.2.2.2, Bool.true_and, Bool.true_and]
  have hsb : 1 ≤ s.len ∧ s.len ≤ 512 ∧ 1 ≤ s.off ∧ s.off ≤ 16 := ⟨hz.1, hz.2.1, hz.2.2.1, hz.2.2.2.1⟩
  rw [hfe]
  repeat' (first | ((first | apply VL_calltb en47 | apply VL_callqb en47); (repeat (first | exact args_nil | (apply args_cons; exact rfl))); exact rfl; exact fun _ hw => (rin_spec _ _ _ hw); all_goals (intro hB; (try simp only [decide_eq_true_eq, decide_eq_false_iff_not] at hB); try (exfalso; omega))) | apply (zs1 ?_) | apply (zs2 ?_) | (apply zg1; refine zs4 ?_) | (apply zg2; refine zs6 ?_) | (apply zg3; refine zs7 ?_) | (apply zg4; refine zs9 ?_) | (apply zg6; refine zs12 ?_) | (apply (zs19 ?_ ?_) <;> intro _ <;> try (exfalso; omega)) | (apply zg20; refine zs47 ?_) | (apply zg23; (refine zs52 ?_; intro _)) | apply (zs65 ?_) | apply (zs68 ?_) | apply (zs69 ?_) | apply (zs70 ?_) | (apply zg27; refine zs72 ?_) | apply (zs73 ?_) | apply (zs76 ?_) | fail)
  first | (rename_i g; guard_hyp g : Nat) | (rename_i g _; guard_hyp g : Nat) | (rename_i g _ _; guard_hyp g : Nat)
  refine VC_loop1 (fun (i : Nat) => [(3, .int .i64 i), (1, .pointer (some ⟨g, 0, none⟩))]) (fun _ => blk g (.cells #[.int .i64 s.len, .int .i64 s.off, .slice s.A s.cells.length s.cap] 30 (0, 0)) :: H) (fun i => i ≤ s.cells.length ∧ (List.range i).all (celOk s.sch) = true) (fun i => s.cells.length - i) 0 ⟨Nat.zero_le _, rfl⟩ ?_ (fun w hw => hw) ?_
  · (repeat (first | exact sub_nil _ | (apply sub_cons; first | exact rfl | exact congrArg (fun z : Int => some (Value.int .i64 z)) (by omega))))
  rintro i ⟨hi, hall⟩ K hK
  have hr := hr.cons (X := blk g (.cells #[.int .i64 s.len, .int .i64 s.off, .slice s.A s.cells.length s.cap] 30 (0, 0)))
  by_cases hlt : i < s.cells.length
  · have hget : s.cells[i]? = some (celAt s.sch i) := celAt_some (s := s.sch) hlt
    have hgo : celOk s.sch i = false → (List.range s.cells.length).all (celOk s.sch) = false := fun h => all_range_no hlt h
    have hst : celOk s.sch i = true → (List.range (i + 1)).all (celOk s.sch) = true := fun h => by rw [all_range_step, hall, h]; rfl
    rcases Nat.eq_zero_or_pos i with h0 | h0
    · subst h0
      repeat' (first | ((first | apply VL_calltb en73 | apply VL_callqb en73); (repeat (first | exact args_nil | (apply args_cons; exact rfl))); exact rfl; exact fun _ hw => (rright_spec s _ hsb hw); all_goals (intro hB; (try simp only [decide_eq_true_eq, decide_eq_false_iff_not] at hB); try (exfalso; omega))) | apply (zs1 ?_) | apply (zs2 ?_) | (apply zg1; first | refine zs3 ?_ | refine zs4 ?_) | (apply zg2; refine zs6 ?_) | (apply zg3; first | refine zs7 ?_ | refine zs8 ?_ | refine zs61 ?_) | (apply zg4; refine zs9 ?_) | (apply zg5; refine zs57 ?_) | (apply zg6; first | refine zs11 ?_ | refine zs12 ?_) | (apply (zs17 ?_ ?_) <;> intro _ <;> try (exfalso; omega)) | (apply (zs19 ?_ ?_) <;> intro _ <;> try (exfalso; omega)) | (apply zg13; refine zs30 ?_) | (apply zg20; first | refine zs47 ?_ | refine zs48 ?_) | apply (zs65 ?_) | apply (zs66 ?_) | apply (zs68 ?_) | apply (zs69 ?_) | apply (zs70 ?_) | (apply zg27; first | refine zs71 ?_ | refine zs72 ?_) | apply (zs73 ?_) | apply (zs74 ?_) | apply (zs76 ?_) | apply (zs77 ?_) | apply (zs78 ?_) | apply (zs79 ?_) | (apply zg28; refine zs84 ?_) | fail)
      all_goals first
        | (apply hK (0 + 1)
           · exact ⟨by omega, hst (by simp [celOk, *])⟩
           · omega
           · (repeat (first | exact sub_nil _ | (apply sub_cons; first | exact rfl | exact congrArg (fun z : Int => some (Value.int .i64 z)) (by omega))))
           · (intro w hw; refine hw.perm ?_; focus repeat (first | with_reducible exact Perm.refl _ | (with_reducible apply perm_take; focus ((repeat (first | with_reducible exact rem_here | with_reducible apply rem_there)); done)) | with_reducible apply Perm.dropK))
           done)
        | (apply VQ_st H
           · (intro w hw; refine hw.perm ?_; focus repeat (first | with_reducible exact Perm.refl _ | (with_reducible apply perm_take; focus ((repeat (first | with_reducible exact rem_here | with_reducible apply rem_there)); done)) | with_reducible apply Perm.dropK))
           apply VQ_ret1; exact rfl; exact rfl
           exact ⟨by rw [hgo (by simp [celOk, *])], rfl⟩)
    · have hget2 : s.cells[((i : Int) - 1).toNat]? = some (celAt s.sch (i - 1)) := by
        rw [show ((i : Int) - 1).toNat = i - 1 by omega]
        exact celAt_some (s := s.sch) (show i - 1 < s.cells.length by omega)
      have hi0 : decide (i = 0) = false := decide_eq_false (by omega)
      repeat' (first | ((first | apply VL_calltb en73 | apply VL_callqb en73); (repeat (first | exact args_nil | (apply args_cons; exact rfl))); exact rfl; exact fun _ hw => (rright_spec s _ hsb hw); all_goals (intro hB; (try simp only [decide_eq_true_eq, decide_eq_false_iff_not] at hB); try (exfalso; omega))) | ((first | apply VL_calltb en50 | apply VL_callqb en50); (repeat (first | exact args_nil | (apply args_cons; exact rfl))); exact rfl; exact fun _ hw => (rless_spec _ _ hw); all_goals (intro hB; (try simp only [decide_eq_true_eq, decide_eq_false_iff_not] at hB); try (exfalso; omega))) | apply (zs1 ?_) | apply (zs2 ?_) | (apply zg1; first | refine zs3 ?_ | refine zs4 ?_) | (apply zg2; refine zs6 ?_) | (apply zg3; first | refine zs7 ?_ | refine zs8 ?_ | refine zs61 ?_) | (apply zg4; refine zs9 ?_) | (apply zg5; refine zs57 ?_) | (apply zg6; first | refine zs11 ?_ | refine zs12 ?_) | (apply (zs17 ?_ ?_) <;> intro _ <;> try (exfalso; omega)) | (apply (zs19 ?_ ?_) <;> intro _ <;> try (exfalso; omega)) | (apply zg13; refine zs30 ?_) | (apply zg14; refine zs31 ?_) | (apply zg20; first | refine zs47 ?_ | refine zs48 ?_) | apply (zs65 ?_) | apply (zs66 ?_) | apply (zs68 ?_) | apply (zs69 ?_) | apply (zs70 ?_) | (apply zg27; first | refine zs71 ?_ | refine zs72 ?_) | apply (zs73 ?_) | apply (zs74 ?_) | apply (zs76 ?_) | apply (zs77 ?_) | apply (zs78 ?_) | apply (zs79 ?_) | (apply zg28; refine zs84 ?_) | fail)
      all_goals first
        | (apply hK (i + 1)
           · exact ⟨by omega, hst (by simp [celOk, *])⟩
           · omega
           · (repeat (first | exact sub_nil _ | (apply sub_cons; first | exact rfl | exact congrArg (fun z : Int => some (Value.int .i64 z)) (by omega))))
           · (intro w hw; refine hw.perm ?_; focus repeat (first | with_reducible exact Perm.refl _ | (with_reducible apply perm_take; focus ((repeat (first | with_reducible exact rem_here | with_reducible apply rem_there)); done)) | with_reducible apply Perm.dropK))
           done)
        | (apply VQ_st H
           · (intro w hw; refine hw.perm ?_; focus repeat (first | with_reducible exact Perm.refl _ | (with_reducible apply perm_take; focus ((repeat (first | with_reducible exact rem_here | with_reducible apply rem_there)); done)) | with_reducible apply Perm.dropK))
           apply VQ_ret1; exact rfl; exact rfl
           exact ⟨by rw [hgo (by simp [celOk, *])], rfl⟩)
  · repeat' (first | apply (zs1 ?_) | apply (zs2 ?_) | (apply zg2; refine zs6 ?_) | (apply zg3; refine zs7 ?_) | (apply zg4; refine zs9 ?_) | (apply (zs17 ?_ ?_) <;> intro _ <;> try (exfalso; omega)) | apply (zs65 ?_) | apply (zs68 ?_) | apply (zs69 ?_) | apply (zs70 ?_) | (apply zg27; refine zs72 ?_) | apply (zs74 ?_) | apply (zs75 ?_) | apply (zs80 ?_) | apply (zs81 ?_) | fail)
    apply VQ_st H
    · (intro w hw; refine hw.perm ?_; focus repeat (first | with_reducible exact Perm.refl _ | (with_reducible apply perm_take; focus ((repeat (first | with_reducible exact rem_here | with_reducible apply rem_there)); done)) | with_reducible apply Perm.dropK))
    apply VQ_ret1; exact rfl; exact rfl
    rw [show i = s.cells.length by omega] at hall
    exact ⟨by rw [hall], rfl⟩
theorem filter_snoc {α : Type} {p : α → Bool} {l : List α} {i : Nat} {x : α} (h : l[i]? = some x) : (l.take (i + 1)).filter p = (l.take i).filter p ++ if p x = true then [x] else [] := by
  rw [List.take_add_one, h, Option.toList_some, List.filter_append]
  cases hp : p x <;> simp [hp]
theorem filter_le {α : Type} {p : α → Bool} {l : List α} {i : Nat} : ((l.take i).filter p).length ≤ l.length := by
  have h1 := List.length_filter_le p (l.take i)
  rw [List.length_take] at h1
  omega
set_option maxRecDepth 10000 in
set_option maxHeartbeats 2000000 in
theorem rat_spec (s : SchM) (slot : Int) {B : Nat} {w0 : World} {H : List HP} {w : World} (hr : Rd B w0 H s.A (s.cells.flatMap celF)) (hl : s.cells.length ≤ 1000000000000) (hw : St B w0 H w) :
    Calls Tryz.prog 34 [s.val, .int .i64 slot].toArray w (Post B w0 fun v K => ∃ A cap, v = .slice A (atE s.sch slot).length cap ∧ K = cels A cap (atE s.sch slot) :: H) := by
  refine Calls_of_VC Tryz.func34 Tryz.ntmps34 rfl rfl hw ?_
  by_cases hn : formE s.sch = false ∨ slot < 0
  · rw [atE, if_pos hn]
    cases hf : formE s.sch with
    | false =>
      repeat' (first | (apply VL_buildSlice0 T; exact rfl; exact rfl; intro g5) | ((first | apply VL_callt en58 | apply VL_callq en58); (repeat (first | exact args_nil | (apply args_cons; exact rfl))); exact rfl; exact fun _ hw => (calls_val (congrArg Value.bool hf) (fun _ hw => rformed_spec s hr.cons.cons hl hw) hw)) | apply (zs1 ?_) | apply (zs2 ?_) | (apply zg1; refine zs3 ?_) | (apply zg3; refine zs8 ?_) | (apply zg6; refine zs11 ?_) | (apply zg20; refine zs48 ?_) | (apply zg23; (refine zs52 ?_; intro _)) | apply (zs65 ?_) | apply (zs68 ?_) | apply (zs69 ?_) | apply (zs70 ?_) | (apply zg27; refine zs71 ?_) | apply (zs74 ?_) | apply (zs77 ?_) | fail)
      apply VQ_st (cels (some ⟨g5, 0, none⟩) 0 [] :: H)
      · unfold cels
        simp only [List.length_nil, List.flatMap_nil]
        (intro w hw; refine hw.perm ?_; focus repeat (first | with_reducible exact Perm.refl _ | (with_reducible apply perm_take; focus ((repeat (first | with_reducible exact rem_here | with_reducible apply rem_there)); done)) | with_reducible apply Perm.dropK))
      apply VQ_ret1; exact rfl; exact rfl
      exact ⟨_, _, rfl, rfl⟩
    | true =>
      have h0 : slot < 0 := by rcases hn with h | h; rw [hf] at h; cases h; exact h
      repeat' (first | (apply VL_buildSlice0 T; exact rfl; exact rfl; intro g5) | ((first | apply VL_callt en58 | apply VL_callq en58); (repeat (first | exact args_nil | (apply args_cons; exact rfl))); exact rfl; exact fun _ hw => (calls_val (congrArg Value.bool hf) (fun _ hw => rformed_spec s hr.cons.cons hl hw) hw)) | apply (zs1 ?_) | apply (zs2 ?_) | (apply zg1; refine zs4 ?_) | (apply zg3; refine zs8 ?_) | (apply zg6; refine zs12 ?_) | (apply (zs17 ?_ ?_) <;> intro _ <;> try (exfalso; omega)) | (apply zg20; refine zs47 ?_) | (apply zg23; (refine zs52 ?_; intro _)) | apply (zs65 ?_) | apply (zs68 ?_) | apply (zs69 ?_) | apply (zs70 ?_) | (apply zg27; refine zs71 ?_) | apply (zs74 ?_) | apply (zs77 ?_) | fail)
      apply VQ_st (cels (some ⟨g5, 0, none⟩) 0 [] :: H)
      · unfold cels
        simp only [List.length_nil, List.flatMap_nil]
        (intro w hw; refine hw.perm ?_; focus repeat (first | with_reducible exact Perm.refl _ | (with_reducible apply perm_take; focus ((repeat (first | with_reducible exact rem_here | with_reducible apply rem_there)); done)) | with_reducible apply Perm.dropK))
      apply VQ_ret1; exact rfl; exact rfl
      exact ⟨_, _, rfl, rfl⟩
  have hf : formE s.sch = true := by
    cases h : formE s.sch with
    | true => rfl
    | false => exact absurd (.inl h) hn
  have h0 : 0 ≤ slot := by omega
  have hfr := form_iff.1 hf
  have hsz := of_decide_eq_true hfr.sized
  have hsl : 1 ≤ s.len ∧ s.len ≤ 512 := ⟨hsz.1, hsz.2.1⟩
  have hle : s.cells.length ≤ 512 := hfr.few
  obtain ⟨tz, hto⟩ : ∃ tz, slot % s.len = tz := ⟨_, rfl⟩
  have hat : atE s.sch slot = s.cells.filter fun c => decide (c.1 = tz) := by
    rw [atE, if_neg hn, ← hto, ← Int.tmod_eq_emod_of_nonneg h0]; rfl
  rw [hat]
  repeat' (first | (apply VL_buildSlice0 T; exact rfl; exact rfl; intro g5) | ((first | apply VL_callt en58 | apply VL_callq en58); (repeat (first | exact args_nil | (apply args_cons; exact rfl))); exact rfl; exact fun _ hw => (calls_val (congrArg Value.bool hf) (fun _ hw => rformed_spec s hr.cons.cons hl hw) hw)) | apply (zs1 ?_) | apply (zs2 ?_) | (apply zg1; refine zs4 ?_) | (apply zg3; refine zs8 ?_) | (apply zg6; refine zs12 ?_) | (apply (zs17 ?_ ?_) <;> intro _ <;> try (exfalso; omega)) | (apply zg20; refine zs47 ?_) | (apply zg23; (refine zs52 ?_; intro _)) | apply (zs65 ?_) | apply (zs68 ?_) | apply (zs69 ?_) | apply (zs70 ?_) | (apply zg27; refine zs72 ?_) | apply (zs73 ?_) | apply (zs76 ?_) | fail)
  rename_i gs _
  refine VC_loop1 (fun (z : Nat × Option Addr × Nat) => [(6, .int .i64 z.1), (2, .pointer (some ⟨gs, 0, none⟩)), (1, .int .i64 slot), (5, .slice z.2.1 ((s.cells.take z.1).filter fun c => decide (c.1 = tz)).length z.2.2)]) (fun z => cels z.2.1 z.2.2 ((s.cells.take z.1).filter fun c => decide (c.1 = tz)) :: blk gs (.cells #[.int .i64 s.len, .int .i64 s.off, .slice s.A s.cells.length s.cap] 30 (0, 0)) :: H) (fun z => z.1 ≤ s.cells.length) (fun z => s.cells.length - z.1) (0, some ⟨g5, 0, none⟩, 0) (Nat.zero_le _) ?_ (fun w hw => hw) ?_
  · (repeat (first | exact sub_nil _ | (apply sub_cons; first | exact rfl | exact congrArg (fun z : Int => some (Value.int .i64 z)) (by omega))))
  rintro ⟨i, A, cap⟩ hi K hK
  dsimp only at hi ⊢
  have hr := (hr.cons (X := blk gs (.cells #[.int .i64 s.len, .int .i64 s.off, .slice s.A s.cells.length s.cap] 30 (0, 0)))).cons (X := cels A cap ((s.cells.take i).filter fun c => decide (c.1 = tz)))
  have hfl := filter_le (p := fun c : Cel => decide (c.1 = tz)) (l := s.cells) (i := i)
  by_cases hlt : i < s.cells.length
  · have hget : s.cells[i]? = some (celAt s.sch i) := celAt_some (s := s.sch) hlt
    have hfs := filter_snoc (p := fun c : Cel => decide (c.1 = tz)) hget
    by_cases hc : (celAt s.sch i).1 = tz
    · rw [if_pos (decide_eq_true hc)] at hfs
      obtain ⟨M, hM⟩ : ∃ M, (s.cells.take i).filter (fun c => decide (c.1 = tz)) = M := ⟨_, rfl⟩
      rw [hM] at hfs hfl hr ⊢
      unfold cels at hr ⊢
      repeat' (first | apply (zs1 ?_) | apply (zs2 ?_) | (apply zg2; first | refine zs6 ?_ | refine zs58 ?_) | (apply zg3; first | refine zs7 ?_ | refine zs59 ?_ | refine zs61 ?_) | (apply zg4; refine zs9 ?_) | (apply zg5; refine zs57 ?_) | (apply zg7; (refine zs15 ?_ ?_ <;> intro _ <;> try (exfalso; omega))) | (apply (zs17 ?_ ?_) <;> intro _ <;> try (exfalso; omega)) | (apply zg13; refine zs30 ?_) | (apply zg17; refine zs37 ?_) | (apply zg21; (refine zs49 ?_; intro _ _)) | (apply zg26; (refine zs56 ?_; intro _)) | apply (zs65 ?_) | apply (zs66 ?_) | apply (zs68 ?_) | apply (zs69 ?_) | apply (zs70 ?_) | (apply zg27; refine zs71 ?_) | apply (zs73 ?_) | apply (zs76 ?_) | apply (zs79 ?_) | (apply zg28; refine zs83 ?_) | fail)
      rename_i A' cap'
      apply hK (i + 1, A', cap')
      · show i + 1 ≤ _
        omega
      · show _ - (i + 1) < _ - i
        omega
      · dsimp only
        rw [hfs, List.length_append]
        (repeat (first | exact sub_nil _ | (apply sub_cons; first | exact rfl | exact congrArg (fun z : Int => some (Value.int .i64 z)) (by omega))))
      · intro w hw
        dsimp only
        rw [hfs]
        have e6 := cels_snocR A' cap' M (celAt s.sch i)
        rw [e6] at hw
        revert w
        (intro w hw; refine hw.perm ?_; focus repeat (first | with_reducible exact Perm.refl _ | (with_reducible apply perm_take; focus ((repeat (first | with_reducible exact rem_here | with_reducible apply rem_there)); done)) | with_reducible apply Perm.dropK))
    · rw [if_neg (by simpa using hc), List.append_nil] at hfs
      unfold cels at hr
      repeat' (first | apply (zs1 ?_) | apply (zs2 ?_) | (apply zg2; first | refine zs6 ?_ | refine zs58 ?_) | (apply zg3; first | refine zs7 ?_ | refine zs59 ?_) | (apply zg4; refine zs9 ?_) | (apply zg5; refine zs57 ?_) | (apply zg7; (refine zs15 ?_ ?_ <;> intro _ <;> try (exfalso; omega))) | (apply (zs17 ?_ ?_) <;> intro _ <;> try (exfalso; omega)) | (apply zg13; refine zs30 ?_) | (apply zg17; refine zs37 ?_) | apply (zs65 ?_) | apply (zs66 ?_) | apply (zs68 ?_) | apply (zs69 ?_) | apply (zs70 ?_) | (apply zg27; first | refine zs71 ?_ | refine zs72 ?_) | apply (zs73 ?_) | apply (zs76 ?_) | apply (zs79 ?_) | (apply zg28; refine zs83 ?_) | fail)
      apply hK (i + 1, A, cap)
      · show i + 1 ≤ _
        omega
      · show _ - (i + 1) < _ - i
        omega
      · dsimp only
        rw [hfs]
        (repeat (first | exact sub_nil _ | (apply sub_cons; first | exact rfl | exact congrArg (fun z : Int => some (Value.int .i64 z)) (by omega))))
      · intro w hw
        dsimp only
        rw [hfs]
        exact hw
  · repeat' (first | apply (zs1 ?_) | apply (zs2 ?_) | (apply zg2; refine zs6 ?_) | (apply zg3; refine zs7 ?_) | (apply zg4; refine zs9 ?_) | (apply (zs17 ?_ ?_) <;> intro _ <;> try (exfalso; omega)) | apply (zs65 ?_) | apply (zs68 ?_) | apply (zs69 ?_) | apply (zs70 ?_) | (apply zg27; refine zs72 ?_) | apply (zs74 ?_) | apply (zs75 ?_) | apply (zs80 ?_) | apply (zs81 ?_) | fail)
    have hie : i = s.cells.length := by omega
    rw [hie, List.take_length]
    apply VQ_st (cels A cap (s.cells.filter fun c => decide (c.1 = tz)) :: H)
    · (intro w hw; refine hw.perm ?_; focus repeat (first | with_reducible exact Perm.refl _ | (with_reducible apply perm_take; focus ((repeat (first | with_reducible exact rem_here | with_reducible apply rem_there)); done)) | with_reducible apply Perm.dropK))
    apply VQ_ret1; exact rfl; exact rfl
    exact ⟨A, cap, rfl, rfl⟩
end Go.Proofs.YtnkpfpgmbpnbgaaGreatDoor

/- Walks: slices.DeleteFunc of cells; only, Differ. -/
namespace Go.Proofs.YtnkpfpgmbpnbgaaGreatDoor
open Go.RowKit Go.Eng Go.Nw

theorem idxC_first {α : Type} (p : α → Bool) : ∀ (l : List α) (k : Int), (l.filter (fun a => !p a) = l ∧ idxFrom p l k = -1) ∨ ∃ j, j < l.length ∧ idxFrom p l k = k + j ∧ (l.take j).filter (fun a => !p a) = l.take j ∧ ∃ a, l[j]? = some a ∧ p a = true
  | [], _ => .inl ⟨rfl, rfl⟩
  | a :: l, k => by
    unfold idxFrom
    cases h : p a with
    | true => exact .inr ⟨0, by simp, by simp, rfl, a, rfl, h⟩
    | false =>
      rw [if_neg (by decide)]
      have hn : (!p a) = true := by rw [h]; rfl
      rcases idxC_first p l (k + 1) with ⟨h1, h2⟩ | ⟨j, h1, h2, h3, b, h4, h5⟩
      · exact .inl ⟨by rw [List.filter_cons, if_pos hn, h1], h2⟩
      · refine .inr ⟨j + 1, by simp only [List.length_cons]; omega, by rw [h2]; omega, ?_, b, h4, h5⟩
        rw [List.take_succ_cons, List.filter_cons, if_pos hn, h3]
theorem indexFuncC (p : Cel → Bool) (l : List Cel) (f : Nat) (cs : List Value) (hen : ∀ xs w, (callFunc f xs).run Tryz.prog w = .ok (.enter f xs) w) (hlen : l.length ≤ 1000) {A : Option Addr} {cap B : Nat} {w0 : World} {H : List HP} {w : World} (hr : Rd B w0 H A (l.flatMap celF))
    (hp : ∀ a ∈ l, ∀ w, St B w0 H w → Calls Tryz.prog f ([celV a] ++ cs).toArray w (Post B w0 fun v K => v = .bool (p a) ∧ K = H)) (hw : St B w0 H w) :
    Calls Tryz.prog 143 [.slice A l.length cap, .func (.func f) #[] cs.toArray].toArray w (Post B w0 fun v K => v = .int .i64 (idxFrom p l 0) ∧ K = H) := by
  refine Calls_of_VC Tryz.func143 Tryz.ntmps143 rfl rfl hw ?_
  repeat' (first | apply (zs1 ?_) | apply (zs2 ?_) | (apply zg4; refine zs9 ?_) | apply (zs65 ?_) | apply (zs68 ?_) | apply (zs69 ?_) | apply (zs70 ?_) | apply (zs73 ?_) | fail)
  refine VC_loop1 (fun (k : Nat) => [(8, .int .i64 k), (7, .int .i64 l.length), (0, .slice A l.length cap), (1, .func (.func f) #[] cs.toArray)]) (fun _ => H) (fun k => k ≤ l.length ∧ idxFrom p l 0 = idxFrom p (l.drop k) k) (fun k => l.length - k) 0 ⟨Nat.zero_le _, by simp⟩ ?_ (fun w hw => hw) ?_
  · (repeat (first | exact sub_nil _ | (apply sub_cons; first | exact rfl | exact congrArg (fun z : Int => some (Value.int .i64 z)) (by omega))))
  rintro k ⟨hk, hi⟩ K hK
  by_cases hlt : k < l.length
  · obtain ⟨a, ha⟩ : ∃ a, l[k]? = some a := ⟨_, List.getElem?_eq_getElem hlt⟩
    have hpa := hp a (List.mem_of_getElem? ha)
    rw [idx_drop p l ha] at hi
    repeat' (first | ((first | apply VL_callvt (cs := cs)); exact rfl; exact hen; (repeat (first | exact args_nil | (apply args_cons; exact rfl))); exact rfl; exact fun _ hw => hpa _ hw) | apply (zs1 ?_) | apply (zs2 ?_) | (apply zg3; refine zs61 ?_) | (apply zg5; refine zs57 ?_) | (apply (zs17 ?_ ?_) <;> intro _ <;> try (exfalso; omega)) | apply (zs65 ?_) | apply (zs68 ?_) | apply (zs69 ?_) | apply (zs70 ?_) | (apply zg27; refine zs71 ?_) | apply (zs73 ?_) | apply (zs76 ?_) | fail)
    cases hpv : p a
    · rw [hpv] at hi
      repeat' (first | apply (zs1 ?_) | (apply zg13; refine zs30 ?_) | apply (zs65 ?_) | apply (zs68 ?_) | apply (zs70 ?_) | (apply zg27; refine zs72 ?_) | apply (zs76 ?_) | apply (zs79 ?_) | fail)
      apply hK (k + 1)
      · exact ⟨by omega, hi⟩
      · omega
      · (repeat (first | exact sub_nil _ | (apply sub_cons; first | exact rfl | exact congrArg (fun z : Int => some (Value.int .i64 z)) (by omega))))
      · exact fun w hw => hw
    · rw [hpv] at hi
      repeat' (first | apply (zs1 ?_) | apply (zs2 ?_) | apply (zs65 ?_) | apply (zs68 ?_) | apply (zs69 ?_) | apply (zs70 ?_) | (apply zg27; refine zs71 ?_) | apply (zs74 ?_) | apply (zs77 ?_) | apply (zs78 ?_) | fail)
      apply VQ_ret1; exact rfl; exact rfl
      exact ⟨by rw [hi]; rfl, rfl⟩
  · repeat' (first | apply (zs2 ?_) | (apply (zs17 ?_ ?_) <;> intro _ <;> try (exfalso; omega)) | apply (zs65 ?_) | apply (zs68 ?_) | apply (zs69 ?_) | apply (zs70 ?_) | (apply zg27; refine zs72 ?_) | apply (zs74 ?_) | apply (zs75 ?_) | apply (zs80 ?_) | apply (zs81 ?_) | fail)
    apply VQ_ret1; exact rfl; exact rfl
    rw [hi, List.drop_eq_nil_of_le (by omega)]
    exact ⟨rfl, rfl⟩

structure Kc where
  i : Nat
  j : Nat
  M : List Cel
set_option maxRecDepth 10000 in
set_option maxHeartbeats 1000000 in
theorem deleteFuncC (p : Cel → Bool) (l : List Cel) (f : Nat) (cs : List Value) (hen : ∀ xs w, (callFunc f xs).run Tryz.prog w = .ok (.enter f xs) w) (hlen : l.length ≤ 1000) {A : Option Addr} {cap B : Nat} {w0 : World} {H : List HP} {w : World}
    (hp : ∀ a ∈ l, ∀ (X : List HP) w, St B w0 (X ++ H) w → Calls Tryz.prog f ([celV a] ++ cs).toArray w (Post B w0 fun v K => v = .bool (p a) ∧ K = X ++ H)) (hw : St B w0 (cels A cap l :: H) w) :
    Calls Tryz.prog 108 [.slice A l.length cap, .func (.func f) #[] cs.toArray].toArray w (Post B w0 fun v K => v = .slice A (l.filter fun a => !p a).length cap ∧ K = cels A cap (l.filter fun a => !p a) :: H) := by
  refine Calls_of_VC Tryz.func108 Tryz.ntmps108 rfl rfl hw ?_
  refine VC_capC (e := 51) (size := 5) (A := A) (xs := l.flatMap celF) (k := l.length) (cap := cap) List.mem_cons_self fun hcap => ?_
  have hif := fun {w : World} (hw : St B w0 (cels A cap l :: H) w) => indexFuncC p l f cs hen hlen (cap := cap) (.sl List.mem_cons_self) (fun a ha w hw => hp a ha [cels A cap l] w hw) hw
  rcases idxC_first p l 0 with ⟨h1, h2⟩ | ⟨i0, h1, h2, h3, a0, h4, h5⟩
  · rw [h2] at hif
    rw [h1]
    repeat' (first | ((first | apply VL_callt en143 | apply VL_callq en143); (repeat (first | exact args_nil | (apply args_cons; exact rfl))); exact rfl; exact fun _ hw => (hif hw)) | apply (zs1 ?_) | apply (zs2 ?_) | (apply zg7; (refine zs15 ?_ ?_ <;> intro _ <;> try (exfalso; omega))) | apply (zs65 ?_) | apply (zs68 ?_) | apply (zs69 ?_) | apply (zs70 ?_) | (apply zg27; refine zs71 ?_) | apply (zs74 ?_) | apply (zs77 ?_) | fail)
    apply VQ_ret1; exact rfl; exact rfl; exact ⟨rfl, rfl⟩
  rw [h2, Int.zero_add] at hif
  repeat' (first | ((first | apply VL_callt en143 | apply VL_callq en143); (repeat (first | exact args_nil | (apply args_cons; exact rfl))); exact rfl; exact fun _ hw => (hif hw)) | apply (zs1 ?_) | apply (zs2 ?_) | (apply zg7; (refine zs15 ?_ ?_ <;> intro _ <;> try (exfalso; omega))) | (apply zg13; refine zs30 ?_) | apply (zs65 ?_) | apply (zs68 ?_) | apply (zs69 ?_) | apply (zs70 ?_) | (apply zg27; refine zs72 ?_) | apply (zs73 ?_) | apply (zs76 ?_) | fail)
  refine VC_loop1 (fun (z : Kc) => [(6, .int .i64 z.j), (5, .int .i64 z.i), (0, .slice A z.M.length cap), (1, .func (.func f) #[] cs.toArray)]) (fun z => cels A cap z.M :: H) (fun z => z.M.length = l.length ∧ z.i < z.j ∧ z.j ≤ l.length ∧ z.M.take z.i = (l.take z.j).filter (fun a => !p a) ∧ z.M.drop z.j = l.drop z.j) (fun z => l.length - z.j) ⟨i0, i0 + 1, l⟩ ⟨rfl, by simp only; omega, by simp only; omega, ?_, rfl⟩ ?_ (fun w hw => hw) ?_
  · simp only
    rw [List.take_add_one, h4, List.filter_append, h3]
    simp [h5]
  · (repeat (first | exact sub_nil _ | (apply sub_cons; first | exact rfl | exact congrArg (fun z : Int => some (Value.int .i64 z)) (by omega))))
  rintro ⟨i, j, M⟩ ⟨hM, hij, hj, ht, hd⟩ K hK
  simp only at hM hij hj ht hd ⊢
  unfold cels
  by_cases hlt : j < l.length
  · obtain ⟨a, ha⟩ : ∃ a, l[j]? = some a := ⟨_, List.getElem?_eq_getElem hlt⟩
    have hMa : M[j]? = some a := by
      have e1 : (M.drop j)[0]? = (l.drop j)[0]? := by rw [hd]
      rw [List.getElem?_drop, List.getElem?_drop, Nat.add_zero, ha] at e1
      exact e1
    have hpa := fun {X1 X2 : HP} {w : World} (hw : St B w0 (X1 :: X2 :: H) w) => hp a (List.mem_of_getElem? ha) [X1, X2] w hw
    have hft : (l.take (j + 1)).filter (fun a => !p a) = M.take i ++ (if p a = true then [] else [a]) := by
      rw [List.take_add_one, ha, List.filter_append, ht]
      cases hpv : p a <;> simp [hpv]
    obtain ⟨b, hb⟩ : ∃ b, p a = b := ⟨_, rfl⟩
    rw [hb] at hft hpa
    have hd1 : ∀ x : Cel, (M.set i x).drop (j + 1) = l.drop (j + 1) := fun x => by
      rw [List.drop_set_of_lt (by omega), ← List.drop_drop, ← List.drop_drop, hd]
    cases b with
    | true =>
      rw [if_pos rfl, List.append_nil] at hft
      repeat' (first | ((first | apply VL_callvt (cs := cs)); exact rfl; exact hen; (repeat (first | exact args_nil | (apply args_cons; exact rfl))); exact rfl; exact fun _ hw => hpa hw) | apply (zs1 ?_) | apply (zs2 ?_) | (apply zg3; first | refine zs8 ?_ | refine zs61 ?_) | (apply zg4; refine zs9 ?_) | (apply zg5; refine zs10 ?_) | (apply (zs17 ?_ ?_) <;> intro _ <;> try (exfalso; omega)) | (apply zg13; refine zs30 ?_) | (apply zg20; refine zs47 ?_) | (apply zg22; refine zs51 ?_) | (apply zg24; (refine zs54 ?_; intro _)) | apply (zs65 ?_) | apply (zs68 ?_) | apply (zs69 ?_) | apply (zs70 ?_) | (apply zg27; first | refine zs71 ?_ | refine zs72 ?_) | apply (zs73 ?_) | apply (zs76 ?_) | apply (zs79 ?_) | fail)
      apply hK ⟨i, j + 1, M⟩
      · exact ⟨hM, by simp only; omega, by simp only; omega, hft.symm, by simp only; rw [← List.drop_drop, ← List.drop_drop, hd]⟩
      · simp only; omega
      · (repeat (first | exact sub_nil _ | (apply sub_cons; first | exact rfl | exact congrArg (fun z : Int => some (Value.int .i64 z)) (by omega))))
      · exact fun w hw => hw.tail
    | false =>
      rw [if_neg (by decide)] at hft
      have hMl : (M.set i a).length = M.length := List.length_set
      repeat' (first | ((first | apply VL_callvt (cs := cs)); exact rfl; exact hen; (repeat (first | exact args_nil | (apply args_cons; exact rfl))); exact rfl; exact fun _ hw => hpa hw) | (apply VL_store_elem T (f := celF) (l := M) (i := i) (a := a); exact rfl; exact rfl; exact rfl; (repeat (first | with_reducible exact Upd.here _ | with_reducible apply Upd.there)); exact fun _ => rfl; exact rfl; exact rfl; exact rfl; omega) | apply (zs1 ?_) | apply (zs2 ?_) | (apply zg3; first | refine zs8 ?_ | refine zs61 ?_) | (apply zg4; refine zs9 ?_) | (apply zg5; refine zs10 ?_) | (apply (zs17 ?_ ?_) <;> intro _ <;> try (exfalso; omega)) | (apply zg13; refine zs30 ?_) | (apply zg20; refine zs48 ?_) | (apply zg22; refine zs51 ?_) | (apply zg24; (refine zs54 ?_; intro _)) | apply (zs65 ?_) | apply (zs68 ?_) | apply (zs69 ?_) | apply (zs70 ?_) | (apply zg27; refine zs71 ?_) | apply (zs73 ?_) | apply (zs76 ?_) | apply (zs79 ?_) | fail)
      apply hK ⟨i + 1, j + 1, M.set i a⟩
      · refine ⟨by simp only; omega, by simp only; omega, by simp only; omega, ?_, hd1 a⟩
        simp only
        rw [hft, List.take_add_one, List.getElem?_set_self (by omega), List.take_set_of_le (Nat.le_refl _)]
        rfl
      · simp only; omega
      · dsimp only
        rw [hMl]
        (repeat (first | exact sub_nil _ | (apply sub_cons; first | exact rfl | exact congrArg (fun z : Int => some (Value.int .i64 z)) (by omega))))
      · unfold cels
        dsimp only
        rw [hMl]
        exact fun w hw => hw.tail
  · obtain rfl : j = l.length := by omega
    clear hK
    rw [List.take_length] at ht
    have hil : (l.filter fun a => !p a).length = i := by rw [← ht, List.length_take]; omega
    have hfl : (M.flatMap celF).take (i * 5) = (l.filter fun a => !p a).flatMap celF := by rw [← flat_take (q := 5) (fun _ => rfl), ht]
    repeat' (first | (apply VL_slice_lo T (n' := M.length - i); exact rfl; exact rfl; exact rfl; exact rfl; omega; omega) | apply (zs1 ?_) | (apply zg4; refine zs9 ?_) | (apply (zs17 ?_ ?_) <;> intro _ <;> try (exfalso; omega)) | apply (zs65 ?_) | apply (zs68 ?_) | apply (zs69 ?_) | apply (zs70 ?_) | (apply zg27; refine zs72 ?_) | apply (zs75 ?_) | apply (zs80 ?_) | apply (zs81 ?_) | fail)
    rw [Int.toNat_natCast]
    apply VL_st (sl 51 5 A i cap ((l.filter fun a => !p a).flatMap celF) :: H)
    · intro w hw
      refine hw.shrink (e := 51) (size := 5) (cap := cap) (A := A) (xs := M.flatMap celF) (k := M.length) (k' := i) (by omega) ?_
      rw [hfl]
      exact Upd.here _
    apply VL_clear T T2 (e := 51) (size := 5) (k := i) (xs := (l.filter fun a => !p a).flatMap celF); exact rfl; exact List.mem_cons_self; exact rfl; exact rfl; exact rfl; omega
    repeat' (first | (apply VL_slice_hi_rd T (l := M) (n' := i); exact rfl; exact rfl; exact rfl; exact rfl; omega; omega; omega) | apply (zs1 ?_) | apply (zs2 ?_) | apply (zs65 ?_) | apply (zs68 ?_) | apply (zs69 ?_) | apply (zs70 ?_) | apply (zs74 ?_) | fail)
    rw [subA_zeroC]
    repeat' (first | fail)
    apply VQ_ret1; exact rfl; exact rfl
    exact ⟨by rw [hil], by rw [hil]⟩

theorem rd_apps {B : Nat} {w0 : World} {H : List HP} {A : Option Addr} {xs : List Value} (h : Rd B w0 H A xs) : ∀ X : List HP, Rd B w0 (X ++ H) A xs
  | [] => h
  | _ :: X => (rd_apps h X).cons
theorem only1_spec (b : SchM) (c : Cel) (gb : Nat) (hl : b.cells.length ≤ 1000000000000) {B : Nat} {w0 : World} {H : List HP} {w : World} (hb : blk gb (.cells #[.int .i64 b.len, .int .i64 b.off, .slice b.A b.cells.length b.cap] 30 (0, 0)) ∈ H) (hr : Rd B w0 H b.A (b.cells.flatMap celF)) (hw : St B w0 H w) :
    Calls Tryz.prog 109 [celV c, .pointer (some ⟨gb, 0, none⟩)].toArray w (Post B w0 fun v K => v = .bool (decide (c ∈ b.cells)) ∧ K = H) := by
  refine Calls_of_VC Tryz.func109 Tryz.ntmps109 rfl rfl hw ?_
  repeat' (first | ((first | apply VL_callt en36 | apply VL_callq en36); (repeat (first | exact args_nil | (apply args_cons; exact rfl))); exact rfl; exact fun _ hw => (contains_cels b.cells c hl hr.cons hw)) | apply (zs2 ?_) | (apply zg2; refine zs6 ?_) | (apply zg3; first | refine zs7 ?_ | refine zs8 ?_) | (apply zg23; (refine zs52 ?_; intro _)) | apply (zs65 ?_) | apply (zs68 ?_) | apply (zs69 ?_) | apply (zs70 ?_) | apply (zs74 ?_) | fail)
  apply VQ_tail; apply VQ_ret1; exact rfl; exact rfl; exact ⟨rfl, rfl⟩
set_option maxRecDepth 10000 in
set_option maxHeartbeats 1000000 in
theorem only_spec (a b : SchM) (hla : a.cells.length ≤ 1000) (hl : b.cells.length ≤ 1000000000000) {B : Nat} {w0 : World} {H : List HP} {w : World} (hr : Rd B w0 H a.A (a.cells.flatMap celF)) (hr2 : Rd B w0 H b.A (b.cells.flatMap celF)) (hw : St B w0 H w) :
    Calls Tryz.prog 77 [a.val, b.val].toArray w (Post B w0 fun v K => ∃ A cap, v = .slice A (onlyE a.sch b.sch).length cap ∧ K = cels A cap (onlyE a.sch b.sch) :: H) := by
  refine Calls_of_VC Tryz.func77 Tryz.ntmps77 rfl rfl hw ?_
  repeat' (first | apply (zs2 ?_) | (apply zg2; refine zs6 ?_) | (apply zg3; refine zs7 ?_) | (apply zg23; (refine zs52 ?_; intro _)) | apply (zs65 ?_) | apply (zs68 ?_) | apply (zs69 ?_) | apply (zs70 ?_) | fail)
  rename_i ga gb
  apply VL_call _ en70
  (repeat (first | exact args_nil | (apply args_cons; exact rfl)))
  exact rfl
  exact fun _ hw => (cloneC_spec a.cells (by omega) hr.cons.cons (hw))
  rintro _ _ ⟨A', cap', rfl, rfl⟩
  repeat' (first | (apply zg29; (apply VL_makeFunc; (repeat (first | exact args_nil | (apply args_cons; exact rfl))) ; exact rfl)) | fail)
  apply VL_call _ en108
  (repeat (first | exact args_nil | (apply args_cons; exact rfl)))
  exact rfl
  exact fun _ hw => (deleteFuncC (fun c => decide (c ∈ b.cells)) a.cells 109 [.pointer (some ⟨gb, 0, none⟩)] en109 hla (fun c _ X w hw => only1_spec b c gb hl (List.mem_append_right _ (by (focus repeat (first | with_reducible exact List.mem_cons_self | with_reducible apply List.mem_cons_of_mem | assumption)))) (rd_apps hr2.cons.cons X) hw) (hw))
  rintro _ _ ⟨rfl, rfl⟩
  have e : a.cells.filter (fun c => !decide (c ∈ b.cells)) = onlyE a.sch b.sch := List.filter_congr fun c _ => by
    show (!decide (c ∈ b.cells)) = decide (c ∉ b.cells)
    by_cases h : c ∈ b.cells <;> simp [h]
  rw [e]
  repeat' (first | apply (zs2 ?_) | apply (zs65 ?_) | apply (zs68 ?_) | apply (zs74 ?_) | fail)
  apply VQ_st (cels A' cap' (onlyE a.sch b.sch) :: H)
  · (intro w hw; refine hw.perm ?_; focus repeat (first | with_reducible exact Perm.refl _ | (with_reducible apply perm_take; focus ((repeat (first | with_reducible exact rem_here | with_reducible apply rem_there)); done)) | with_reducible apply Perm.dropK))
  apply VQ_ret1; exact rfl; exact rfl
  exact ⟨A', cap', rfl, rfl⟩
def OutD (H : List HP) (R : (List Cel × List Cel) × Int) (v : Value) (K : List HP) : Prop := ∃ A cap A2 cap2, v = .tuple #[.slice A R.1.1.length cap, .slice A2 R.1.2.length cap2, .int .i64 R.2] ∧ K = cels A2 cap2 R.1.2 :: cels A cap R.1.1 :: H
theorem only_len (a b : Sch) : (onlyE a b).length ≤ a.cells.length := List.length_filter_le _ _
set_option maxRecDepth 10000 in
set_option maxHeartbeats 1000000 in
theorem differ_spec (a b : SchM) (hla : a.cells.length ≤ 1000) (hlb : b.cells.length ≤ 1000) {B : Nat} {w0 : World} {H : List HP} {w : World} (hr : Rd B w0 H a.A (a.cells.flatMap celF)) (hr2 : Rd B w0 H b.A (b.cells.flatMap celF)) (hw : St B w0 H w) :
    Calls Tryz.prog 31 [a.val, b.val].toArray w (Post B w0 (OutD H (difE a.sch b.sch))) := by
  refine Calls_of_VC Tryz.func31 Tryz.ntmps31 rfl rfl hw ?_
  have e1 : a.sch.len = a.len := rfl
  have e2 : b.sch.len = b.len := rfl
  have e3 : a.sch.off = a.off := rfl
  have e4 : b.sch.off = b.off := rfl
  have ha := fun {H' : List HP} {w : World} (hr : Rd B w0 H' a.A (a.cells.flatMap celF)) (hw : St B w0 H' w) => form_spec a hr (by omega) hw
  have hb := fun {H' : List HP} {w : World} (hr : Rd B w0 H' b.A (b.cells.flatMap celF)) (hw : St B w0 H' w) => form_spec b hr (by omega) hw
  cases hfa : formE a.sch with
  | false =>
    rw [hfa] at ha
    repeat' (first | ((first | apply VL_callt en53 | apply VL_callq en53); (repeat (first | exact args_nil | (apply args_cons; exact rfl))); exact rfl; exact fun _ hw => (ha hr.cons.cons hw)) | apply (zs1 ?_) | apply (zs2 ?_) | (apply zg1; refine zs3 ?_) | (apply zg3; refine zs8 ?_) | (apply zg6; refine zs11 ?_) | (apply zg20; refine zs48 ?_) | (apply zg23; (refine zs52 ?_; intro _)) | apply (zs65 ?_) | apply (zs68 ?_) | apply (zs69 ?_) | apply (zs70 ?_) | (apply zg27; refine zs71 ?_) | apply (zs74 ?_) | apply (zs77 ?_) | fail)
    apply VQ_st (cels none 0 [] :: cels none 0 [] :: H)
    · intro w hw
      refine St.nilSlice (H := cels none 0 [] :: H) (St.nilSlice (H := H) ?_ _ _) _ _
      revert w
      (intro w hw; refine hw.perm ?_; focus repeat (first | with_reducible exact Perm.refl _ | (with_reducible apply perm_take; focus ((repeat (first | with_reducible exact rem_here | with_reducible apply rem_there)); done)) | with_reducible apply Perm.dropK))
    apply VQ_ret3; exact rfl; exact rfl; exact rfl; exact rfl
    rw [difE, if_pos (.inl hfa)]
    exact ⟨none, 0, none, 0, rfl, rfl⟩
  | true =>
  rw [hfa] at ha
  cases hfb : formE b.sch with
  | false =>
    rw [hfb] at hb
    repeat' (first | apply (zs2 ?_) | (apply zg3; refine zs8 ?_) | (apply zg23; (refine zs52 ?_; intro _)) | apply (zs65 ?_) | apply (zs68 ?_) | apply (zs69 ?_) | apply (zs70 ?_) | fail)
    first | apply VL_callt en53 | apply VL_callq en53
    (repeat (first | exact args_nil | (apply args_cons; exact rfl)))
    exact rfl
    exact fun _ hw => (ha hr.cons.cons hw)
    repeat' (first | apply (zs1 ?_) | (apply zg1; refine zs4 ?_) | (apply zg3; refine zs8 ?_) | (apply zg20; refine zs47 ?_) | fail)
    first | apply VL_callt en53 | apply VL_callq en53
    (repeat (first | exact args_nil | (apply args_cons; exact rfl)))
    exact rfl
    exact fun _ hw => (hb hr2.cons.cons hw)
    repeat' (first | apply (zs2 ?_) | (apply zg1; refine zs4 ?_) | (apply zg6; refine zs12 ?_) | (apply zg20; refine zs48 ?_) | apply (zs65 ?_) | apply (zs68 ?_) | apply (zs69 ?_) | apply (zs70 ?_) | (apply zg27; refine zs71 ?_) | apply (zs74 ?_) | apply (zs77 ?_) | fail)
    apply VQ_st (cels none 0 [] :: cels none 0 [] :: H)
    · intro w hw
      refine St.nilSlice (H := cels none 0 [] :: H) (St.nilSlice (H := H) ?_ _ _) _ _
      revert w
      (intro w hw; refine hw.perm ?_; focus repeat (first | with_reducible exact Perm.refl _ | (with_reducible apply perm_take; focus ((repeat (first | with_reducible exact rem_here | with_reducible apply rem_there)); done)) | with_reducible apply Perm.dropK))
    apply VQ_ret3; exact rfl; exact rfl; exact rfl; exact rfl
    rw [difE, if_pos (.inr hfb)]
    exact ⟨none, 0, none, 0, rfl, rfl⟩
  | true =>
  rw [hfb] at hb
  have hno : ¬ (formE a.sch = false ∨ formE b.sch = false) := by rw [hfa, hfb]; simp
  by_cases hle : a.len ≠ b.len ∨ a.off ≠ b.off
  · have hres : difE a.sch b.sch = (([], []), 11) := by
      rw [difE, if_neg hno]
      exact if_pos hle
    rw [hres]
    repeat' (first | apply (zs2 ?_) | (apply zg3; refine zs8 ?_) | (apply zg23; (refine zs52 ?_; intro _)) | apply (zs65 ?_) | apply (zs68 ?_) | apply (zs69 ?_) | apply (zs70 ?_) | fail)
    first | apply VL_callt en53 | apply VL_callq en53
    (repeat (first | exact args_nil | (apply args_cons; exact rfl)))
    exact rfl
    exact fun _ hw => (ha hr.cons.cons hw)
    repeat' (first | apply (zs1 ?_) | (apply zg1; refine zs4 ?_) | (apply zg3; refine zs8 ?_) | (apply zg20; refine zs47 ?_) | fail)
    first | apply VL_callt en53 | apply VL_callq en53
    (repeat (first | exact args_nil | (apply args_cons; exact rfl)))
    exact rfl
    exact fun _ hw => (hb hr2.cons.cons hw)
    repeat' (first | apply (zs1 ?_) | apply (zs2 ?_) | (apply zg1; first | refine zs3 ?_ | refine zs4 ?_) | (apply zg2; refine zs6 ?_) | (apply zg3; refine zs7 ?_) | (apply zg6; first | refine zs11 ?_ | refine zs12 ?_) | (apply zg8; (refine zs16 ?_ ?_ <;> intro _ <;> try (exfalso; omega))) | (apply zg20; refine zs47 ?_) | apply (zs65 ?_) | apply (zs68 ?_) | apply (zs69 ?_) | apply (zs70 ?_) | (apply zg27; first | refine zs71 ?_ | refine zs72 ?_) | apply (zs74 ?_) | apply (zs76 ?_) | apply (zs77 ?_) | fail)
    all_goals (
      apply VQ_st (cels none 0 [] :: cels none 0 [] :: H)
      · intro w hw
        refine St.nilSlice (H := cels none 0 [] :: H) (St.nilSlice (H := H) ?_ _ _) _ _
        revert w
        (intro w hw; refine hw.perm ?_; focus repeat (first | with_reducible exact Perm.refl _ | (with_reducible apply perm_take; focus ((repeat (first | with_reducible exact rem_here | with_reducible apply rem_there)); done)) | with_reducible apply Perm.dropK))
      apply VQ_ret3; exact rfl; exact rfl; exact rfl; exact rfl
      exact ⟨none, 0, none, 0, rfl, rfl⟩)
  have hres : difE a.sch b.sch = ((onlyE a.sch b.sch, onlyE b.sch a.sch), 0) := by
    rw [difE, if_neg hno]
    exact if_neg hle
  rw [hres]
  have hrm : Rd B w0 [many H] a.A (a.cells.flatMap celF) := hr.tail
  have hrm2 : Rd B w0 [many H] b.A (b.cells.flatMap celF) := hr2.tail
  clear hr hr2
  refine VC_st [many H] (fun w hw => hw.perm (.closeT H)) ?_
  repeat' (first | apply (zs2 ?_) | (apply zg3; refine zs8 ?_) | (apply zg23; (refine zs52 ?_; intro _)) | apply (zs65 ?_) | apply (zs68 ?_) | apply (zs69 ?_) | apply (zs70 ?_) | fail)
  first | apply VL_callt en53 | apply VL_callq en53
  (repeat (first | exact args_nil | (apply args_cons; exact rfl)))
  exact rfl
  exact fun _ hw => (ha hrm.cons.cons hw)
  repeat' (first | apply (zs1 ?_) | (apply zg1; refine zs4 ?_) | (apply zg3; refine zs8 ?_) | (apply zg20; refine zs47 ?_) | fail)
  first | apply VL_callt en53 | apply VL_callq en53
  (repeat (first | exact args_nil | (apply args_cons; exact rfl)))
  exact rfl
  exact fun _ hw => (hb hrm2.cons.cons hw)
  repeat' (first | apply (zs1 ?_) | (apply zg1; refine zs4 ?_) | (apply zg2; refine zs6 ?_) | (apply zg3; refine zs7 ?_) | (apply zg6; refine zs12 ?_) | (apply zg8; (refine zs16 ?_ ?_ <;> intro _ <;> try (exfalso; omega))) | (apply zg20; refine zs47 ?_) | apply (zs65 ?_) | apply (zs68 ?_) | apply (zs69 ?_) | apply (zs70 ?_) | (apply zg27; refine zs72 ?_) | apply (zs76 ?_) | fail)
  apply VC_treeV (.p1 0 (.p1 1 (.p1 3 (.p1 4 (.d1 2 .done))))) [5, 6, 7, 8] [true, true, false]
  kernel_rfl
  kernel_rfl
  (repeat (first | with_reducible exact split_nil | with_reducible apply split_t | with_reducible apply split_f))
  (simp only [pickOps, nthO]; rfl)
  repeat' (first | (apply VV_p1; (simp only [nthO]; rfl)) | (apply VV_d1; (simp only [nthO]; rfl); (repeat (first | with_reducible exact app_nil | with_reducible apply app_cons | exact app_niln _))) | (apply VQ_treev; (repeat (first | with_reducible exact pull_nil | (with_reducible apply pull_cons; (repeat (first | with_reducible exact rem_here | with_reducible apply rem_there)))))) | (apply VV_done; (repeat (first | with_reducible exact app_nil | with_reducible apply app_cons | exact app_niln _))) | (apply zg3; refine zs8 ?_) | (apply VL_nilh; (repeat (first | with_reducible exact app_nil | with_reducible apply app_cons | exact app_niln _))) | fail)
  apply VL_call _ en77
  (repeat (first | exact args_nil | (apply args_cons; exact rfl)))
  exact rfl
  exact fun _ hw => (only_spec a b hla (by omega) (by (first | (focus (repeat (first | assumption | apply Rd.cons)); done) | exact Rd.sl (by (focus repeat (first | with_reducible exact List.mem_cons_self | with_reducible apply List.mem_cons_of_mem | assumption))))) (by (first | (focus (repeat (first | assumption | apply Rd.cons)); done) | exact Rd.sl (by (focus repeat (first | with_reducible exact List.mem_cons_self | with_reducible apply List.mem_cons_of_mem | assumption))))) (hw))
  rintro _ _ ⟨A1, cap1, rfl, rfl⟩
  repeat' (first | (apply VV_p1; (simp only [nthO]; rfl)) | (apply VV_d1; (simp only [nthO]; rfl); (repeat (first | with_reducible exact app_nil | with_reducible apply app_cons | exact app_niln _))) | (apply VQ_treev; (repeat (first | with_reducible exact pull_nil | (with_reducible apply pull_cons; (repeat (first | with_reducible exact rem_here | with_reducible apply rem_there)))))) | (apply VV_done; (repeat (first | with_reducible exact app_nil | with_reducible apply app_cons | exact app_niln _))) | apply (zs65 ?_) | apply (zs93 ?_) | fail)
  apply VL_call _ en77
  (repeat (first | exact args_nil | (apply args_cons; exact rfl)))
  exact rfl
  exact fun _ hw => (only_spec b a hlb (by omega) (by (first | (focus (repeat (first | assumption | apply Rd.cons)); done) | exact Rd.sl (by (focus repeat (first | with_reducible exact List.mem_cons_self | with_reducible apply List.mem_cons_of_mem | assumption))))) (by (first | (focus (repeat (first | assumption | apply Rd.cons)); done) | exact Rd.sl (by (focus repeat (first | with_reducible exact List.mem_cons_self | with_reducible apply List.mem_cons_of_mem | assumption))))) (hw))
  rintro _ _ ⟨A2, cap2, rfl, rfl⟩
  repeat' (first | apply (zs2 ?_) | apply (zs65 ?_) | apply (zs68 ?_) | apply (zs74 ?_) | apply (zs94 ?_) | fail)
  apply VQ_st (cels A2 cap2 (onlyE b.sch a.sch) :: cels A1 cap1 (onlyE a.sch b.sch) :: H)
  · intro w hw
    have h5 : St B w0 (cels A2 cap2 (onlyE b.sch a.sch) :: cels A1 cap1 (onlyE a.sch b.sch) :: [many H]) w := by
      revert w
      (intro w hw; refine hw.perm ?_; focus repeat (first | with_reducible exact Perm.refl _ | (with_reducible apply perm_take; focus ((repeat (first | with_reducible exact rem_here | with_reducible apply rem_there)); done)) | with_reducible apply Perm.dropK))
    exact h5.perm (.cons _ (.cons _ (.openT H)))
  apply VQ_ret3; exact rfl; exact rfl; exact rfl; exact rfl
  exact ⟨A1, cap1, A2, cap2, rfl, rfl⟩
end Go.Proofs.YtnkpfpgmbpnbgaaGreatDoor

/- Walks: the reference's With, Less1, only, Add, Remove, Differ. -/
namespace Go.Proofs.YtnkpfpgmbpnbgaaGreatDoor
open Go.RowKit Go.Eng Go.Nw

def OutW (H : List HP) (s : SchM) (l : List Cel) (v : Value) (K : List HP) : Prop := ∃ A cap, v = .agg #[.int .i64 s.len, .int .i64 s.off, .slice A l.length cap] ∧ K = cels A cap l :: H
theorem drop_cel {s : SchM} {i : Nat} (h : i < s.cells.length) : s.cells.drop i = celAt s.sch i :: s.cells.drop (i + 1) := by
  have h1 := celAt_some (s := s.sch) (i := i) h
  obtain ⟨h2, h3⟩ := List.getElem?_eq_some_iff.1 h1
  rw [List.drop_eq_getElem_cons h]
  congr 1
set_option maxRecDepth 10000 in
set_option maxHeartbeats 2000000 in
theorem rwith_spec (s : SchM) (c : Cel) (hl : s.cells.length ≤ 1000) {B : Nat} {w0 : World} {H : List HP} {w : World} (hr : Rd B w0 H s.A (s.cells.flatMap celF)) (hw : St B w0 H w) :
    Calls Tryz.prog 75 [s.val, celV c].toArray w (Post B w0 (OutW H s (withE c s.cells))) := by
  refine Calls_of_VC Tryz.func75 Tryz.ntmps75 rfl rfl hw ?_
  have hr := hr.tail
  refine VC_st [many H] (fun w hw => hw.perm (.closeT H)) ?_
  repeat' (first | apply (zs2 ?_) | (apply zg2; refine zs6 ?_) | (apply zg3; refine zs7 ?_) | (apply zg22; refine zs51 ?_) | (apply zg23; (refine zs52 ?_; intro _)) | (apply zg24; (refine zs54 ?_; intro _)) | (apply zg25; refine zs55 ?_) | apply (zs65 ?_) | apply (zs68 ?_) | apply (zs69 ?_) | apply (zs70 ?_) | apply (zs73 ?_) | fail)
  rename_i gs gc gr gO
  refine VC_loop1 (fun (z : Nat × Bool × Option Addr × Nat × List Cel) => [(7, .int .i64 z.1), (6, .bool z.2.1), (2, .pointer (some ⟨gs, 0, none⟩)), (3, .pointer (some ⟨gc, 0, none⟩)), (4, .pointer (some ⟨gr, 0, none⟩)), (5, .pointer (some ⟨gO, 0, none⟩))])
    (fun z => blk gO (.cells #[.int .i64 s.len, .int .i64 s.off, .slice z.2.2.1 (z.2.2.2.2).length z.2.2.2.1] 30 (0, 0)) :: cels z.2.2.1 z.2.2.2.1 (z.2.2.2.2) :: blk gr (.cells #[.int .i64 0, .int .i64 0, .slice none 0 0] 30 (0, 0)) :: blk gc (.cells (celF c).toArray 51 (0, 0)) :: blk gs (.cells #[.int .i64 s.len, .int .i64 s.off, .slice s.A s.cells.length s.cap] 30 (0, 0)) :: [many H])
    (fun z => z.1 ≤ s.cells.length ∧ z.2.2.2.2.length ≤ z.1 + 1 ∧ (z.2.1 = false → z.2.2.2.2.length ≤ z.1) ∧ withE c s.cells = z.2.2.2.2 ++ if z.2.1 = true then s.cells.drop z.1 else withE c (s.cells.drop z.1)) (fun z => s.cells.length - z.1) (0, false, none, 0, []) ⟨Nat.zero_le _, Nat.zero_le _, fun _ => Nat.zero_le _, rfl⟩ ?_ (fun w hw => ?_) ?_
  · (repeat (first | exact sub_nil _ | (apply sub_cons; first | exact rfl | exact congrArg (fun z : Int => some (Value.int .i64 z)) (by omega))))
  · exact (hw.nilSlice 51 5).perm (.swap _ _ _)
  rintro ⟨i, put, A, cap, M⟩ ⟨hi, hM, hM2, hE⟩ K hK
  dsimp only at hi hM hM2 hE ⊢
  unfold cels
  by_cases hlt : i < s.cells.length
  · have hget : s.cells[i]? = some (celAt s.sch i) := celAt_some (s := s.sch) hlt
    obtain ⟨x, hx⟩ : ∃ x, celAt s.sch i = x := ⟨_, rfl⟩
    rw [drop_cel hlt, hx] at hE
    rw [hx] at hget
    cases put with
    | true =>
      rw [if_pos rfl] at hE
      repeat' (first | apply (zs1 ?_) | (apply zg2; refine zs6 ?_) | (apply zg3; refine zs7 ?_) | (apply zg4; refine zs9 ?_) | (apply (zs17 ?_ ?_) <;> intro _ <;> try (exfalso; omega)) | apply (zs65 ?_) | apply (zs68 ?_) | apply (zs69 ?_) | apply (zs70 ?_) | (apply zg27; refine zs71 ?_) | apply (zs73 ?_) | apply (zs76 ?_) | fail)
      apply VC_held [0, 1, 2, 3, 4, 5, 6, 7, 8, 9, 10] [] [false, false, false, true, true, true]
      kernel_rfl
      kernel_rfl
      (repeat (first | with_reducible exact split_nil | with_reducible apply split_t | with_reducible apply split_f))
      (simp only [pickOps, nthO]; rfl)
      exact rfl
      repeat' (first | apply (zs1 ?_) | (apply zg1; refine zs3 ?_) | (apply zg6; refine zs12 ?_) | (apply zg20; refine zs47 ?_) | apply (zs65 ?_) | (apply VL_nilh; (repeat (first | with_reducible exact app_nil | with_reducible apply app_cons | exact app_niln _))) | apply (zs68 ?_) | (apply zg27; refine zs72 ?_) | apply (zs76 ?_) | apply (zs93 ?_) | apply (zs94 ?_) | fail)
      refine VC_st (blk gO (.cells #[.int .i64 s.len, .int .i64 s.off, .slice A (M).length cap] 30 (0, 0)) :: sl 51 5 A (M).length cap ((M).flatMap celF) :: blk gr (.cells #[.int .i64 0, .int .i64 0, .slice none 0 0] 30 (0, 0)) :: blk gc (.cells (celF c).toArray 51 (0, 0)) :: blk gs (.cells #[.int .i64 s.len, .int .i64 s.off, .slice s.A s.cells.length s.cap] 30 (0, 0)) :: [many H]) ?_ ?_
      · intro w hw
        revert w
        (intro w hw; refine hw.perm ?_; focus repeat (first | with_reducible exact Perm.refl _ | (with_reducible apply perm_take; focus ((repeat (first | with_reducible exact rem_here | with_reducible apply rem_there)); done)) | with_reducible apply Perm.dropK))
      apply VC_heldH [0, 1, 2, 3, 4, 5, 6, 7] [8, 9, 10] [true, false, false, false, true, true]
      kernel_rfl
      kernel_rfl
      (repeat (first | with_reducible exact split_nil | with_reducible apply split_t | with_reducible apply split_f))
      (simp only [pickOps, nthO]; rfl)
      (simp only [pickOps, nthO]; rfl)
      repeat' (first | (apply VL_load_sl T; exact rfl; (focus repeat (first | with_reducible exact List.mem_cons_self | with_reducible apply List.mem_cons_of_mem | assumption)); exact rfl; exact rfl; exact rfl) | apply (zs1 ?_) | apply (zs2 ?_) | (apply zg2; refine zs6 ?_) | (apply zg3; first | refine zs7 ?_ | refine zs61 ?_) | (apply zg5; refine zs57 ?_) | (apply zg13; refine zs30 ?_) | (apply zg21; (refine zs49 ?_; intro _ _)) | (apply zg22; refine zs50 ?_) | (apply zg26; (refine zs56 ?_; intro _)) | apply (zs65 ?_) | (apply VL_nilh; (repeat (first | with_reducible exact app_nil | with_reducible apply app_cons | exact app_niln _))) | apply (zs68 ?_) | apply (zs70 ?_) | apply (zs79 ?_) | apply (zs87 ?_) | (apply VQ_heldq; (repeat (first | with_reducible exact pull_nil | (with_reducible apply pull_cons; (repeat (first | with_reducible exact rem_here | with_reducible apply rem_there)))))) | apply (zs93 ?_) | apply (zs94 ?_) | fail)
      rename_i A9 cap9
      apply hK (i + 1, true, A9, cap9, M ++ [x])
      · refine ⟨by show i + 1 ≤ _; omega, by show (M ++ [x]).length ≤ i + 1 + 1; simp only [List.length_append, List.length_singleton]; omega, (fun h => by cases h), ?_⟩
        rw [hE]; simp
      · show _ - (i + 1) < _ - i
        omega
      · (repeat (first | exact sub_nil _ | (apply sub_cons; first | exact rfl | exact congrArg (fun z : Int => some (Value.int .i64 z)) (by omega))))
      · intro w hw
        dsimp only
        rw [cels_snocR, len_snoc (M) x] at hw
        revert w
        (intro w hw; refine hw.perm ?_; focus repeat (first | with_reducible exact Perm.refl _ | (with_reducible apply perm_take; focus ((repeat (first | with_reducible exact rem_here | with_reducible apply rem_there)); done)) | with_reducible apply Perm.dropK))
    | false =>
      have hM3 := hM2 rfl
      rw [if_neg (by decide)] at hE
      cases hb : celLt c x with
      | true =>
        have hlc := fun {H' : List HP} {w : World} (hw : St B w0 H' w) => rless_spec c x hw
        rw [hb] at hlc
        rw [withE, if_pos hb] at hE
        have hMc : (M ++ [c]).length = M.length + 1 := by simp
        repeat' (first | apply (zs1 ?_) | (apply zg2; refine zs6 ?_) | (apply zg3; refine zs7 ?_) | (apply zg4; refine zs9 ?_) | (apply (zs17 ?_ ?_) <;> intro _ <;> try (exfalso; omega)) | apply (zs65 ?_) | apply (zs68 ?_) | apply (zs69 ?_) | apply (zs70 ?_) | (apply zg27; refine zs71 ?_) | apply (zs73 ?_) | apply (zs76 ?_) | fail)
        apply VC_held [0, 1, 2, 3, 4, 5, 6, 7, 8, 9, 10] [] [false, false, false, true, true, true]
        kernel_rfl
        kernel_rfl
        (repeat (first | with_reducible exact split_nil | with_reducible apply split_t | with_reducible apply split_f))
        (simp only [pickOps, nthO]; rfl)
        exact rfl
        repeat' (first | ((first | apply VL_callt en50 | apply VL_callq en50); (repeat (first | exact args_nil | (apply args_cons; exact rfl))); exact rfl; exact fun _ hw => (hlc hw)) | apply (zs1 ?_) | apply (zs2 ?_) | (apply zg1; refine zs4 ?_) | (apply zg2; refine zs6 ?_) | (apply zg3; first | refine zs7 ?_ | refine zs8 ?_ | refine zs61 ?_) | (apply zg5; refine zs57 ?_) | (apply zg6; refine zs11 ?_) | (apply zg20; refine zs48 ?_) | (apply zg21; (refine zs49 ?_; intro _ _)) | (apply zg22; refine zs50 ?_) | (apply zg26; (refine zs56 ?_; intro _)) | apply (zs65 ?_) | (apply VL_nilh; (repeat (first | with_reducible exact app_nil | with_reducible apply app_cons | exact app_niln _))) | apply (zs68 ?_) | apply (zs69 ?_) | apply (zs70 ?_) | (apply zg27; refine zs71 ?_) | apply (zs87 ?_) | (apply VQ_heldq; (repeat (first | with_reducible exact pull_nil | (with_reducible apply pull_cons; (repeat (first | with_reducible exact rem_here | with_reducible apply rem_there)))))) | apply (zs93 ?_) | apply (zs94 ?_) | fail)
        repeat' (first | fail)
        rename_i A8 cap8
        refine VC_st (blk gO (.cells #[.int .i64 s.len, .int .i64 s.off, .slice A8 (M ++ [c]).length cap8] 30 (0, 0)) :: sl 51 5 A8 (M ++ [c]).length cap8 ((M ++ [c]).flatMap celF) :: blk gr (.cells #[.int .i64 0, .int .i64 0, .slice none 0 0] 30 (0, 0)) :: blk gc (.cells (celF c).toArray 51 (0, 0)) :: blk gs (.cells #[.int .i64 s.len, .int .i64 s.off, .slice s.A s.cells.length s.cap] 30 (0, 0)) :: [many H]) ?_ ?_
        · intro w hw
          rw [cels_snocR, len_snoc M c] at hw
          unfold cels at hw
          revert w
          (intro w hw; refine hw.perm ?_; focus repeat (first | with_reducible exact Perm.refl _ | (with_reducible apply perm_take; focus ((repeat (first | with_reducible exact rem_here | with_reducible apply rem_there)); done)) | with_reducible apply Perm.dropK))
        apply VC_heldH [0, 1, 2, 3, 4, 5, 6, 7] [8, 9, 10] [true, false, false, false, true, true]
        kernel_rfl
        kernel_rfl
        (repeat (first | with_reducible exact split_nil | with_reducible apply split_t | with_reducible apply split_f))
        (simp only [pickOps, nthO]; rfl)
        (simp only [pickOps, nthO]; rfl)
        repeat' (first | (apply VL_load_sl T; exact rfl; (focus repeat (first | with_reducible exact List.mem_cons_self | with_reducible apply List.mem_cons_of_mem | assumption)); exact rfl; exact rfl; exact rfl) | apply (zs1 ?_) | apply (zs2 ?_) | (apply zg2; refine zs6 ?_) | (apply zg3; first | refine zs7 ?_ | refine zs61 ?_) | (apply zg5; refine zs57 ?_) | (apply zg13; refine zs30 ?_) | (apply zg21; (refine zs49 ?_; intro _ _)) | (apply zg22; refine zs50 ?_) | (apply zg26; (refine zs56 ?_; intro _)) | apply (zs65 ?_) | (apply VL_nilh; (repeat (first | with_reducible exact app_nil | with_reducible apply app_cons | exact app_niln _))) | apply (zs68 ?_) | apply (zs70 ?_) | apply (zs79 ?_) | apply (zs87 ?_) | (apply VQ_heldq; (repeat (first | with_reducible exact pull_nil | (with_reducible apply pull_cons; (repeat (first | with_reducible exact rem_here | with_reducible apply rem_there)))))) | apply (zs93 ?_) | apply (zs94 ?_) | fail)
        rename_i A9 cap9
        apply hK (i + 1, true, A9, cap9, (M ++ [c]) ++ [x])
        · refine ⟨by show i + 1 ≤ _; omega, by show ((M ++ [c]) ++ [x]).length ≤ i + 1 + 1; simp only [List.length_append, List.length_singleton]; omega, (fun h => by cases h), ?_⟩
          rw [hE]; simp
        · show _ - (i + 1) < _ - i
          omega
        · (repeat (first | exact sub_nil _ | (apply sub_cons; first | exact rfl | exact congrArg (fun z : Int => some (Value.int .i64 z)) (by omega))))
        · intro w hw
          dsimp only
          rw [cels_snocR, len_snoc ((M ++ [c])) x] at hw
          revert w
          (intro w hw; refine hw.perm ?_; focus repeat (first | with_reducible exact Perm.refl _ | (with_reducible apply perm_take; focus ((repeat (first | with_reducible exact rem_here | with_reducible apply rem_there)); done)) | with_reducible apply Perm.dropK))
      | false =>
        have hlc := fun {H' : List HP} {w : World} (hw : St B w0 H' w) => rless_spec c x hw
        rw [hb] at hlc
        rw [withE, if_neg (by rw [hb]; decide)] at hE
        repeat' (first | apply (zs1 ?_) | (apply zg2; refine zs6 ?_) | (apply zg3; refine zs7 ?_) | (apply zg4; refine zs9 ?_) | (apply (zs17 ?_ ?_) <;> intro _ <;> try (exfalso; omega)) | apply (zs65 ?_) | apply (zs68 ?_) | apply (zs69 ?_) | apply (zs70 ?_) | (apply zg27; refine zs71 ?_) | apply (zs73 ?_) | apply (zs76 ?_) | fail)
        apply VC_held [0, 1, 2, 3, 4, 5, 6, 7, 8, 9, 10] [] [false, false, false, true, true, true]
        kernel_rfl
        kernel_rfl
        (repeat (first | with_reducible exact split_nil | with_reducible apply split_t | with_reducible apply split_f))
        (simp only [pickOps, nthO]; rfl)
        exact rfl
        repeat' (first | ((first | apply VL_callt en50 | apply VL_callq en50); (repeat (first | exact args_nil | (apply args_cons; exact rfl))); exact rfl; exact fun _ hw => (hlc hw)) | apply (zs1 ?_) | (apply zg1; refine zs4 ?_) | (apply zg2; refine zs6 ?_) | (apply zg3; first | refine zs7 ?_ | refine zs8 ?_ | refine zs61 ?_) | (apply zg5; refine zs57 ?_) | (apply zg6; refine zs11 ?_) | (apply zg20; refine zs48 ?_) | apply (zs65 ?_) | (apply VL_nilh; (repeat (first | with_reducible exact app_nil | with_reducible apply app_cons | exact app_niln _))) | apply (zs68 ?_) | (apply zg27; refine zs72 ?_) | apply (zs76 ?_) | apply (zs87 ?_) | (apply VQ_heldq; (repeat (first | with_reducible exact pull_nil | (with_reducible apply pull_cons; (repeat (first | with_reducible exact rem_here | with_reducible apply rem_there)))))) | apply (zs93 ?_) | apply (zs94 ?_) | fail)
        repeat' (first | fail)
        refine VC_st (blk gO (.cells #[.int .i64 s.len, .int .i64 s.off, .slice A (M).length cap] 30 (0, 0)) :: sl 51 5 A (M).length cap ((M).flatMap celF) :: blk gr (.cells #[.int .i64 0, .int .i64 0, .slice none 0 0] 30 (0, 0)) :: blk gc (.cells (celF c).toArray 51 (0, 0)) :: blk gs (.cells #[.int .i64 s.len, .int .i64 s.off, .slice s.A s.cells.length s.cap] 30 (0, 0)) :: [many H]) ?_ ?_
        · intro w hw
          revert w
          (intro w hw; refine hw.perm ?_; focus repeat (first | with_reducible exact Perm.refl _ | (with_reducible apply perm_take; focus ((repeat (first | with_reducible exact rem_here | with_reducible apply rem_there)); done)) | with_reducible apply Perm.dropK))
        apply VC_heldH [0, 1, 2, 3, 4, 5, 6, 7] [8, 9, 10] [true, false, false, false, true, true]
        kernel_rfl
        kernel_rfl
        (repeat (first | with_reducible exact split_nil | with_reducible apply split_t | with_reducible apply split_f))
        (simp only [pickOps, nthO]; rfl)
        (simp only [pickOps, nthO]; rfl)
        repeat' (first | (apply VL_load_sl T; exact rfl; (focus repeat (first | with_reducible exact List.mem_cons_self | with_reducible apply List.mem_cons_of_mem | assumption)); exact rfl; exact rfl; exact rfl) | apply (zs1 ?_) | apply (zs2 ?_) | (apply zg2; refine zs6 ?_) | (apply zg3; first | refine zs7 ?_ | refine zs61 ?_) | (apply zg5; refine zs57 ?_) | (apply zg13; refine zs30 ?_) | (apply zg21; (refine zs49 ?_; intro _ _)) | (apply zg22; refine zs50 ?_) | (apply zg26; (refine zs56 ?_; intro _)) | apply (zs65 ?_) | (apply VL_nilh; (repeat (first | with_reducible exact app_nil | with_reducible apply app_cons | exact app_niln _))) | apply (zs68 ?_) | apply (zs70 ?_) | apply (zs79 ?_) | apply (zs87 ?_) | (apply VQ_heldq; (repeat (first | with_reducible exact pull_nil | (with_reducible apply pull_cons; (repeat (first | with_reducible exact rem_here | with_reducible apply rem_there)))))) | apply (zs93 ?_) | apply (zs94 ?_) | fail)
        rename_i A9 cap9
        apply hK (i + 1, false, A9, cap9, M ++ [x])
        · refine ⟨by show i + 1 ≤ _; omega, by show (M ++ [x]).length ≤ i + 1 + 1; simp only [List.length_append, List.length_singleton]; omega, (fun _ => by show (M ++ [x]).length ≤ i + 1; simp only [List.length_append, List.length_singleton]; omega), ?_⟩
          rw [hE]; simp
        · show _ - (i + 1) < _ - i
          omega
        · (repeat (first | exact sub_nil _ | (apply sub_cons; first | exact rfl | exact congrArg (fun z : Int => some (Value.int .i64 z)) (by omega))))
        · intro w hw
          dsimp only
          rw [cels_snocR, len_snoc (M) x] at hw
          revert w
          (intro w hw; refine hw.perm ?_; focus repeat (first | with_reducible exact Perm.refl _ | (with_reducible apply perm_take; focus ((repeat (first | with_reducible exact rem_here | with_reducible apply rem_there)); done)) | with_reducible apply Perm.dropK))
  · obtain rfl : i = s.cells.length := by omega
    rw [List.drop_length] at hE
    cases put with
    | true =>
      rw [if_pos rfl, List.append_nil] at hE
      repeat' (first | apply (zs1 ?_) | (apply zg2; refine zs6 ?_) | (apply zg3; first | refine zs7 ?_ | refine zs8 ?_) | (apply zg4; refine zs9 ?_) | (apply (zs17 ?_ ?_) <;> intro _ <;> try (exfalso; omega)) | (apply zg20; refine zs47 ?_) | (apply zg22; refine zs51 ?_) | apply (zs65 ?_) | apply (zs68 ?_) | apply (zs69 ?_) | apply (zs70 ?_) | (apply zg27; refine zs72 ?_) | apply (zs74 ?_) | apply (zs75 ?_) | apply (zs76 ?_) | apply (zs80 ?_) | apply (zs81 ?_) | fail)
      apply VQ_retc1 T (H2 := cels A cap (M) :: H); exact rfl; exact rfl; (focus repeat (first | with_reducible exact List.mem_cons_self | with_reducible apply List.mem_cons_of_mem | assumption)); exact rfl; exact rfl
      · intro w hw
        have h5 : St B w0 (cels A cap (M) :: [many H]) w := by
          unfold cels
          revert w
          (intro w hw; refine hw.perm ?_; focus repeat (first | with_reducible exact Perm.refl _ | (with_reducible apply perm_take; focus ((repeat (first | with_reducible exact rem_here | with_reducible apply rem_there)); done)) | with_reducible apply Perm.dropK))
        exact h5.perm (.cons _ (.openT H))
      · rw [hE]; exact ⟨A, cap, by first | rfl | (rw [List.length_append]; rfl), rfl⟩
    | false =>
      have hE : withE c s.cells = M ++ [c] := hE
      repeat' (first | apply (zs1 ?_) | (apply zg2; refine zs6 ?_) | (apply zg3; first | refine zs7 ?_ | refine zs8 ?_) | (apply zg4; refine zs9 ?_) | (apply (zs17 ?_ ?_) <;> intro _ <;> try (exfalso; omega)) | (apply zg20; refine zs48 ?_) | (apply zg21; (refine zs49 ?_; intro _ _)) | (apply zg22; first | refine zs50 ?_ | refine zs51 ?_) | (apply zg26; (refine zs56 ?_; intro _)) | apply (zs65 ?_) | apply (zs68 ?_) | apply (zs69 ?_) | apply (zs70 ?_) | (apply zg27; first | refine zs71 ?_ | refine zs72 ?_) | apply (zs74 ?_) | apply (zs75 ?_) | apply (zs80 ?_) | apply (zs81 ?_) | fail)
      rename_i A9 cap9
      apply VQ_retc1 T (H2 := cels A9 cap9 (M ++ [c]) :: H); exact rfl; exact rfl; (focus repeat (first | with_reducible exact List.mem_cons_self | with_reducible apply List.mem_cons_of_mem | assumption)); exact rfl; exact rfl
      · intro w hw
        rw [cels_snocR, len_snoc M c] at hw
        have h5 : St B w0 (cels A9 cap9 (M ++ [c]) :: [many H]) w := by
          revert w
          (intro w hw; refine hw.perm ?_; focus repeat (first | with_reducible exact Perm.refl _ | (with_reducible apply perm_take; focus ((repeat (first | with_reducible exact rem_here | with_reducible apply rem_there)); done)) | with_reducible apply Perm.dropK))
        exact h5.perm (.cons _ (.openT H))
      · rw [hE]; exact ⟨A9, cap9, by first | rfl | (rw [List.length_append]; rfl), rfl⟩
theorem filter_ne_snoc {s : SchM} {i : Nat} {p : Cel → Bool} (h : i < s.cells.length) : (s.cells.take (i + 1)).filter p = (s.cells.take i).filter p ++ if p (celAt s.sch i) = true then [celAt s.sch i] else [] := filter_snoc (celAt_some (s := s.sch) h)
set_option maxRecDepth 10000 in
set_option maxHeartbeats 2000000 in
theorem rless1_spec (s : SchM) (c : Cel) (hl : s.cells.length ≤ 1000) {B : Nat} {w0 : World} {H : List HP} {w : World} (hr : Rd B w0 H s.A (s.cells.flatMap celF)) (hw : St B w0 H w) :
    Calls Tryz.prog 76 [s.val, celV c].toArray w (Post B w0 (OutW H s (s.cells.filter fun x => decide (x ≠ c)))) := by
  refine Calls_of_VC Tryz.func76 Tryz.ntmps76 rfl rfl hw ?_
  have hr := hr.tail
  refine VC_st [many H] (fun w hw => hw.perm (.closeT H)) ?_
  repeat' (first | apply (zs2 ?_) | (apply zg2; refine zs6 ?_) | (apply zg3; refine zs7 ?_) | (apply zg22; refine zs51 ?_) | (apply zg23; (refine zs52 ?_; intro _)) | (apply zg24; (refine zs54 ?_; intro _)) | (apply zg25; refine zs55 ?_) | apply (zs65 ?_) | apply (zs68 ?_) | apply (zs69 ?_) | apply (zs70 ?_) | apply (zs73 ?_) | fail)
  rename_i gs gc gr gO
  refine VC_loop1 (fun (z : Nat × Option Addr × Nat) => [(6, .int .i64 z.1), (2, .pointer (some ⟨gs, 0, none⟩)), (3, .pointer (some ⟨gc, 0, none⟩)), (4, .pointer (some ⟨gr, 0, none⟩)), (5, .pointer (some ⟨gO, 0, none⟩))])
    (fun z => blk gO (.cells #[.int .i64 s.len, .int .i64 s.off, .slice z.2.1 (((s.cells.take z.1).filter fun x => decide (x ≠ c))).length z.2.2] 30 (0, 0)) :: cels z.2.1 z.2.2 (((s.cells.take z.1).filter fun x => decide (x ≠ c))) :: blk gr (.cells #[.int .i64 0, .int .i64 0, .slice none 0 0] 30 (0, 0)) :: blk gc (.cells (celF c).toArray 51 (0, 0)) :: blk gs (.cells #[.int .i64 s.len, .int .i64 s.off, .slice s.A s.cells.length s.cap] 30 (0, 0)) :: [many H])
    (fun z => z.1 ≤ s.cells.length) (fun z => s.cells.length - z.1) (0, none, 0) (Nat.zero_le _) ?_ (fun w hw => ?_) ?_
  · (repeat (first | exact sub_nil _ | (apply sub_cons; first | exact rfl | exact congrArg (fun z : Int => some (Value.int .i64 z)) (by omega))))
  · exact (hw.nilSlice 51 5).perm (.swap _ _ _)
  rintro ⟨i, A, cap⟩ hi K hK
  dsimp only at hi ⊢
  have hM := filter_le (p := fun x : Cel => decide (x ≠ c)) (l := s.cells) (i := i)
  by_cases hlt : i < s.cells.length
  · have hget : s.cells[i]? = some (celAt s.sch i) := celAt_some (s := s.sch) hlt
    have hE := filter_ne_snoc (s := s) (i := i) (p := fun x : Cel => decide (x ≠ c)) hlt
    obtain ⟨M, hMe⟩ : ∃ M, ((s.cells.take i).filter fun x => decide (x ≠ c)) = M := ⟨_, rfl⟩
    obtain ⟨x, hx⟩ : ∃ x, celAt s.sch i = x := ⟨_, rfl⟩
    rw [hx] at hget hE
    rw [hMe] at hM hE ⊢
    unfold cels
    by_cases hxc : x = c
    · rw [if_neg (by simpa using hxc), List.append_nil] at hE
      repeat' (first | (apply VL_cneq x c; exact rfl; exact rfl; exact rfl; all_goals (intro hN; first | (exact absurd hxc hN) | skip)) | apply (zs1 ?_) | apply (zs2 ?_) | (apply zg2; refine zs6 ?_) | (apply zg3; first | refine zs7 ?_ | refine zs8 ?_ | refine zs61 ?_) | (apply zg4; refine zs9 ?_) | (apply zg5; refine zs57 ?_) | (apply (zs17 ?_ ?_) <;> intro _ <;> try (exfalso; omega)) | (apply zg13; refine zs30 ?_) | apply (zs65 ?_) | apply (zs66 ?_) | apply (zs68 ?_) | apply (zs69 ?_) | apply (zs70 ?_) | (apply zg27; first | refine zs71 ?_ | refine zs72 ?_) | apply (zs73 ?_) | apply (zs76 ?_) | apply (zs79 ?_) | (apply zg28; refine zs83 ?_) | fail)
      apply hK (i + 1, A, cap)
      · show i + 1 ≤ _
        omega
      · show _ - (i + 1) < _ - i
        omega
      · (repeat (first | exact sub_nil _ | (apply sub_cons; first | exact rfl | exact congrArg (fun z : Int => some (Value.int .i64 z)) (by omega))))
      · dsimp only
        rw [hE]
        exact fun w hw => hw
    · rw [if_pos (decide_eq_true hxc)] at hE
      repeat' (first | (apply VL_cneq x c; exact rfl; exact rfl; exact rfl; all_goals (intro hN; first | (exact absurd hN hxc) | skip)) | apply (zs1 ?_) | (apply zg2; refine zs6 ?_) | (apply zg3; first | refine zs7 ?_ | refine zs8 ?_ | refine zs61 ?_) | (apply zg4; refine zs9 ?_) | (apply zg5; refine zs57 ?_) | (apply (zs17 ?_ ?_) <;> intro _ <;> try (exfalso; omega)) | apply (zs65 ?_) | apply (zs66 ?_) | apply (zs68 ?_) | apply (zs69 ?_) | apply (zs70 ?_) | (apply zg27; refine zs71 ?_) | apply (zs73 ?_) | apply (zs76 ?_) | (apply zg28; refine zs83 ?_) | fail)
      repeat' (first | fail)
      refine VC_st (blk gO (.cells #[.int .i64 s.len, .int .i64 s.off, .slice A (M).length cap] 30 (0, 0)) :: sl 51 5 A (M).length cap ((M).flatMap celF) :: blk gr (.cells #[.int .i64 0, .int .i64 0, .slice none 0 0] 30 (0, 0)) :: blk gc (.cells (celF c).toArray 51 (0, 0)) :: blk gs (.cells #[.int .i64 s.len, .int .i64 s.off, .slice s.A s.cells.length s.cap] 30 (0, 0)) :: [many H]) ?_ ?_
      · intro w hw
        revert w
        (intro w hw; refine hw.perm ?_; focus repeat (first | with_reducible exact Perm.refl _ | (with_reducible apply perm_take; focus ((repeat (first | with_reducible exact rem_here | with_reducible apply rem_there)); done)) | with_reducible apply Perm.dropK))
      apply VC_heldH [0, 1, 2, 3, 4, 5, 6, 7] [8, 9, 10] [true, false, false, false, true, true]
      kernel_rfl
      kernel_rfl
      (repeat (first | with_reducible exact split_nil | with_reducible apply split_t | with_reducible apply split_f))
      (simp only [pickOps, nthO]; rfl)
      (simp only [pickOps, nthO]; rfl)
      repeat' (first | (apply VL_load_sl T; exact rfl; (focus repeat (first | with_reducible exact List.mem_cons_self | with_reducible apply List.mem_cons_of_mem | assumption)); exact rfl; exact rfl; exact rfl) | apply (zs1 ?_) | apply (zs2 ?_) | (apply zg2; refine zs6 ?_) | (apply zg3; first | refine zs7 ?_ | refine zs61 ?_) | (apply zg5; refine zs57 ?_) | (apply zg13; refine zs30 ?_) | (apply zg21; (refine zs49 ?_; intro _ _)) | (apply zg22; refine zs50 ?_) | (apply zg26; (refine zs56 ?_; intro _)) | apply (zs65 ?_) | (apply VL_nilh; (repeat (first | with_reducible exact app_nil | with_reducible apply app_cons | exact app_niln _))) | apply (zs68 ?_) | apply (zs70 ?_) | apply (zs79 ?_) | apply (zs87 ?_) | (apply VQ_heldq; (repeat (first | with_reducible exact pull_nil | (with_reducible apply pull_cons; (repeat (first | with_reducible exact rem_here | with_reducible apply rem_there)))))) | apply (zs93 ?_) | apply (zs94 ?_) | fail)
      rename_i A9 cap9
      apply hK (i + 1, A9, cap9)
      · show i + 1 ≤ _
        omega
      · show _ - (i + 1) < _ - i
        omega
      · (repeat (first | exact sub_nil _ | (apply sub_cons; first | exact rfl | exact congrArg (fun z : Int => some (Value.int .i64 z)) (by omega))))
      · intro w hw
        dsimp only
        rw [hE]
        rw [cels_snocR, len_snoc M x] at hw
        revert w
        (intro w hw; refine hw.perm ?_; focus repeat (first | with_reducible exact Perm.refl _ | (with_reducible apply perm_take; focus ((repeat (first | with_reducible exact rem_here | with_reducible apply rem_there)); done)) | with_reducible apply Perm.dropK))
  · obtain rfl : i = s.cells.length := by omega
    have hE : (s.cells.filter fun x => decide (x ≠ c)) = (s.cells.filter fun x => decide (x ≠ c)) := rfl
    rw [List.take_length]
    repeat' (first | apply (zs1 ?_) | (apply zg2; refine zs6 ?_) | (apply zg3; first | refine zs7 ?_ | refine zs8 ?_) | (apply zg4; refine zs9 ?_) | (apply (zs17 ?_ ?_) <;> intro _ <;> try (exfalso; omega)) | (apply zg22; refine zs51 ?_) | apply (zs65 ?_) | apply (zs68 ?_) | apply (zs69 ?_) | apply (zs70 ?_) | (apply zg27; refine zs72 ?_) | apply (zs74 ?_) | apply (zs75 ?_) | apply (zs80 ?_) | apply (zs81 ?_) | fail)
    apply VQ_retc1 T (H2 := cels A cap (s.cells.filter fun x => decide (x ≠ c)) :: H); exact rfl; exact rfl; (focus repeat (first | with_reducible exact List.mem_cons_self | with_reducible apply List.mem_cons_of_mem | assumption)); exact rfl; exact rfl
    · intro w hw
      have h5 : St B w0 (cels A cap (s.cells.filter fun x => decide (x ≠ c)) :: [many H]) w := by
        revert w
        (intro w hw; refine hw.perm ?_; focus repeat (first | with_reducible exact Perm.refl _ | (with_reducible apply perm_take; focus ((repeat (first | with_reducible exact rem_here | with_reducible apply rem_there)); done)) | with_reducible apply Perm.dropK))
      exact h5.perm (.cons _ (.openT H))
    · exact ⟨A, cap, by first | rfl | (rw [List.length_append]; rfl), rfl⟩
set_option maxRecDepth 10000 in
set_option maxHeartbeats 2000000 in
theorem ronly_spec (a b : SchM) (hla : a.cells.length ≤ 1000) (hl : b.cells.length ≤ 1000000000000) {B : Nat} {w0 : World} {H : List HP} {w : World} (hr : Rd B w0 H a.A (a.cells.flatMap celF)) (hr2 : Rd B w0 H b.A (b.cells.flatMap celF)) (hw : St B w0 H w) :
    Calls Tryz.prog 78 [a.val, b.val].toArray w (Post B w0 fun v K => ∃ A cap, v = .slice A (onlyE a.sch b.sch).length cap ∧ K = cels A cap (onlyE a.sch b.sch) :: H) := by
  refine Calls_of_VC Tryz.func78 Tryz.ntmps78 rfl rfl hw ?_
  repeat' (first | (apply VL_buildSlice0 T; exact rfl; exact rfl; intro g5) | apply (zs2 ?_) | (apply zg23; (refine zs52 ?_; intro _)) | apply (zs65 ?_) | apply (zs68 ?_) | apply (zs69 ?_) | apply (zs70 ?_) | apply (zs73 ?_) | fail)
  rename_i ga gb
  refine VC_loop1 (fun (z : Nat × Option Addr × Nat) => [(6, .int .i64 z.1), (2, .pointer (some ⟨ga, 0, none⟩)), (3, .pointer (some ⟨gb, 0, none⟩)), (5, .slice z.2.1 ((a.cells.take z.1).filter fun x => decide (x ∉ b.cells)).length z.2.2)])
    (fun z => cels z.2.1 z.2.2 ((a.cells.take z.1).filter fun x => decide (x ∉ b.cells)) :: blk gb (.cells #[.int .i64 b.len, .int .i64 b.off, .slice b.A b.cells.length b.cap] 30 (0, 0)) :: blk ga (.cells #[.int .i64 a.len, .int .i64 a.off, .slice a.A a.cells.length a.cap] 30 (0, 0)) :: H)
    (fun z => z.1 ≤ a.cells.length) (fun z => a.cells.length - z.1) (0, some ⟨g5, 0, none⟩, 0) (Nat.zero_le _) ?_ (fun w hw => hw) ?_
  · (repeat (first | exact sub_nil _ | (apply sub_cons; first | exact rfl | exact congrArg (fun z : Int => some (Value.int .i64 z)) (by omega))))
  rintro ⟨i, A, cap⟩ hi K hK
  dsimp only at hi ⊢
  have hM := filter_le (p := fun x : Cel => decide (x ∉ b.cells)) (l := a.cells) (i := i)
  by_cases hlt : i < a.cells.length
  · have hget : a.cells[i]? = some (celAt a.sch i) := celAt_some (s := a.sch) hlt
    have hE := filter_ne_snoc (s := a) (i := i) (p := fun x : Cel => decide (x ∉ b.cells)) hlt
    obtain ⟨M, hMe⟩ : ∃ M, ((a.cells.take i).filter fun x => decide (x ∉ b.cells)) = M := ⟨_, rfl⟩
    obtain ⟨x, hx⟩ : ∃ x, celAt a.sch i = x := ⟨_, rfl⟩
    rw [hx] at hget hE
    rw [hMe] at hM hE ⊢
    unfold cels
    have hh := fun {H' : List HP} {w : World} (hr : Rd B w0 H' b.A (b.cells.flatMap celF)) (hw : St B w0 H' w) => rhas_spec b x hl hr hw
    by_cases hxb : x ∈ b.cells
    · rw [if_neg (by simpa using hxb), List.append_nil] at hE
      rw [decide_eq_true hxb] at hh
      repeat' (first | ((first | apply VL_callt en74 | apply VL_callq en74); (repeat (first | exact args_nil | (apply args_cons; exact rfl))); exact rfl; exact fun _ hw => (hh hr2.cons.cons.cons hw)) | apply (zs1 ?_) | apply (zs2 ?_) | (apply zg2; refine zs6 ?_) | (apply zg3; first | refine zs7 ?_ | refine zs8 ?_ | refine zs61 ?_) | (apply zg4; refine zs9 ?_) | (apply zg5; refine zs57 ?_) | (apply (zs17 ?_ ?_) <;> intro _ <;> try (exfalso; omega)) | (apply zg13; refine zs30 ?_) | (apply zg20; refine zs47 ?_) | apply (zs65 ?_) | apply (zs66 ?_) | apply (zs68 ?_) | apply (zs69 ?_) | apply (zs70 ?_) | (apply zg27; first | refine zs71 ?_ | refine zs72 ?_) | apply (zs73 ?_) | apply (zs76 ?_) | apply (zs79 ?_) | (apply zg28; refine zs84 ?_) | fail)
      apply hK (i + 1, A, cap)
      · show i + 1 ≤ _
        omega
      · show _ - (i + 1) < _ - i
        omega
      · dsimp only
        rw [hE]
        (repeat (first | exact sub_nil _ | (apply sub_cons; first | exact rfl | exact congrArg (fun z : Int => some (Value.int .i64 z)) (by omega))))
      · dsimp only
        rw [hE]
        exact fun w hw => hw
    · rw [if_pos (decide_eq_true hxb)] at hE
      rw [decide_eq_false hxb] at hh
      repeat' (first | ((first | apply VL_callt en74 | apply VL_callq en74); (repeat (first | exact args_nil | (apply args_cons; exact rfl))); exact rfl; exact fun _ hw => (hh hr2.cons.cons.cons hw)) | apply (zs1 ?_) | apply (zs2 ?_) | (apply zg2; refine zs6 ?_) | (apply zg3; first | refine zs7 ?_ | refine zs8 ?_ | refine zs61 ?_) | (apply zg4; refine zs9 ?_) | (apply zg5; refine zs57 ?_) | (apply (zs17 ?_ ?_) <;> intro _ <;> try (exfalso; omega)) | (apply zg13; refine zs30 ?_) | (apply zg20; refine zs48 ?_) | (apply zg21; (refine zs49 ?_; intro _ _)) | (apply zg26; (refine zs56 ?_; intro _)) | apply (zs65 ?_) | apply (zs66 ?_) | apply (zs68 ?_) | apply (zs69 ?_) | apply (zs70 ?_) | (apply zg27; refine zs71 ?_) | apply (zs73 ?_) | apply (zs76 ?_) | apply (zs79 ?_) | (apply zg28; refine zs84 ?_) | fail)
      rename_i A9 cap9
      apply hK (i + 1, A9, cap9)
      · show i + 1 ≤ _
        omega
      · show _ - (i + 1) < _ - i
        omega
      · dsimp only
        rw [hE, List.length_append]
        (repeat (first | exact sub_nil _ | (apply sub_cons; first | exact rfl | exact congrArg (fun z : Int => some (Value.int .i64 z)) (by omega))))
      · intro w hw
        dsimp only
        rw [hE]
        rw [cels_snocR] at hw
        revert w
        (intro w hw; refine hw.perm ?_; focus repeat (first | with_reducible exact Perm.refl _ | (with_reducible apply perm_take; focus ((repeat (first | with_reducible exact rem_here | with_reducible apply rem_there)); done)) | with_reducible apply Perm.dropK))
  · obtain rfl : i = a.cells.length := by omega
    rw [List.take_length]
    repeat' (first | apply (zs1 ?_) | apply (zs2 ?_) | (apply zg2; refine zs6 ?_) | (apply zg3; refine zs7 ?_) | (apply zg4; refine zs9 ?_) | (apply (zs17 ?_ ?_) <;> intro _ <;> try (exfalso; omega)) | apply (zs65 ?_) | apply (zs68 ?_) | apply (zs69 ?_) | apply (zs70 ?_) | (apply zg27; refine zs72 ?_) | apply (zs74 ?_) | apply (zs75 ?_) | apply (zs80 ?_) | apply (zs81 ?_) | fail)
    apply VQ_st (cels A cap (onlyE a.sch b.sch) :: H)
    · intro w hw
      have h5 : St B w0 (cels A cap (a.cells.filter fun x => decide (x ∉ b.cells)) :: H) w := by
        revert w
        (intro w hw; refine hw.perm ?_; focus repeat (first | with_reducible exact Perm.refl _ | (with_reducible apply perm_take; focus ((repeat (first | with_reducible exact rem_here | with_reducible apply rem_there)); done)) | with_reducible apply Perm.dropK))
      exact h5
    apply VQ_ret1; exact rfl; exact rfl
    exact ⟨A, cap, rfl, rfl⟩
set_option maxRecDepth 10000 in
set_option maxHeartbeats 1000000 in
theorem radd_spec (s : SchM) (c : Cel) {B : Nat} {w0 : World} {H : List HP} {w : World} (hr : Rd B w0 H s.A (s.cells.flatMap celF)) (hl : s.cells.length ≤ 1000000000000) (hw : St B w0 H w) :
    Calls Tryz.prog 29 [s.val, celV c].toArray w (Post B w0 (OutS H (addE s.sch c))) := by
  refine Calls_of_VC Tryz.func29 Tryz.ntmps29 rfl rfl hw ?_
  have e1 : s.sch.cells = s.cells := rfl
  cases hf : formE s.sch with
  | false =>
    repeat' (first | ((first | apply VL_callt en58 | apply VL_callq en58); (repeat (first | exact args_nil | (apply args_cons; exact rfl))); exact rfl; exact fun _ hw => (calls_val (congrArg Value.bool hf) (fun _ hw => rformed_spec s hr.cons.cons.cons hl hw) hw)) | apply (zs2 ?_) | (apply zg3; refine zs8 ?_) | (apply zg20; refine zs48 ?_) | (apply zg22; refine zs51 ?_) | (apply zg23; (refine zs52 ?_; intro _)) | (apply zg24; (refine zs54 ?_; intro _)) | (apply zg25; refine zs55 ?_) | apply (zs65 ?_) | apply (zs68 ?_) | apply (zs69 ?_) | apply (zs70 ?_) | (apply zg27; refine zs71 ?_) | apply (zs74 ?_) | apply (zs77 ?_) | fail)
    apply VQ_retc2 T (H2 := cels none 0 [] :: H); exact rfl; exact rfl; exact rfl; (focus repeat (first | with_reducible exact List.mem_cons_self | with_reducible apply List.mem_cons_of_mem | assumption)); exact rfl; exact rfl; (intro w hw; refine St.nilSlice (H := H) ?_ _ _; revert w; (intro w hw; refine hw.perm ?_; focus repeat (first | with_reducible exact Perm.refl _ | (with_reducible apply perm_take; focus ((repeat (first | with_reducible exact rem_here | with_reducible apply rem_there)); done)) | with_reducible apply Perm.dropK)))
    exact outS_no 1 (by rw [addE, if_pos hf]) rfl
  | true =>
  have hnf : ¬ formE s.sch = false := by simp [hf]
  have hfr := form_iff.1 hf
  have hle : s.cells.length ≤ 512 := hfr.few
  have ho : Ord s.cells := hfr.ord
  have hsz := of_decide_eq_true hfr.sized
  cases hfm : formedE s.sch c with
  | false =>
    repeat' (first | ((first | apply VL_callt en58 | apply VL_callq en58); (repeat (first | exact args_nil | (apply args_cons; exact rfl))); exact rfl; exact fun _ hw => (calls_val (congrArg Value.bool hf) (fun _ hw => rformed_spec s hr.cons.cons.cons hl hw) hw)) | ((first | apply VL_callt en73 | apply VL_callq en73); (repeat (first | exact args_nil | (apply args_cons; exact rfl))); exact rfl; exact fun _ hw => (calls_val (congrArg Value.bool hfm) (fun _ hw => rright_spec s c hsz hw) hw)) | apply (zs2 ?_) | (apply zg3; refine zs8 ?_) | (apply zg20; first | refine zs47 ?_ | refine zs48 ?_) | (apply zg22; refine zs51 ?_) | (apply zg23; (refine zs52 ?_; intro _)) | (apply zg24; (refine zs54 ?_; intro _)) | (apply zg25; refine zs55 ?_) | apply (zs65 ?_) | apply (zs68 ?_) | apply (zs69 ?_) | apply (zs70 ?_) | (apply zg27; first | refine zs71 ?_ | refine zs72 ?_) | apply (zs74 ?_) | apply (zs76 ?_) | apply (zs77 ?_) | fail)
    apply VQ_retc2 T (H2 := cels none 0 [] :: H); exact rfl; exact rfl; exact rfl; (focus repeat (first | with_reducible exact List.mem_cons_self | with_reducible apply List.mem_cons_of_mem | assumption)); exact rfl; exact rfl; (intro w hw; refine St.nilSlice (H := H) ?_ _ _; revert w; (intro w hw; refine hw.perm ?_; focus repeat (first | with_reducible exact Perm.refl _ | (with_reducible apply perm_take; focus ((repeat (first | with_reducible exact rem_here | with_reducible apply rem_there)); done)) | with_reducible apply Perm.dropK)))
    exact outS_no 2 (by rw [addE, if_neg hnf, if_pos hfm]) rfl
  | true =>
  have hnm : ¬ formedE s.sch c = false := by simp [hfm]
  have hh := fun {H' : List HP} {w : World} (hr : Rd B w0 H' s.A (s.cells.flatMap celF)) (hw : St B w0 H' w) => rhas_spec s c hl hr hw
  by_cases hm : c ∈ s.cells
  · rw [decide_eq_true hm] at hh
    repeat' (first | ((first | apply VL_callt en58 | apply VL_callq en58); (repeat (first | exact args_nil | (apply args_cons; exact rfl))); exact rfl; exact fun _ hw => (calls_val (congrArg Value.bool hf) (fun _ hw => rformed_spec s hr.cons.cons.cons hl hw) hw)) | ((first | apply VL_callt en73 | apply VL_callq en73); (repeat (first | exact args_nil | (apply args_cons; exact rfl))); exact rfl; exact fun _ hw => (calls_val (congrArg Value.bool hfm) (fun _ hw => rright_spec s c hsz hw) hw)) | ((first | apply VL_callt en74 | apply VL_callq en74); (repeat (first | exact args_nil | (apply args_cons; exact rfl))); exact rfl; exact fun _ hw => (hh hr.cons.cons.cons hw)) | apply (zs2 ?_) | (apply zg3; refine zs8 ?_) | (apply zg20; refine zs47 ?_) | (apply zg22; refine zs51 ?_) | (apply zg23; (refine zs52 ?_; intro _)) | (apply zg24; (refine zs54 ?_; intro _)) | (apply zg25; refine zs55 ?_) | apply (zs65 ?_) | apply (zs68 ?_) | apply (zs69 ?_) | apply (zs70 ?_) | (apply zg27; first | refine zs71 ?_ | refine zs72 ?_) | apply (zs74 ?_) | apply (zs76 ?_) | apply (zs77 ?_) | fail)
    apply VQ_retc2 T (H2 := cels none 0 [] :: H); exact rfl; exact rfl; exact rfl; (focus repeat (first | with_reducible exact List.mem_cons_self | with_reducible apply List.mem_cons_of_mem | assumption)); exact rfl; exact rfl; (intro w hw; refine St.nilSlice (H := H) ?_ _ _; revert w; (intro w hw; refine hw.perm ?_; focus repeat (first | with_reducible exact Perm.refl _ | (with_reducible apply perm_take; focus ((repeat (first | with_reducible exact rem_here | with_reducible apply rem_there)); done)) | with_reducible apply Perm.dropK)))
    exact outS_no 6 (by rw [addE, if_neg hnf, if_neg hnm]; exact if_pos hm) rfl
  rw [decide_eq_false hm] at hh
  by_cases h512 : s.cells.length = 512
  · skip
    repeat' (first | ((first | apply VL_callt en58 | apply VL_callq en58); (repeat (first | exact args_nil | (apply args_cons; exact rfl))); exact rfl; exact fun _ hw => (calls_val (congrArg Value.bool hf) (fun _ hw => rformed_spec s hr.cons.cons.cons hl hw) hw)) | ((first | apply VL_callt en73 | apply VL_callq en73); (repeat (first | exact args_nil | (apply args_cons; exact rfl))); exact rfl; exact fun _ hw => (calls_val (congrArg Value.bool hfm) (fun _ hw => rright_spec s c hsz hw) hw)) | ((first | apply VL_callt en74 | apply VL_callq en74); (repeat (first | exact args_nil | (apply args_cons; exact rfl))); exact rfl; exact fun _ hw => (hh hr.cons.cons.cons hw)) | apply (zs2 ?_) | (apply zg2; refine zs6 ?_) | (apply zg3; first | refine zs7 ?_ | refine zs8 ?_) | (apply zg4; refine zs9 ?_) | (apply zg7; (refine zs15 ?_ ?_ <;> intro _ <;> try (exfalso; omega))) | (apply zg20; refine zs47 ?_) | (apply zg22; refine zs51 ?_) | (apply zg23; (refine zs52 ?_; intro _)) | (apply zg24; (refine zs54 ?_; intro _)) | (apply zg25; refine zs55 ?_) | apply (zs65 ?_) | apply (zs68 ?_) | apply (zs69 ?_) | apply (zs70 ?_) | (apply zg27; first | refine zs71 ?_ | refine zs72 ?_) | apply (zs74 ?_) | apply (zs76 ?_) | apply (zs77 ?_) | fail)
    apply VQ_retc2 T (H2 := cels none 0 [] :: H); exact rfl; exact rfl; exact rfl; (focus repeat (first | with_reducible exact List.mem_cons_self | with_reducible apply List.mem_cons_of_mem | assumption)); exact rfl; exact rfl; (intro w hw; refine St.nilSlice (H := H) ?_ _ _; revert w; (intro w hw; refine hw.perm ?_; focus repeat (first | with_reducible exact Perm.refl _ | (with_reducible apply perm_take; focus ((repeat (first | with_reducible exact rem_here | with_reducible apply rem_there)); done)) | with_reducible apply Perm.dropK)))
    exact outS_no 8 (by rw [addE, if_neg hnf, if_neg hnm]; exact (if_neg hm).trans (if_pos h512)) rfl
  have hres : addE s.sch c = (⟨s.len, s.off, withE c s.cells⟩, 0) := by
    rw [with_ins ho hm, addE, if_neg hnf, if_neg hnm]
    exact (if_neg hm).trans (if_neg h512)
  rw [hres]
  repeat' (first | ((first | apply VL_callt en58 | apply VL_callq en58); (repeat (first | exact args_nil | (apply args_cons; exact rfl))); exact rfl; exact fun _ hw => (calls_val (congrArg Value.bool hf) (fun _ hw => rformed_spec s hr.cons.cons.cons hl hw) hw)) | ((first | apply VL_callt en73 | apply VL_callq en73); (repeat (first | exact args_nil | (apply args_cons; exact rfl))); exact rfl; exact fun _ hw => (calls_val (congrArg Value.bool hfm) (fun _ hw => rright_spec s c hsz hw) hw)) | ((first | apply VL_callt en74 | apply VL_callq en74); (repeat (first | exact args_nil | (apply args_cons; exact rfl))); exact rfl; exact fun _ hw => (hh hr.cons.cons.cons hw)) | apply (zs2 ?_) | (apply zg2; refine zs6 ?_) | (apply zg3; first | refine zs7 ?_ | refine zs8 ?_) | (apply zg4; refine zs9 ?_) | (apply zg7; (refine zs15 ?_ ?_ <;> intro _ <;> try (exfalso; omega))) | (apply zg20; refine zs47 ?_) | (apply zg23; (refine zs52 ?_; intro _)) | (apply zg24; (refine zs54 ?_; intro _)) | apply (zs65 ?_) | apply (zs68 ?_) | apply (zs69 ?_) | apply (zs70 ?_) | (apply zg27; refine zs72 ?_) | apply (zs76 ?_) | fail)
  apply VL_call _ en75
  (repeat (first | exact args_nil | (apply args_cons; exact rfl)))
  exact rfl
  exact fun _ hw => (rwith_spec s c (by omega) hr.cons.cons.cons (hw))
  rintro _ _ ⟨A1, cap1, rfl, rfl⟩
  repeat' (first | apply (zs2 ?_) | (apply zg22; refine zs51 ?_) | apply (zs65 ?_) | apply (zs68 ?_) | apply (zs74 ?_) | fail)
  apply VQ_retc2 T (H2 := cels A1 cap1 (withE c s.cells) :: H); exact rfl; exact rfl; exact rfl; (focus repeat (first | with_reducible exact List.mem_cons_self | with_reducible apply List.mem_cons_of_mem | assumption)); exact rfl; exact rfl; (intro w hw; refine hw.perm ?_; focus repeat (first | with_reducible exact Perm.refl _ | (with_reducible apply perm_take; focus ((repeat (first | with_reducible exact rem_here | with_reducible apply rem_there)); done)) | with_reducible apply Perm.dropK))
  exact ⟨A1, cap1, rfl, rfl⟩
set_option maxRecDepth 10000 in
set_option maxHeartbeats 1000000 in
theorem rremove_spec (s : SchM) (c : Cel) {B : Nat} {w0 : World} {H : List HP} {w : World} (hr : Rd B w0 H s.A (s.cells.flatMap celF)) (hl : s.cells.length ≤ 1000000000000) (hw : St B w0 H w) :
    Calls Tryz.prog 30 [s.val, celV c].toArray w (Post B w0 (OutS H (remE s.sch c))) := by
  refine Calls_of_VC Tryz.func30 Tryz.ntmps30 rfl rfl hw ?_
  have e1 : s.sch.cells = s.cells := rfl
  cases hf : formE s.sch with
  | false =>
    repeat' (first | ((first | apply VL_callt en58 | apply VL_callq en58); (repeat (first | exact args_nil | (apply args_cons; exact rfl))); exact rfl; exact fun _ hw => (calls_val (congrArg Value.bool hf) (fun _ hw => rformed_spec s hr.cons.cons.cons hl hw) hw)) | apply (zs2 ?_) | (apply zg3; refine zs8 ?_) | (apply zg20; refine zs48 ?_) | (apply zg22; refine zs51 ?_) | (apply zg23; (refine zs52 ?_; intro _)) | (apply zg24; (refine zs54 ?_; intro _)) | (apply zg25; refine zs55 ?_) | apply (zs65 ?_) | apply (zs68 ?_) | apply (zs69 ?_) | apply (zs70 ?_) | (apply zg27; refine zs71 ?_) | apply (zs74 ?_) | apply (zs77 ?_) | fail)
    apply VQ_retc2 T (H2 := cels none 0 [] :: H); exact rfl; exact rfl; exact rfl; (focus repeat (first | with_reducible exact List.mem_cons_self | with_reducible apply List.mem_cons_of_mem | assumption)); exact rfl; exact rfl; (intro w hw; refine St.nilSlice (H := H) ?_ _ _; revert w; (intro w hw; refine hw.perm ?_; focus repeat (first | with_reducible exact Perm.refl _ | (with_reducible apply perm_take; focus ((repeat (first | with_reducible exact rem_here | with_reducible apply rem_there)); done)) | with_reducible apply Perm.dropK)))
    exact outS_no 1 (by rw [remE, if_pos hf]) rfl
  | true =>
  have hfr := form_iff.1 hf
  have hle : s.cells.length ≤ 512 := hfr.few
  have ho : Ord s.cells := hfr.ord
  have hh := fun {H' : List HP} {w : World} (hr : Rd B w0 H' s.A (s.cells.flatMap celF)) (hw : St B w0 H' w) => rhas_spec s c hl hr hw
  by_cases hm : c ∈ s.cells
  · rw [decide_eq_true hm] at hh
    have hres : remE s.sch c = (⟨s.len, s.off, s.cells.filter fun x => decide (x ≠ c)⟩, 0) := by
      rw [← del_filter ho hm, remE, if_neg (by simp [hf])]
      exact if_pos hm
    rw [hres]
    repeat' (first | ((first | apply VL_callt en58 | apply VL_callq en58); (repeat (first | exact args_nil | (apply args_cons; exact rfl))); exact rfl; exact fun _ hw => (calls_val (congrArg Value.bool hf) (fun _ hw => rformed_spec s hr.cons.cons.cons hl hw) hw)) | ((first | apply VL_callt en74 | apply VL_callq en74); (repeat (first | exact args_nil | (apply args_cons; exact rfl))); exact rfl; exact fun _ hw => (hh hr.cons.cons.cons hw)) | apply (zs2 ?_) | (apply zg3; refine zs8 ?_) | (apply zg20; refine zs47 ?_) | (apply zg23; (refine zs52 ?_; intro _)) | (apply zg24; (refine zs54 ?_; intro _)) | apply (zs65 ?_) | apply (zs68 ?_) | apply (zs69 ?_) | apply (zs70 ?_) | (apply zg27; refine zs72 ?_) | apply (zs76 ?_) | fail)
    apply VL_call _ en76
    (repeat (first | exact args_nil | (apply args_cons; exact rfl)))
    exact rfl
    exact fun _ hw => (rless1_spec s c (by omega) hr.cons.cons.cons (hw))
    rintro _ _ ⟨A1, cap1, rfl, rfl⟩
    repeat' (first | apply (zs2 ?_) | (apply zg22; refine zs51 ?_) | apply (zs65 ?_) | apply (zs68 ?_) | apply (zs74 ?_) | fail)
    apply VQ_retc2 T (H2 := cels A1 cap1 (s.cells.filter fun x => decide (x ≠ c)) :: H); exact rfl; exact rfl; exact rfl; (focus repeat (first | with_reducible exact List.mem_cons_self | with_reducible apply List.mem_cons_of_mem | assumption)); exact rfl; exact rfl; (intro w hw; refine hw.perm ?_; focus repeat (first | with_reducible exact Perm.refl _ | (with_reducible apply perm_take; focus ((repeat (first | with_reducible exact rem_here | with_reducible apply rem_there)); done)) | with_reducible apply Perm.dropK))
    exact ⟨A1, cap1, rfl, rfl⟩
  · rw [decide_eq_false hm] at hh
    repeat' (first | ((first | apply VL_callt en58 | apply VL_callq en58); (repeat (first | exact args_nil | (apply args_cons; exact rfl))); exact rfl; exact fun _ hw => (calls_val (congrArg Value.bool hf) (fun _ hw => rformed_spec s hr.cons.cons.cons hl hw) hw)) | ((first | apply VL_callt en74 | apply VL_callq en74); (repeat (first | exact args_nil | (apply args_cons; exact rfl))); exact rfl; exact fun _ hw => (hh hr.cons.cons.cons hw)) | apply (zs2 ?_) | (apply zg3; refine zs8 ?_) | (apply zg20; first | refine zs47 ?_ | refine zs48 ?_) | (apply zg22; refine zs51 ?_) | (apply zg23; (refine zs52 ?_; intro _)) | (apply zg24; (refine zs54 ?_; intro _)) | (apply zg25; refine zs55 ?_) | apply (zs65 ?_) | apply (zs68 ?_) | apply (zs69 ?_) | apply (zs70 ?_) | (apply zg27; first | refine zs71 ?_ | refine zs72 ?_) | apply (zs74 ?_) | apply (zs76 ?_) | apply (zs77 ?_) | fail)
    apply VQ_retc2 T (H2 := cels none 0 [] :: H); exact rfl; exact rfl; exact rfl; (focus repeat (first | with_reducible exact List.mem_cons_self | with_reducible apply List.mem_cons_of_mem | assumption)); exact rfl; exact rfl; (intro w hw; refine St.nilSlice (H := H) ?_ _ _; revert w; (intro w hw; refine hw.perm ?_; focus repeat (first | with_reducible exact Perm.refl _ | (with_reducible apply perm_take; focus ((repeat (first | with_reducible exact rem_here | with_reducible apply rem_there)); done)) | with_reducible apply Perm.dropK)))
    exact outS_no 7 (by rw [remE, if_neg (by simp [hf])]; exact if_neg hm) rfl
set_option maxRecDepth 10000 in
set_option maxHeartbeats 1000000 in
theorem rdiffer_spec (a b : SchM) (hla : a.cells.length ≤ 1000) (hlb : b.cells.length ≤ 1000) {B : Nat} {w0 : World} {H : List HP} {w : World} (hr : Rd B w0 H a.A (a.cells.flatMap celF)) (hr2 : Rd B w0 H b.A (b.cells.flatMap celF)) (hw : St B w0 H w) :
    Calls Tryz.prog 32 [a.val, b.val].toArray w (Post B w0 (OutD H (difE a.sch b.sch))) := by
  refine Calls_of_VC Tryz.func32 Tryz.ntmps32 rfl rfl hw ?_
  have e1 : a.sch.len = a.len := rfl
  have e2 : b.sch.len = b.len := rfl
  have e3 : a.sch.off = a.off := rfl
  have e4 : b.sch.off = b.off := rfl
  have ha := fun {H' : List HP} {w : World} (hr : Rd B w0 H' a.A (a.cells.flatMap celF)) (hw : St B w0 H' w) => rformed_spec a hr (by omega) hw
  have hb := fun {H' : List HP} {w : World} (hr : Rd B w0 H' b.A (b.cells.flatMap celF)) (hw : St B w0 H' w) => rformed_spec b hr (by omega) hw
  cases hfa : formE a.sch with
  | false =>
    rw [hfa] at ha
    repeat' (first | ((first | apply VL_callt en58 | apply VL_callq en58); (repeat (first | exact args_nil | (apply args_cons; exact rfl))); exact rfl; exact fun _ hw => (ha hr.cons.cons hw)) | apply (zs1 ?_) | apply (zs2 ?_) | (apply zg1; refine zs3 ?_) | (apply zg3; refine zs8 ?_) | (apply zg6; refine zs11 ?_) | (apply zg20; refine zs48 ?_) | (apply zg23; (refine zs52 ?_; intro _)) | apply (zs65 ?_) | apply (zs68 ?_) | apply (zs69 ?_) | apply (zs70 ?_) | (apply zg27; refine zs71 ?_) | apply (zs74 ?_) | apply (zs77 ?_) | fail)
    apply VQ_st (cels none 0 [] :: cels none 0 [] :: H)
    · intro w hw
      refine St.nilSlice (H := cels none 0 [] :: H) (St.nilSlice (H := H) ?_ _ _) _ _
      revert w
      (intro w hw; refine hw.perm ?_; focus repeat (first | with_reducible exact Perm.refl _ | (with_reducible apply perm_take; focus ((repeat (first | with_reducible exact rem_here | with_reducible apply rem_there)); done)) | with_reducible apply Perm.dropK))
    apply VQ_ret3; exact rfl; exact rfl; exact rfl; exact rfl
    rw [difE, if_pos (.inl hfa)]
    exact ⟨none, 0, none, 0, rfl, rfl⟩
  | true =>
  rw [hfa] at ha
  cases hfb : formE b.sch with
  | false =>
    rw [hfb] at hb
    repeat' (first | apply (zs2 ?_) | (apply zg3; refine zs8 ?_) | (apply zg23; (refine zs52 ?_; intro _)) | apply (zs65 ?_) | apply (zs68 ?_) | apply (zs69 ?_) | apply (zs70 ?_) | fail)
    first | apply VL_callt en58 | apply VL_callq en58
    (repeat (first | exact args_nil | (apply args_cons; exact rfl)))
    exact rfl
    exact fun _ hw => (ha hr.cons.cons hw)
    repeat' (first | apply (zs1 ?_) | (apply zg1; refine zs4 ?_) | (apply zg3; refine zs8 ?_) | (apply zg20; refine zs47 ?_) | fail)
    first | apply VL_callt en58 | apply VL_callq en58
    (repeat (first | exact args_nil | (apply args_cons; exact rfl)))
    exact rfl
    exact fun _ hw => (hb hr2.cons.cons hw)
    repeat' (first | apply (zs2 ?_) | (apply zg1; refine zs4 ?_) | (apply zg6; refine zs12 ?_) | (apply zg20; refine zs48 ?_) | apply (zs65 ?_) | apply (zs68 ?_) | apply (zs69 ?_) | apply (zs70 ?_) | (apply zg27; refine zs71 ?_) | apply (zs74 ?_) | apply (zs77 ?_) | fail)
    apply VQ_st (cels none 0 [] :: cels none 0 [] :: H)
    · intro w hw
      refine St.nilSlice (H := cels none 0 [] :: H) (St.nilSlice (H := H) ?_ _ _) _ _
      revert w
      (intro w hw; refine hw.perm ?_; focus repeat (first | with_reducible exact Perm.refl _ | (with_reducible apply perm_take; focus ((repeat (first | with_reducible exact rem_here | with_reducible apply rem_there)); done)) | with_reducible apply Perm.dropK))
    apply VQ_ret3; exact rfl; exact rfl; exact rfl; exact rfl
    rw [difE, if_pos (.inr hfb)]
    exact ⟨none, 0, none, 0, rfl, rfl⟩
  | true =>
  rw [hfb] at hb
  have hno : ¬ (formE a.sch = false ∨ formE b.sch = false) := by rw [hfa, hfb]; simp
  by_cases hle : a.len ≠ b.len ∨ a.off ≠ b.off
  · have hres : difE a.sch b.sch = (([], []), 11) := by
      rw [difE, if_neg hno]
      exact if_pos hle
    rw [hres]
    repeat' (first | apply (zs2 ?_) | (apply zg3; refine zs8 ?_) | (apply zg23; (refine zs52 ?_; intro _)) | apply (zs65 ?_) | apply (zs68 ?_) | apply (zs69 ?_) | apply (zs70 ?_) | fail)
    first | apply VL_callt en58 | apply VL_callq en58
    (repeat (first | exact args_nil | (apply args_cons; exact rfl)))
    exact rfl
    exact fun _ hw => (ha hr.cons.cons hw)
    repeat' (first | apply (zs1 ?_) | (apply zg1; refine zs4 ?_) | (apply zg3; refine zs8 ?_) | (apply zg20; refine zs47 ?_) | fail)
    first | apply VL_callt en58 | apply VL_callq en58
    (repeat (first | exact args_nil | (apply args_cons; exact rfl)))
    exact rfl
    exact fun _ hw => (hb hr2.cons.cons hw)
    repeat' (first | apply (zs1 ?_) | apply (zs2 ?_) | (apply zg1; first | refine zs3 ?_ | refine zs4 ?_) | (apply zg2; refine zs6 ?_) | (apply zg3; refine zs7 ?_) | (apply zg6; first | refine zs11 ?_ | refine zs12 ?_) | (apply zg8; (refine zs16 ?_ ?_ <;> intro _ <;> try (exfalso; omega))) | (apply zg20; refine zs47 ?_) | apply (zs65 ?_) | apply (zs68 ?_) | apply (zs69 ?_) | apply (zs70 ?_) | (apply zg27; first | refine zs71 ?_ | refine zs72 ?_) | apply (zs74 ?_) | apply (zs76 ?_) | apply (zs77 ?_) | fail)
    all_goals (
      apply VQ_st (cels none 0 [] :: cels none 0 [] :: H)
      · intro w hw
        refine St.nilSlice (H := cels none 0 [] :: H) (St.nilSlice (H := H) ?_ _ _) _ _
        revert w
        (intro w hw; refine hw.perm ?_; focus repeat (first | with_reducible exact Perm.refl _ | (with_reducible apply perm_take; focus ((repeat (first | with_reducible exact rem_here | with_reducible apply rem_there)); done)) | with_reducible apply Perm.dropK))
      apply VQ_ret3; exact rfl; exact rfl; exact rfl; exact rfl
      exact ⟨none, 0, none, 0, rfl, rfl⟩)
  have hres : difE a.sch b.sch = ((onlyE a.sch b.sch, onlyE b.sch a.sch), 0) := by
    rw [difE, if_neg hno]
    exact if_neg hle
  rw [hres]
  have hrm : Rd B w0 [many H] a.A (a.cells.flatMap celF) := hr.tail
  have hrm2 : Rd B w0 [many H] b.A (b.cells.flatMap celF) := hr2.tail
  clear hr hr2
  refine VC_st [many H] (fun w hw => hw.perm (.closeT H)) ?_
  repeat' (first | apply (zs2 ?_) | (apply zg3; refine zs8 ?_) | (apply zg23; (refine zs52 ?_; intro _)) | apply (zs65 ?_) | apply (zs68 ?_) | apply (zs69 ?_) | apply (zs70 ?_) | fail)
  first | apply VL_callt en58 | apply VL_callq en58
  (repeat (first | exact args_nil | (apply args_cons; exact rfl)))
  exact rfl
  exact fun _ hw => (ha hrm.cons.cons hw)
  repeat' (first | apply (zs1 ?_) | (apply zg1; refine zs4 ?_) | (apply zg3; refine zs8 ?_) | (apply zg20; refine zs47 ?_) | fail)
  first | apply VL_callt en58 | apply VL_callq en58
  (repeat (first | exact args_nil | (apply args_cons; exact rfl)))
  exact rfl
  exact fun _ hw => (hb hrm2.cons.cons hw)
  repeat' (first | apply (zs1 ?_) | (apply zg1; refine zs4 ?_) | (apply zg2; refine zs6 ?_) | (apply zg3; refine zs7 ?_) | (apply zg6; refine zs12 ?_) | (apply zg8; (refine zs16 ?_ ?_ <;> intro _ <;> try (exfalso; omega))) | (apply zg20; refine zs47 ?_) | apply (zs65 ?_) | apply (zs68 ?_) | apply (zs69 ?_) | apply (zs70 ?_) | (apply zg27; refine zs72 ?_) | apply (zs76 ?_) | fail)
  apply VC_treeV (.p1 0 (.p1 1 (.p1 3 (.p1 4 (.d1 2 .done))))) [5, 6, 7, 8] [true, true, false]
  kernel_rfl
  kernel_rfl
  (repeat (first | with_reducible exact split_nil | with_reducible apply split_t | with_reducible apply split_f))
  (simp only [pickOps, nthO]; rfl)
  repeat' (first | (apply VV_p1; (simp only [nthO]; rfl)) | (apply VV_d1; (simp only [nthO]; rfl); (repeat (first | with_reducible exact app_nil | with_reducible apply app_cons | exact app_niln _))) | (apply VQ_treev; (repeat (first | with_reducible exact pull_nil | (with_reducible apply pull_cons; (repeat (first | with_reducible exact rem_here | with_reducible apply rem_there)))))) | (apply VV_done; (repeat (first | with_reducible exact app_nil | with_reducible apply app_cons | exact app_niln _))) | (apply zg3; refine zs8 ?_) | (apply VL_nilh; (repeat (first | with_reducible exact app_nil | with_reducible apply app_cons | exact app_niln _))) | fail)
  apply VL_call _ en78
  (repeat (first | exact args_nil | (apply args_cons; exact rfl)))
  exact rfl
  exact fun _ hw => (ronly_spec a b hla (by omega) (by (first | (focus (repeat (first | assumption | apply Rd.cons)); done) | exact Rd.sl (by (focus repeat (first | with_reducible exact List.mem_cons_self | with_reducible apply List.mem_cons_of_mem | assumption))))) (by (first | (focus (repeat (first | assumption | apply Rd.cons)); done) | exact Rd.sl (by (focus repeat (first | with_reducible exact List.mem_cons_self | with_reducible apply List.mem_cons_of_mem | assumption))))) (hw))
  rintro _ _ ⟨A1, cap1, rfl, rfl⟩
  repeat' (first | (apply VV_p1; (simp only [nthO]; rfl)) | (apply VV_d1; (simp only [nthO]; rfl); (repeat (first | with_reducible exact app_nil | with_reducible apply app_cons | exact app_niln _))) | (apply VQ_treev; (repeat (first | with_reducible exact pull_nil | (with_reducible apply pull_cons; (repeat (first | with_reducible exact rem_here | with_reducible apply rem_there)))))) | (apply VV_done; (repeat (first | with_reducible exact app_nil | with_reducible apply app_cons | exact app_niln _))) | apply (zs65 ?_) | apply (zs93 ?_) | fail)
  apply VL_call _ en78
  (repeat (first | exact args_nil | (apply args_cons; exact rfl)))
  exact rfl
  exact fun _ hw => (ronly_spec b a hlb (by omega) (by (first | (focus (repeat (first | assumption | apply Rd.cons)); done) | exact Rd.sl (by (focus repeat (first | with_reducible exact List.mem_cons_self | with_reducible apply List.mem_cons_of_mem | assumption))))) (by (first | (focus (repeat (first | assumption | apply Rd.cons)); done) | exact Rd.sl (by (focus repeat (first | with_reducible exact List.mem_cons_self | with_reducible apply List.mem_cons_of_mem | assumption))))) (hw))
  rintro _ _ ⟨A2, cap2, rfl, rfl⟩
  repeat' (first | apply (zs2 ?_) | apply (zs65 ?_) | apply (zs68 ?_) | apply (zs74 ?_) | apply (zs94 ?_) | fail)
  apply VQ_st (cels A2 cap2 (onlyE b.sch a.sch) :: cels A1 cap1 (onlyE a.sch b.sch) :: H)
  · intro w hw
    have h5 : St B w0 (cels A2 cap2 (onlyE b.sch a.sch) :: cels A1 cap1 (onlyE a.sch b.sch) :: [many H]) w := by
      revert w
      (intro w hw; refine hw.perm ?_; focus repeat (first | with_reducible exact Perm.refl _ | (with_reducible apply perm_take; focus ((repeat (first | with_reducible exact rem_here | with_reducible apply rem_there)); done)) | with_reducible apply Perm.dropK))
    exact h5.perm (.cons _ (.cons _ (.openT H)))
  apply VQ_ret3; exact rfl; exact rfl; exact rfl; exact rfl
  exact ⟨A1, cap1, A2, cap2, rfl, rfl⟩
end Go.Proofs.YtnkpfpgmbpnbgaaGreatDoor

/- Walks: the law ScheduleEdits. -/
namespace Go.Proofs.YtnkpfpgmbpnbgaaGreatDoor
open Go.RowKit Go.Eng Go.Nw

theorem add_len (s : Sch) (c : Cel) : (addE s c).1.cells.length ≤ s.cells.length + 1 := by
  unfold addE
  split
  · exact Nat.zero_le _
  split
  · exact Nat.zero_le _
  split
  · exact Nat.zero_le _
  split
  · exact Nat.zero_le _
  · show (insC s.cells c).length ≤ _
    rw [ins_len]; exact Nat.le_refl _
theorem rem_len (s : Sch) (c : Cel) : (remE s c).1.cells.length ≤ s.cells.length := by
  unfold remE
  split
  · exact Nat.zero_le _
  split
  · show (delC s.cells c).length ≤ _
    unfold delC
    rw [List.length_append, List.length_take, List.length_drop]
    omega
  · exact Nat.zero_le _
theorem dif_len (a b : Sch) : (difE a b).1.1.length ≤ a.cells.length ∧ (difE a b).1.2.length ≤ b.cells.length := by
  unfold difE
  split
  · exact ⟨Nat.zero_le _, Nat.zero_le _⟩
  split
  · exact ⟨Nat.zero_le _, Nat.zero_le _⟩
  · exact ⟨only_len a b, only_len b a⟩
theorem at_len2 (s : Sch) (z : Int) : (atE s z).length ≤ s.cells.length := by
  unfold atE
  split
  · exact Nat.zero_le _
  · exact List.length_filter_le _ _
set_option maxRecDepth 10000 in
set_option maxHeartbeats 4000000 in
theorem law_edits (a b : SchM) (z : Int) (c : Cel) {B : Nat} {w0 : World} {H : List HP} {w : World} (ht : TabsB B w0) (hr : Rd B w0 H a.A (a.cells.flatMap celF)) (hr2 : Rd B w0 H b.A (b.cells.flatMap celF)) (hw : St B w0 H w) :
    Calls Tryz.prog 9 [a.val, b.val, .int .i64 z, celV c].toArray w (Post B w0 fun v K => v = .bool true ∧ K = H) := by
  refine Calls_of_VC Tryz.func9 Tryz.ntmps9 rfl rfl hw ?_
  cases hfa : fewS a.sch with
  | false =>
    repeat' (first | ((first | apply VL_callt en11 | apply VL_callq en11); (repeat (first | exact args_nil | (apply args_cons; exact rfl))); exact rfl; exact fun _ hw => (wake_spec ht hw)) | ((first | apply VL_callt en13 | apply VL_callq en13); (repeat (first | exact args_nil | (apply args_cons; exact rfl))); exact rfl; exact fun _ hw => (calls_val (congrArg Value.bool hfa) (fun _ hw => rfew_spec a hw) hw)) | apply (zs1 ?_) | apply (zs2 ?_) | (apply zg1; refine zs3 ?_) | (apply zg3; refine zs8 ?_) | (apply zg6; refine zs11 ?_) | (apply zg20; first | refine zs47 ?_ | refine zs48 ?_) | (apply zg23; (refine zs52 ?_; intro _)) | apply (zs65 ?_) | apply (zs68 ?_) | apply (zs69 ?_) | apply (zs70 ?_) | (apply zg27; first | refine zs71 ?_ | refine zs72 ?_) | apply (zs74 ?_) | apply (zs76 ?_) | apply (zs77 ?_) | fail)
    apply VQ_st H
    · (intro w hw; refine hw.perm ?_; focus repeat (first | with_reducible exact Perm.refl _ | (with_reducible apply perm_take; focus ((repeat (first | with_reducible exact rem_here | with_reducible apply rem_there)); done)) | with_reducible apply Perm.dropK))
    apply VQ_ret1; exact rfl; exact rfl; exact ⟨rfl, rfl⟩
  | true =>
  cases hfb : fewS b.sch with
  | false =>
    repeat' (first | ((first | apply VL_callt en11 | apply VL_callq en11); (repeat (first | exact args_nil | (apply args_cons; exact rfl))); exact rfl; exact fun _ hw => (wake_spec ht hw)) | apply (zs2 ?_) | (apply zg3; refine zs8 ?_) | (apply zg20; refine zs47 ?_) | (apply zg23; (refine zs52 ?_; intro _)) | apply (zs65 ?_) | apply (zs68 ?_) | apply (zs69 ?_) | apply (zs70 ?_) | (apply zg27; refine zs72 ?_) | apply (zs76 ?_) | fail)
    first | apply VL_callt en13 | apply VL_callq en13
    (repeat (first | exact args_nil | (apply args_cons; exact rfl)))
    exact rfl
    exact fun _ hw => (calls_val (congrArg Value.bool hfa) (fun _ hw => rfew_spec a hw) hw)
    repeat' (first | apply (zs1 ?_) | (apply zg1; refine zs4 ?_) | (apply zg3; refine zs8 ?_) | (apply zg20; refine zs47 ?_) | fail)
    first | apply VL_callt en13 | apply VL_callq en13
    (repeat (first | exact args_nil | (apply args_cons; exact rfl)))
    exact rfl
    exact fun _ hw => (calls_val (congrArg Value.bool hfb) (fun _ hw => rfew_spec b hw) hw)
    repeat' (first | apply (zs2 ?_) | (apply zg1; refine zs4 ?_) | (apply zg6; refine zs12 ?_) | (apply zg20; refine zs48 ?_) | apply (zs65 ?_) | apply (zs68 ?_) | apply (zs69 ?_) | apply (zs70 ?_) | (apply zg27; refine zs71 ?_) | apply (zs74 ?_) | apply (zs77 ?_) | fail)
    apply VQ_st H
    · (intro w hw; refine hw.perm ?_; focus repeat (first | with_reducible exact Perm.refl _ | (with_reducible apply perm_take; focus ((repeat (first | with_reducible exact rem_here | with_reducible apply rem_there)); done)) | with_reducible apply Perm.dropK))
    apply VQ_ret1; exact rfl; exact rfl; exact ⟨rfl, rfl⟩
  | true =>
  have hga : a.cells.length ≤ 60 ∨ a.cells.length = 512 ∨ a.cells.length = 513 := of_decide_eq_true hfa
  have hgb : b.cells.length ≤ 60 ∨ b.cells.length = 512 ∨ b.cells.length = 513 := of_decide_eq_true hfb
  have hl : a.cells.length ≤ 1000000000000 := by omega
  have hl1 := add_len a.sch c
  have hl2 := rem_len a.sch c
  have hl3 := dif_len a.sch b.sch
  have hl4 := at_len2 a.sch z
  have p1 := fun {H' : List HP} {w : World} (hr : Rd B w0 H' a.A (a.cells.flatMap celF)) (hw : St B w0 H' w) => add_spec a c hr hl hw
  have p2 := fun {H' : List HP} {w : World} (hr : Rd B w0 H' a.A (a.cells.flatMap celF)) (hw : St B w0 H' w) => radd_spec a c hr hl hw
  have p3 := fun {H' : List HP} {w : World} (hr : Rd B w0 H' a.A (a.cells.flatMap celF)) (hw : St B w0 H' w) => remove_spec a c hr hl hw
  have p4 := fun {H' : List HP} {w : World} (hr : Rd B w0 H' a.A (a.cells.flatMap celF)) (hw : St B w0 H' w) => rremove_spec a c hr hl hw
  have p5 := fun {H' : List HP} {w : World} (hr : Rd B w0 H' a.A (a.cells.flatMap celF)) (hr2 : Rd B w0 H' b.A (b.cells.flatMap celF)) (hw : St B w0 H' w) => differ_spec a b (by omega) (by omega) hr hr2 hw
  have p6 := fun {H' : List HP} {w : World} (hr : Rd B w0 H' a.A (a.cells.flatMap celF)) (hr2 : Rd B w0 H' b.A (b.cells.flatMap celF)) (hw : St B w0 H' w) => rdiffer_spec a b (by omega) (by omega) hr hr2 hw
  obtain ⟨⟨⟨al, ao, ac⟩, ae⟩, hA⟩ : ∃ R, addE a.sch c = R := ⟨_, rfl⟩
  obtain ⟨⟨⟨ul, uo, uc⟩, ue⟩, hU⟩ : ∃ R, remE a.sch c = R := ⟨_, rfl⟩
  obtain ⟨⟨⟨d1, d2⟩, de⟩, hD⟩ : ∃ R, difE a.sch b.sch = R := ⟨_, rfl⟩
  have e1 : a.sch.cells.length = a.cells.length := rfl
  have e2 : b.sch.cells.length = b.cells.length := rfl
  unfold OutS at p1 p2 p3 p4
  unfold OutD at p5 p6
  rw [hA] at p1 p2 hl1
  rw [hU] at p3 p4 hl2
  rw [hD] at p5 p6 hl3
  dsimp only at p1 p2 p3 p4 p5 p6 hl1 hl2 hl3
  have hac : ac.length ≤ 1000000000000 := by omega
  have huc : uc.length ≤ 1000000000000 := by omega
  have hd1 : d1.length ≤ 1000000000000 := by omega
  have hd2 : d2.length ≤ 1000000000000 := by omega
  have hat : (atE a.sch z).length ≤ 1000000000000 := by omega
  obtain ⟨at9, hat9⟩ : ∃ l, atE a.sch z = l := ⟨_, rfl⟩
  have p7 := fun {H' : List HP} {w : World} (hr : Rd B w0 H' a.A (a.cells.flatMap celF)) (hw : St B w0 H' w) => at_spec a z hr hl hw
  have p8 := fun {H' : List HP} {w : World} (hr : Rd B w0 H' a.A (a.cells.flatMap celF)) (hw : St B w0 H' w) => rat_spec a z hr hl hw
  rw [hat9] at p7 p8 hat
  have q1 : ∀ (l : List Cel), l.length ≤ 1000000000000 → ∀ {A A2 : Option Addr} {cap cap2 : Nat} {H' : List HP} {w : World}, Rd B w0 H' A (l.flatMap celF) → Rd B w0 H' A2 (l.flatMap celF) → St B w0 H' w → Calls Tryz.prog 33 [.slice A l.length cap, .slice A2 l.length cap2].toArray w (Post B w0 fun v K => v = .bool true ∧ K = H') := fun l hl {A A2 cap cap2 H' w} hr hr2 hw => by
    have h := rsame_cells l l hl hl (cap := cap) (cap2 := cap2) hr hr2 hw
    rw [decide_eq_true rfl] at h
    exact h
  have q2 : ∀ (x y : Int) (l : List Cel), l.length ≤ 1000000000000 → ∀ {A A2 : Option Addr} {cap cap2 : Nat} {H' : List HP} {w : World}, Rd B w0 H' A (l.flatMap celF) → Rd B w0 H' A2 (l.flatMap celF) → St B w0 H' w → Calls Tryz.prog 20 [.agg #[.int .i64 x, .int .i64 y, .slice A l.length cap], .agg #[.int .i64 x, .int .i64 y, .slice A2 l.length cap2]].toArray w (Post B w0 fun v K => v = .bool true ∧ K = H') := fun x y l hl {A A2 cap cap2 H' w} hr hr2 hw => by
    have h := rsame_spec ⟨x, y, A, cap, l⟩ ⟨x, y, A2, cap2, l⟩ hl hl hr hr2 hw
    rw [decide_eq_true ⟨rfl, rfl, rfl⟩] at h
    exact h
  have hrm : Rd B w0 [many H] a.A (a.cells.flatMap celF) := hr.tail
  have hrm2 : Rd B w0 [many H] b.A (b.cells.flatMap celF) := hr2.tail
  clear hr hr2
  refine VC_st [many H] (fun w hw => hw.perm (.closeT H)) ?_
  repeat' (first | ((first | apply VL_callt en11 | apply VL_callq en11); (repeat (first | exact args_nil | (apply args_cons; exact rfl))); exact rfl; exact fun _ hw => (wake_spec ht hw)) | apply (zs2 ?_) | (apply zg3; refine zs8 ?_) | (apply zg20; refine zs47 ?_) | (apply zg23; (refine zs52 ?_; intro _)) | apply (zs65 ?_) | apply (zs68 ?_) | apply (zs69 ?_) | apply (zs70 ?_) | (apply zg27; refine zs72 ?_) | apply (zs76 ?_) | fail)
  first | apply VL_callt en13 | apply VL_callq en13
  (repeat (first | exact args_nil | (apply args_cons; exact rfl)))
  exact rfl
  exact fun _ hw => (calls_val (congrArg Value.bool hfa) (fun _ hw => rfew_spec a hw) hw)
  repeat' (first | apply (zs1 ?_) | (apply zg1; refine zs4 ?_) | (apply zg3; refine zs8 ?_) | (apply zg20; refine zs47 ?_) | fail)
  first | apply VL_callt en13 | apply VL_callq en13
  (repeat (first | exact args_nil | (apply args_cons; exact rfl)))
  exact rfl
  exact fun _ hw => (calls_val (congrArg Value.bool hfb) (fun _ hw => rfew_spec b hw) hw)
  repeat' (first | (apply zg1; refine zs4 ?_) | (apply zg3; refine zs8 ?_) | (apply zg6; refine zs12 ?_) | (apply zg20; refine zs47 ?_) | apply (zs65 ?_) | apply (zs68 ?_) | apply (zs69 ?_) | apply (zs70 ?_) | (apply zg27; refine zs72 ?_) | apply (zs76 ?_) | fail)
  apply VL_call _ en28
  (repeat (first | exact args_nil | (apply args_cons; exact rfl)))
  exact rfl
  exact fun _ hw => (p1 (by (first | (focus (repeat (first | assumption | apply Rd.cons)); done) | exact Rd.sl (by (focus repeat (first | with_reducible exact List.mem_cons_self | with_reducible apply List.mem_cons_of_mem | assumption))))) (hw))
  rintro _ _ ⟨A1, cap1, rfl, rfl⟩
  repeat' (first | apply (zs1 ?_) | apply (zs2 ?_) | (apply zg3; refine zs8 ?_) | apply (zs13 ?_) | (apply zg22; refine zs51 ?_) | (apply zg24; (refine zs54 ?_; intro _)) | apply (zs65 ?_) | apply (zs68 ?_) | apply (zs69 ?_) | apply (zs70 ?_) | fail)
  apply VL_call _ en29
  (repeat (first | exact args_nil | (apply args_cons; exact rfl)))
  exact rfl
  exact fun _ hw => (p2 (by (first | (focus (repeat (first | assumption | apply Rd.cons)); done) | exact Rd.sl (by (focus repeat (first | with_reducible exact List.mem_cons_self | with_reducible apply List.mem_cons_of_mem | assumption))))) (hw))
  rintro _ _ ⟨A2, cap2, rfl, rfl⟩
  repeat' (first | apply (zs1 ?_) | apply (zs2 ?_) | (apply zg3; refine zs8 ?_) | apply (zs13 ?_) | (apply zg22; refine zs51 ?_) | (apply zg24; (refine zs54 ?_; intro _)) | apply (zs65 ?_) | apply (zs68 ?_) | apply (zs69 ?_) | apply (zs70 ?_) | fail)
  apply VL_call _ en27
  (repeat (first | exact args_nil | (apply args_cons; exact rfl)))
  exact rfl
  exact fun _ hw => (p3 (by (first | (focus (repeat (first | assumption | apply Rd.cons)); done) | exact Rd.sl (by (focus repeat (first | with_reducible exact List.mem_cons_self | with_reducible apply List.mem_cons_of_mem | assumption))))) (hw))
  rintro _ _ ⟨A3, cap3, rfl, rfl⟩
  repeat' (first | apply (zs1 ?_) | apply (zs2 ?_) | (apply zg3; refine zs8 ?_) | apply (zs13 ?_) | (apply zg22; refine zs51 ?_) | (apply zg24; (refine zs54 ?_; intro _)) | apply (zs65 ?_) | apply (zs68 ?_) | apply (zs69 ?_) | apply (zs70 ?_) | fail)
  apply VL_call _ en30
  (repeat (first | exact args_nil | (apply args_cons; exact rfl)))
  exact rfl
  exact fun _ hw => (p4 (by (first | (focus (repeat (first | assumption | apply Rd.cons)); done) | exact Rd.sl (by (focus repeat (first | with_reducible exact List.mem_cons_self | with_reducible apply List.mem_cons_of_mem | assumption))))) (hw))
  rintro _ _ ⟨A4, cap4, rfl, rfl⟩
  repeat' (first | apply (zs1 ?_) | apply (zs2 ?_) | (apply zg3; refine zs8 ?_) | apply (zs13 ?_) | (apply zg22; refine zs51 ?_) | (apply zg24; (refine zs54 ?_; intro _)) | apply (zs65 ?_) | apply (zs68 ?_) | apply (zs69 ?_) | apply (zs70 ?_) | fail)
  apply VL_call _ en31
  (repeat (first | exact args_nil | (apply args_cons; exact rfl)))
  exact rfl
  exact fun _ hw => (p5 (by (first | (focus (repeat (first | assumption | apply Rd.cons)); done) | exact Rd.sl (by (focus repeat (first | with_reducible exact List.mem_cons_self | with_reducible apply List.mem_cons_of_mem | assumption))))) (by (first | (focus (repeat (first | assumption | apply Rd.cons)); done) | exact Rd.sl (by (focus repeat (first | with_reducible exact List.mem_cons_self | with_reducible apply List.mem_cons_of_mem | assumption))))) (hw))
  rintro _ _ ⟨A5, cap5, A6, cap6, rfl, rfl⟩
  repeat' (first | apply (zs1 ?_) | apply (zs2 ?_) | (apply zg3; refine zs8 ?_) | apply (zs13 ?_) | apply (zs65 ?_) | apply (zs68 ?_) | apply (zs69 ?_) | apply (zs70 ?_) | fail)
  apply VL_call _ en32
  (repeat (first | exact args_nil | (apply args_cons; exact rfl)))
  exact rfl
  exact fun _ hw => (p6 (by (first | (focus (repeat (first | assumption | apply Rd.cons)); done) | exact Rd.sl (by (focus repeat (first | with_reducible exact List.mem_cons_self | with_reducible apply List.mem_cons_of_mem | assumption))))) (by (first | (focus (repeat (first | assumption | apply Rd.cons)); done) | exact Rd.sl (by (focus repeat (first | with_reducible exact List.mem_cons_self | with_reducible apply List.mem_cons_of_mem | assumption))))) (hw))
  rintro _ _ ⟨A7, cap7, A8, cap8, rfl, rfl⟩
  repeat' (first | apply (zs1 ?_) | apply (zs2 ?_) | apply (zs13 ?_) | apply (zs65 ?_) | apply (zs68 ?_) | apply (zs69 ?_) | fail)
  apply VC_held [0, 1, 3, 4, 2, 5, 6, 7, 8, 9, 10, 11, 12, 13, 14, 15, 16, 17, 18, 19, 20, 21, 22, 23, 24, 25, 26, 27, 28, 29, 30, 31, 32, 33, 34, 35, 36, 37, 38, 39, 40, 41, 42] [] [false, false, false, false, true, false, true, false, true, false, true, false, false, false, true, false]
  kernel_rfl
  kernel_rfl
  (repeat (first | with_reducible exact split_nil | with_reducible apply split_t | with_reducible apply split_f))
  (simp only [pickOps, nthO]; rfl)
  exact rfl
  repeat' (first | apply (zs1 ?_) | (apply zg3; refine zs8 ?_) | apply (zs87 ?_) | fail)
  apply VL_call _ en23
  (repeat (first | exact args_nil | (apply args_cons; exact rfl)))
  exact rfl
  exact fun _ hw => (p7 (by (first | (focus (repeat (first | assumption | apply Rd.cons)); done) | exact Rd.sl (by (focus repeat (first | with_reducible exact List.mem_cons_self | with_reducible apply List.mem_cons_of_mem | assumption))))) (hw))
  rintro _ _ ⟨A9, cap9, rfl, rfl⟩
  repeat' (first | apply (zs65 ?_) | apply (zs87 ?_) | (apply VQ_heldq; (repeat (first | with_reducible exact pull_nil | (with_reducible apply pull_cons; (repeat (first | with_reducible exact rem_here | with_reducible apply rem_there)))))) | fail)
  apply VL_call _ en34
  (repeat (first | exact args_nil | (apply args_cons; exact rfl)))
  exact rfl
  exact fun _ hw => (p8 (by (first | (focus (repeat (first | assumption | apply Rd.cons)); done) | exact Rd.sl (by (focus repeat (first | with_reducible exact List.mem_cons_self | with_reducible apply List.mem_cons_of_mem | assumption))))) (hw))
  rintro _ _ ⟨A0, cap0, rfl, rfl⟩
  repeat' (first | apply (zs65 ?_) | apply (zs87 ?_) | (apply VQ_heldq; (repeat (first | with_reducible exact pull_nil | (with_reducible apply pull_cons; (repeat (first | with_reducible exact rem_here | with_reducible apply rem_there)))))) | fail)
  first | apply VL_callt en33 | apply VL_callq en33
  (repeat (first | exact args_nil | (apply args_cons; exact rfl)))
  exact rfl
  exact fun _ hw => (q1 at9 hat (Rd.cels (cap := cap9) (by (focus repeat (first | with_reducible exact List.mem_cons_self | with_reducible apply List.mem_cons_of_mem | assumption)))) (Rd.cels (cap := cap0) (by (focus repeat (first | with_reducible exact List.mem_cons_self | with_reducible apply List.mem_cons_of_mem | assumption)))) hw)
  repeat' (first | apply (zs1 ?_) | (apply zg1; refine zs4 ?_) | (apply zg3; refine zs8 ?_) | apply (zs65 ?_) | apply (zs87 ?_) | (apply VQ_heldq; (repeat (first | with_reducible exact pull_nil | (with_reducible apply pull_cons; (repeat (first | with_reducible exact rem_here | with_reducible apply rem_there)))))) | fail)
  first | apply VL_callt en20 | apply VL_callq en20
  (repeat (first | exact args_nil | (apply args_cons; exact rfl)))
  exact rfl
  exact fun _ hw => (q2 al ao ac hac (Rd.cels (cap := cap1) (by (focus repeat (first | with_reducible exact List.mem_cons_self | with_reducible apply List.mem_cons_of_mem | assumption)))) (Rd.cels (cap := cap2) (by (focus repeat (first | with_reducible exact List.mem_cons_self | with_reducible apply List.mem_cons_of_mem | assumption)))) hw)
  repeat' (first | apply (zs1 ?_) | (apply zg1; refine zs4 ?_) | (apply zg3; refine zs8 ?_) | (apply zg6; refine zs11 ?_) | (apply zg7; (refine zs15 ?_ ?_ <;> intro _ <;> try (exfalso; omega))) | apply (zs65 ?_) | apply (zs87 ?_) | (apply VQ_heldq; (repeat (first | with_reducible exact pull_nil | (with_reducible apply pull_cons; (repeat (first | with_reducible exact rem_here | with_reducible apply rem_there)))))) | fail)
  first | apply VL_callt en20 | apply VL_callq en20
  (repeat (first | exact args_nil | (apply args_cons; exact rfl)))
  exact rfl
  exact fun _ hw => (q2 ul uo uc huc (Rd.cels (cap := cap3) (by (focus repeat (first | with_reducible exact List.mem_cons_self | with_reducible apply List.mem_cons_of_mem | assumption)))) (Rd.cels (cap := cap4) (by (focus repeat (first | with_reducible exact List.mem_cons_self | with_reducible apply List.mem_cons_of_mem | assumption)))) hw)
  repeat' (first | apply (zs1 ?_) | (apply zg1; refine zs4 ?_) | (apply zg6; refine zs11 ?_) | (apply zg7; (refine zs15 ?_ ?_ <;> intro _ <;> try (exfalso; omega))) | apply (zs65 ?_) | apply (zs87 ?_) | (apply VQ_heldq; (repeat (first | with_reducible exact pull_nil | (with_reducible apply pull_cons; (repeat (first | with_reducible exact rem_here | with_reducible apply rem_there)))))) | fail)
  first | apply VL_callt en33 | apply VL_callq en33
  (repeat (first | exact args_nil | (apply args_cons; exact rfl)))
  exact rfl
  exact fun _ hw => (q1 d1 hd1 (Rd.cels (cap := cap5) (by (focus repeat (first | with_reducible exact List.mem_cons_self | with_reducible apply List.mem_cons_of_mem | assumption)))) (Rd.cels (cap := cap7) (by (focus repeat (first | with_reducible exact List.mem_cons_self | with_reducible apply List.mem_cons_of_mem | assumption)))) hw)
  repeat' (first | apply (zs1 ?_) | (apply zg1; refine zs4 ?_) | (apply zg6; refine zs11 ?_) | apply (zs65 ?_) | apply (zs87 ?_) | (apply VQ_heldq; (repeat (first | with_reducible exact pull_nil | (with_reducible apply pull_cons; (repeat (first | with_reducible exact rem_here | with_reducible apply rem_there)))))) | fail)
  first | apply VL_callt en33 | apply VL_callq en33
  (repeat (first | exact args_nil | (apply args_cons; exact rfl)))
  exact rfl
  exact fun _ hw => (q1 d2 hd2 (Rd.cels (cap := cap6) (by (focus repeat (first | with_reducible exact List.mem_cons_self | with_reducible apply List.mem_cons_of_mem | assumption)))) (Rd.cels (cap := cap8) (by (focus repeat (first | with_reducible exact List.mem_cons_self | with_reducible apply List.mem_cons_of_mem | assumption)))) hw)
  repeat' (first | apply (zs1 ?_) | apply (zs2 ?_) | (apply zg1; refine zs4 ?_) | (apply zg6; refine zs11 ?_) | (apply zg7; (refine zs15 ?_ ?_ <;> intro _ <;> try (exfalso; omega))) | apply (zs65 ?_) | (apply VL_nilh; (repeat (first | with_reducible exact app_nil | with_reducible apply app_cons | exact app_niln _))) | apply (zs68 ?_) | apply (zs74 ?_) | (apply VQ_heldq; (repeat (first | with_reducible exact pull_nil | (with_reducible apply pull_cons; (repeat (first | with_reducible exact rem_here | with_reducible apply rem_there)))))) | apply (zs93 ?_) | apply (zs94 ?_) | fail)
  apply VQ_st H
  · intro w hw
    have h5 : St B w0 [many H] w := by
      revert w
      (intro w hw; refine hw.perm ?_; focus repeat (first | with_reducible exact Perm.refl _ | (with_reducible apply perm_take; focus ((repeat (first | with_reducible exact rem_here | with_reducible apply rem_there)); done)) | with_reducible apply Perm.dropK))
    exact h5.perm (.openT H)
  apply VQ_ret1; exact rfl; exact rfl; exact ⟨rfl, rfl⟩
end Go.Proofs.YtnkpfpgmbpnbgaaGreatDoor

/- From a walk to a row: a law that returns true and leaves memory below as it was. -/
namespace Go.Proofs.YtnkpfpgmbpnbgaaGreatDoor
open Go.ChangeShapes Go.WideShapes Go.ChangeAt Go.RowKit

section
variable {H : Type} {enc : TypeId × Value → H} {P : Program}

theorem trodAll_keep (hl : laidOutB P = true) {W W' : World} {sp : Nat → Bool} : ∀ {ts : List TypeId} {vs : List Value} {ds : List (DataW H)} {ps : List MemPlace}, (ts.all fun t => P.readableRec t && decide (t < P.types.size)) = true →
    DataW.TrodAll enc P W 0 (fun _ => true) true ts vs ds ps → (∀ p ∈ ps, W.sameAt W' p) → (∀ p ∈ ps, sp p.block = true) → DataW.TrodAll enc P W' 0 sp true ts vs ds ps
  | [], [], [], _, _, h, _, _ => h
  | [], [], _ :: _, _, _, h, _, _ => h.elim
  | [], _ :: _, _, _, _, h, _, _ => h.elim
  | _ :: _, [], _, _, _, h, _, _ => h.elim
  | _ :: _, _ :: _, [], _, _, h, _, _ => h.elim
  | t :: ts, v :: vs, d :: ds, ps, hr, h, hs, hp => by
    obtain ⟨p, q, h1, h2, rfl⟩ := h
    simp only [List.all_cons, Bool.and_eq_true, decide_eq_true_eq] at hr
    exact ⟨p, q, WideElems.Trod_stays hl hr.1.1 hr.1.2 h1 (fun x hx => hs x (by simp [hx])) (fun x hx => hp x (by simp [hx])), trodAll_keep hl hr.2 h2 (fun x hx => hs x (by simp [hx])) (fun x hx => hp x (by simp [hx])), rfl⟩

/-- The call returned true, and below the heap's old end nothing is changed: what the row asks. -/
theorem post_true {f : Func} {s : ChangeSpec} {apart fresh handsOn again : Bool} {W W' : World} {args : Array Value} {ds gs : List (DataW H)} {before : List MemPlace} {tb : TypeId} (hl : laidOutB P = true)
    (hrd : (f.params.toList.all fun t => P.readableRec t && decide (t < P.types.size)) = true) (hv : s.vars = []) (hrt : f.resultTypes = #[tb]) (htb : P.underlying tb = some .bool)
    (hW : DataW.Whole enc P f.params.toList s.vars apart W args.toList ds gs before) (hb : Below W.heap.size W W')
    (hres : (s.fn H (ds ++ gs)).results = [.lit (.bool true)]) (hargs : (s.fn H (ds ++ gs)).args = ds) (hvars : (s.fn H (ds ++ gs)).vars = []) :
    s.post enc P f apart fresh handsOn again W args (.bool true) W' := by
  have hlt : ∀ p ∈ before, p.block < W.heap.size := fun p hp => hW.lt p hp
  have hW0 := hW
  obtain ⟨p, q, hA, hV, rfl, hz, hn⟩ := hW
  rw [hv] at hV
  have hq : gs = [] ∧ q = [] := by
    cases gs with
    | nil => exact ⟨rfl, hV⟩
    | cons _ _ => exact hV.elim
  obtain ⟨rfl, rfl⟩ := hq
  have hkeep : ∀ sp : Nat → Bool, (∀ x ∈ p ++ [], sp x.block = true) → DataW.TrodAll enc P W' 0 sp true f.params.toList args.toList ds p := fun sp hsp =>
    trodAll_keep hl hrd hA (fun x hx => hb.same (hlt x (by simpa using hx))) (fun x hx => hsp x (by simpa using hx))
  have hR : ∀ (b : Nat) (sp : Nat → Bool) (hd : Bool), DataW.TrodAll enc P W' b sp hd f.resultTypes.toList ((Value.bool true).resultList f.resultTypes.size) (s.fn H (ds ++ [])).results [] := by
    intro b sp hd
    rw [hres, hrt]
    exact trodAll_mk1 (shut_bool htb true)
  have hok := ok_one (P := P) (W' := W') (f := f) (v := .bool true) hrt rfl (okWide_bool_mk htb true)
  have hold : ∀ x ∈ p ++ [], (fun b => decide (b < W.heap.size)) x.block = true := fun x hx => by simpa using hlt x hx
  refine ⟨ds, [], p ++ [], [], p, [], hW0, hR _ _ _, by rw [hargs]; exact hkeep _ hold, by rw [hvars, hv]; rfl, World.keptBut_mono (fun x hx => ⟨hx, Or.inr (by simpa using hx)⟩) (hb.frame (· ∈ p ++ [])), fun _ => ?_⟩
  refine ⟨hok, _, _, ([] ++ p) ++ [], ⟨[] ++ p, [], trodAll_append (hkeep _ (fun _ _ => rfl)) (hR _ _ _), (show DataW.TrodVars enc P W' (fun _ => true) s.vars [] [] by rw [hv]; rfl), rfl, ?_, ?_⟩, ?_⟩
  · intro b off hp
    have hin : MemPlace.cell b off ∈ p ++ [] := by simpa using hp
    rw [hb.frozen (hlt _ hin)]
    exact hz b off hin
  · intro ha
    simpa using hn ha
  · intro x hx _
    simpa using hx
end
end Go.Proofs.YtnkpfpgmbpnbgaaGreatDoor

/- From a walk to a tied card: what the listed variables hold; a world that meets the condition. -/
namespace Go.Proofs.YtnkpfpgmbpnbgaaGreatDoor
open Go.ChangeShapes Go.WideShapes Go.ChangeAt Go.RowKit Go.Eng

section
variable {H : Type} {enc : TypeId × Value → H}
/-- The wrap of a row that lists variables, the world's shape kept. -/
theorem handed_and_shaped {a : Assume} {C : Checked} {os : Os} {f : FuncId} {fn : Func} {s : ChangeSpec} {conds : List PathCond} {apart fresh handsOn again : Bool} {X : World → Prop} (hX : ∀ w w' : World, w.heap = w'.heap → X w → X w')
    (own : ownKnob C.prog.godebug = none) (started : os.Started) (noInit : C.prog.inits.idxOf? f = none) (hfn : C.prog.funcs[f]? = some fn)
    (witness : ∃ (w : World) (tape : Tape) (i : Input), w.os = os ∧ (w.forCall tape i).Shaped C.prog ∧ i.vars = [] ∧ Input.okWide C.prog (w.forCall tape i) .any w.heap.size f i ∧
      ((s.pre enc C.prog fn conds apart (w.forCall tape i).memory i.args ∧ X (w.forCall tape i).memory) ∧ sizedMet enc C.prog fn (OpenSpec.ofChange s) apart (w.forCall tape i).memory i.args) ∧ a.holds C.prog (lone (Frame.enter C.prog f i.args .normal) [] (w.forCall tape i)))
    (contract : ∀ (W : World) (base : Nat) (args : Array Value) (ds gs : List (DataW H)) (before : List MemPlace),
      (∀ (j : Nat) t v, fn.params[j]? = some t → args[j]? = some v → Value.okWide C.prog W .any base t v) →
      DataW.Whole enc C.prog fn.params.toList s.vars apart W args.toList ds gs before → X W → W.ShapedOpen C.prog →
      Calls C.prog f args W fun e W' => ∃ v, e = .returned v ∧ s.post enc C.prog fn apart fresh handsOn again W args v W') :
    ReturnsInHanded a C os f .any (fun w args => (s.pre enc C.prog fn conds apart w args ∧ X w) ∧ sizedMet enc C.prog fn (OpenSpec.ofChange s) apart w args) (s.post enc C.prog fn apart fresh handsOn again) := by
  refine returnsInHanded_of_calls own started noInit witness ?_
  intro w tape i _ hsh _ hok hpre _
  obtain ⟨_, _, _, fn', hfn', _, _, _, _, hval⟩ := hok
  have e : fn' = fn := Option.some.inj (hfn'.symm.trans hfn)
  subst e
  obtain ⟨⟨⟨ds, gs, before, hw, _⟩, hx⟩, _⟩ := hpre
  have hw' := DataW.Whole.of_heap (w' := w.forCall tape i) (by rfl) hw
  refine (contract (w.forCall tape i) w.heap.size i.args ds gs before hval hw' (hX _ _ (by rfl) hx) hsh).mono fun e W' ⟨v, he, hp⟩ => ?_
  subst he
  exact ChangeSpec.post_blind hp
end

/-- The variables that each row of this layer lists. -/
def laidL : List (String × DataW Unit) := [("math/bits.deBruijn32tab", Rows.laid_math_bits_deBruijn32tab), ("math/bits.deBruijn64tab", Rows.laid_math_bits_deBruijn64tab), ("internal/strconv.uint64pow10", Rows.laid_internal_strconv_uint64pow10), ("unicode/utf8.acceptRanges", Rows.laid_unicode_utf8_acceptRanges), ("strconv.ErrRange", Rows.laid_strconv_ErrRange), ("strconv.ErrSyntax", Rows.laid_strconv_ErrSyntax), ("unicode/utf8.first", Rows.laid_unicode_utf8_first)]
def litV : DataW Unit → Value
  | .lit (.int k z) => .int k z
  | _ => .bool false
def litsV : DataW Unit → List Value
  | .agg l => l.map litV
  | _ => []
/-- The world that the door leaves, utf8's table laid. -/
noncomputable def laidWorld (os : Os) : World :=
  let w0 := World.doorLaid Tryz.prog 72 os
  { w0 with heap := w0.heap.modify ((Tryz.prog.globalNamed "unicode/utf8.first").getD 0) fun
      | .cells _ t frozen => .cells (litsV Go.Pinned.utf8First).toArray t frozen
      | o => o }
theorem laidL_plain (w : World) : laidMetH Tryz.prog laidL w = laidMet Tryz.prog laidL w := MakeChecks.laidMetH_plain _ _ _ (by kernel_rfl)
theorem laidWorld_met (os : Os) (args : Array Value) : laidMetH Tryz.prog laidL ((laidWorld os).forCall (fun _ _ => 0) ⟨#[], args, []⟩).memory := by
  rw [laidL_plain]
  exact laidMet_of_run3 8 (by kernel_rfl) (by kernel_rfl) (by kernel_rfl)
theorem laidWorld_shaped (os : Os) (args : Array Value) : ((laidWorld os).forCall (fun _ _ => 0) ⟨#[], args, []⟩).Shaped Tryz.prog := World.shaped_of_RefB (by kernel_rfl) (by kernel_rfl)

theorem var_below {W w : World} {n : String} {cs : Array Value} (h : W.var? Tryz.prog n = some cs) (hb : Below W.heap.size W w) : w.var? Tryz.prog n = some cs := by
  unfold World.var? at h ⊢
  cases hg : Tryz.prog.globalNamed n with
  | none => rw [hg] at h; cases h
  | some g =>
    rw [hg] at h
    simp only [Option.bind_some] at h ⊢
    rcases Nat.lt_or_ge g W.heap.size with hlt | hge
    · rw [hb.block g hlt]; exact h
    · rw [Array.getElem?_eq_none hge] at h; cases h
theorem err_cell {W : World} {n : String} {s : String} {d : DataW Unit} (hT : (Tryz.prog.globalNamed n).bind (fun g => (Tryz.prog.globals[g]?).map (·.type)) = some 85) (h : Lib.VarReads Tryz.prog W n (.iface s d)) : ∃ tp p, W.var? Tryz.prog n = some #[.iface tp p] := by
  obtain ⟨g, t, cs, fuel, p, h1, h2, h3, h4⟩ := h
  rw [h1] at hT
  obtain rfl : t = 85 := Option.some.inj (h2.symm.trans hT)
  obtain ⟨_, u, v, e, _⟩ := iface_of_trod Tryz.underlying85 h4
  refine ⟨u, v, ?_⟩
  rw [h3, Array.eq_one_of_toList e]
theorem tabs_of {W : World} (hL : laidMetH Tryz.prog laidL W) (hsh : W.ShapedOpen Tryz.prog) : TabsB W.heap.size W := by
  rw [laidL_plain] at hL
  have hpow : Lib.TabIs Tryz.prog W "internal/strconv.uint64pow10" .u64 Lib.pow10Tab := by
    obtain ⟨g, t, cs, fuel, p, h1, h2, h3, h4⟩ := Lib.laidMet.reads hL (n := "internal/strconv.uint64pow10") (d := Rows.laid_internal_strconv_uint64pow10) (by unfold laidL; simp)
    have hT : (Tryz.prog.globalNamed "internal/strconv.uint64pow10").bind (fun g => (Tryz.prog.globals[g]?).map (·.type)) = some 175 := by kernel_rfl
    rw [h1] at hT
    obtain rfl : t = 175 := Option.some.inj (h2.symm.trans hT)
    have h5 : Rows.laid_internal_strconv_uint64pow10 (H := Unit) = Lib.tabData .u64 Lib.pow10Tab := by kernel_rfl
    rw [h5] at h4
    have h6 := Lib.cells_of_tab Tryz.underlying175 Tryz.underlying162 (by kernel_rfl) (by kernel_rfl) h4
    unfold Lib.TabIs
    rw [h3, ← h6]
  obtain ⟨tp1, p1, hsy⟩ := err_cell (n := "strconv.ErrSyntax") (by kernel_rfl) (Lib.laidMet.reads hL (n := "strconv.ErrSyntax") (d := Rows.laid_strconv_ErrSyntax) (by unfold laidL; simp))
  obtain ⟨tp2, p2, hrg⟩ := err_cell (n := "strconv.ErrRange") (by kernel_rfl) (Lib.laidMet.reads hL (n := "strconv.ErrRange") (d := Rows.laid_strconv_ErrRange) (by unfold laidL; simp))
  obtain ⟨m, hm⟩ := Go.Proofs.cell_of_shapedOpen_int (P := Tryz.prog) (g := 0) (k := .i64) (zero := #[.int .i64 0]) (t := 3) hsh (of_decide_eq_true (by kernel_rfl)) (by kernel_rfl) rfl (by kernel_rfl) (by kernel_rfl) Tryz.underlying3
  intro w hb
  refine ⟨var_below hpow hb, ⟨tp1, p1, var_below hsy hb⟩, ⟨tp2, p2, var_below hrg hb⟩, m, ?_⟩
  have hlt : 0 < W.heap.size := by
    rcases Nat.eq_zero_or_pos W.heap.size with h | h
    · simp [World.cell?, Array.getElem?_eq_none (show W.heap.size ≤ 0 by omega)] at hm
    · exact h
  exact (hb.cell (p := ⟨0, 0, none⟩) hlt).trans hm
theorem Tryz.own : ownKnob Tryz.prog.godebug = none := by kernel_rfl
theorem Tryz.laidOut : laidOutB Tryz.prog = true := by kernel_rfl
end Go.Proofs.YtnkpfpgmbpnbgaaGreatDoor

/- From arguments that came in to rows that are only read. -/
namespace Go.Eng
open Go.ChangeShapes Go.WideShapes Go.ChangeAt Go.RowKit Go.Deep

/-- In this world the cells xs lie from A on. -/
def Old (W : World) (A : Option Addr) (xs : List Value) : Prop := ∀ j v, xs[j]? = some v → ∃ g o, A = some ⟨g, o, none⟩ ∧ g < W.heap.size ∧ W.cell? ⟨g, o + j, none⟩ = some v
theorem Old.rd {W : World} {H : List HP} {A : Option Addr} {xs : List Value} (h : Old W A xs) : Rd W.heap.size W H A xs := Rd.old h

theorem cell_lt {W : World} {a : Addr} {v : Value} (h : W.cell? a = some v) : a.block < W.heap.size := by
  unfold World.cell? at h
  rcases Nat.lt_or_ge a.block W.heap.size with h1 | h1
  · exact h1
  · rw [Array.getElem?_eq_none h1] at h; cases h

section
variable {H : Type} {enc : TypeId × Value → H} {P : Program} {W : World} {held : Bool}

/-- A slice that came in: its elements, and where they lie; f: an element's cells; good: what is known of an element. -/
theorem open_rows {α : Type} {f : α → List Value} {good : α → Prop} {t e q : Nat} {fuel : Nat} {A : Option Addr} {len cap : Nat} {x : DataW H × List MemPlace} {spare : Nat → Bool} (ht : P.underlying t = some (.slice e)) (hc : P.cellsOf e = q) (h0 : 0 < q)
    (hel : ∀ n cs y, cs.length = q → DataW.trod enc P W 0 spare held n e cs = some y → ∃ a, cs = f a ∧ good a) (h : DataW.trod enc P W 0 spare held fuel t [.slice A len cap] = some x) :
    ∃ l : List α, l.length = len ∧ Old W A (l.flatMap f) ∧ (∀ a ∈ l, good a) ∧ len ≤ maxLen ∧ (∀ a ∈ l, (f a).length = q) := by
  rcases open_slice ht h with ⟨h1, _⟩ | ⟨a, len', cap', m, n, D, Pl, h1, _, hl, hm, hmm, hxx, hx⟩
  · injection h1 with h1 _
    injection h1 with h1 h2 h3
    subst h1 h2 h3
    exact ⟨[], rfl, (fun j v hv => by simp at hv), (fun a ha => by cases ha), Nat.zero_le _, (fun a ha => by cases ha)⟩
  · injection h1 with h1 _
    injection h1 with h1 h2 h3
    subst h1 h2 h3
    have hle : len ≤ m := by rw [hmm]; split <;> omega
    rw [hc] at hx
    have key : ∀ i, i < len → ∃ b : α, W.cells? 0 (a.add (i * q)) q = some (f b) ∧ good b := fun i hi => by
      obtain ⟨cs', h2, h3⟩ := hx i (by omega)
      obtain ⟨_, h5, _⟩ := World.cells?_some h2
      obtain ⟨b, rfl, hb⟩ := hel n cs' _ h5 h3
      exact ⟨b, h2, hb⟩
    obtain ⟨l, hlen, hl2⟩ : ∃ l : List α, l.length = len ∧ ∀ i b, l[i]? = some b → W.cells? 0 (a.add (i * q)) q = some (f b) ∧ good b := by
      clear hx hmm hle h hl hm hxx
      induction len with
      | zero => exact ⟨[], rfl, fun i b hb => by simp at hb⟩
      | succ k ih =>
        obtain ⟨l, h2, h3⟩ := ih (fun i hi => key i (by omega))
        obtain ⟨b, h4⟩ := key k (by omega)
        refine ⟨l ++ [b], by simp [h2], fun i c hc => ?_⟩
        by_cases hi : i < l.length
        · rw [List.getElem?_append_left hi] at hc; exact h3 i c hc
        · rw [List.getElem?_append_right (by omega)] at hc
          have hi2 : i - l.length = 0 := by
            have := (List.getElem?_eq_some_iff.1 hc).1
            simp at this; omega
          rw [hi2] at hc
          obtain rfl : b = c := by simpa using hc
          obtain rfl : i = k := by omega
          exact h4
    have hfq : ∀ b ∈ l, (f b).length = q := fun b hb => by
      obtain ⟨i, hi⟩ := List.getElem?_of_mem hb
      exact (World.cells?_some (hl2 i b hi).1).2.1
    refine ⟨l, hlen, fun j v hv => ?_, fun b hb => ?_, by omega, hfq⟩
    · have hspl : ∃ i b, l[i]? = some b ∧ ∃ r, j = i * q + r ∧ r < q ∧ (f b)[r]? = some v := by
        clear hlen hl2 key
        induction l generalizing j with
        | nil => simp at hv
        | cons b l ih =>
          rw [List.flatMap_cons] at hv
          have hb := hfq b (by simp)
          by_cases hj : j < q
          · rw [List.getElem?_append_left (by omega)] at hv
            exact ⟨0, b, rfl, j, by omega, hj, hv⟩
          · rw [List.getElem?_append_right (by omega), hb] at hv
            obtain ⟨i, b', h5, r, h6, h7, h8⟩ := ih (fun c hc => hfq c (by simp [hc])) (j - q) hv
            exact ⟨i + 1, b', by simpa using h5, r, by rw [Nat.add_mul]; omega, h7, h8⟩
      obtain ⟨i, b, h5, r, rfl, h7, h8⟩ := hspl
      have h9 := (World.cells?_some (hl2 i b h5).1).2.2 r h7
      rw [h8, add_add] at h9
      obtain ⟨ab, ao, spot⟩ := a
      have hs0 : spot = none := by
        have h10 := World.cell?_spot h9
        unfold Addr.add at h10
        split at h10
        · exact h10
        · rename_i hne
          have hi0 : i < len := by have := (List.getElem?_eq_some_iff.1 h5).1; omega
          have h11 := (World.cells?_some (hl2 0 l[0] (List.getElem?_eq_getElem (by omega))).1).2.2 0 h0
          rw [add_add, Nat.zero_mul, Nat.zero_add] at h11
          have hf0 : ((f l[0])[0]?).isSome = true := by
            rw [List.getElem?_eq_getElem (by rw [hfq _ (List.getElem_mem _)]; exact h0)]; rfl
          cases hf1 : (f l[0])[0]? with
          | none => rw [hf1] at hf0; cases hf0
          | some u =>
            rw [hf1] at h11
            exact World.cell?_spot h11
      subst hs0
      refine ⟨ab, ao, rfl, ?_, ?_⟩
      · have := cell_lt h9
        rw [Addr.add_lit] at this
        exact this
      · rw [Addr.add_lit] at h9
        exact h9
    · obtain ⟨i, hi⟩ := List.getElem?_of_mem hb
      exact (hl2 i b hi).2

end
end Go.Eng

/- From arguments that came in to what the walks speak of: openers, built up as types are. -/
namespace Go.Eng
open Go.ChangeShapes Go.WideShapes Go.ChangeAt Go.RowKit Go.Deep

/-- A slice: where it lies, its capacity, its elements. -/
structure SlM (α : Type) where
  A : Option Addr
  cap : Nat
  xs : List α
def SlM.val {α : Type} (s : SlM α) : Value := .slice s.A s.xs.length s.cap

section
variable {H : Type} {enc : TypeId × Value → H} {P : Program} {W : World} {spare : Nat → Bool} {held : Bool}

/-- Cells that are read as a value of type t are those of some a that is good. -/
def Opn (enc : TypeId × Value → H) (P : Program) (W : World) (spare : Nat → Bool) (held : Bool) (t : TypeId) {α : Type} (f : α → List Value) (good : α → Prop) : Prop :=
  ∀ fuel cs y, DataW.trod enc P W 0 spare held fuel t cs = some y → ∃ a, cs = f a ∧ good a

theorem op_map {t : TypeId} {α β : Type} {f : α → List Value} {good : α → Prop} {f' : β → List Value} {good' : β → Prop} (h : Opn enc P W spare held t f good) (g : α → β) (hf : ∀ a, f a = f' (g a)) (hg : ∀ a, good a → good' (g a)) : Opn enc P W spare held t f' good' := by
  intro fuel cs y hy
  obtain ⟨a, h1, h2⟩ := h fuel cs y hy
  exact ⟨g a, h1.trans (hf a), hg a h2⟩

theorem op_int {t : TypeId} {k : IntKind} (ht : P.underlying t = some (.int k)) : Opn enc P W spare held t (fun z : Int => [Value.int k z]) (fun z => (Lit.int k z).wf = true) := by
  intro fuel cs y hy
  obtain ⟨m, rfl, rfl, hw⟩ := DataW.trod_int ht hy
  exact ⟨m, rfl, hw⟩

/-- What is known of a slice that came in. -/
structure SlG {α : Type} (W : World) (f : α → List Value) (good : α → Prop) (s : SlM α) : Prop where
  old : Old W s.A (s.xs.flatMap f)
  good : ∀ a ∈ s.xs, good a
  len : s.xs.length ≤ maxLen
  cap : s.xs.length ≤ s.cap

theorem op_slice {t e q : TypeId} {α : Type} {f : α → List Value} {good : α → Prop} (ht : P.underlying t = some (.slice e)) (hc : P.cellsOf e = q) (h0 : 0 < q) (h : Opn enc P W spare held e f good) : Opn enc P W spare held t (fun s : SlM α => [s.val]) (SlG W f good) := by
  intro fuel cs y hy
  rcases open_slice ht hy with ⟨rfl, _⟩ | ⟨a, len, cap, m, n, D, Pl, rfl, _, hlc, _⟩
  · exact ⟨⟨none, 0, []⟩, rfl, ⟨(fun j v hv => by simp at hv), (fun a ha => by cases ha), Nat.zero_le _, Nat.zero_le _⟩⟩
  · obtain ⟨l, h1, h2, h3, h4, _⟩ := open_rows ht hc h0 (fun n cs y _ hy => h n cs y hy) hy
    subst h1
    exact ⟨⟨some a, cap, l⟩, rfl, h2, h3, h4, hlc⟩

/-- The same for the fields of a struct, one behind the other. -/
def FOpn (enc : TypeId × Value → H) (P : Program) (W : World) (spare : Nat → Bool) (held : Bool) (ts : List TypeId) {α : Type} (f : α → List Value) (good : α → Prop) : Prop :=
  ∀ (n : Nat) (cs : List Value), cs.length = (ts.map P.cellsOf).sum → (∀ i t, ts[i]? = some t → ∃ y, DataW.trod enc P W 0 spare held n t ((cs.drop ((ts.take i).map P.cellsOf).sum).take (P.cellsOf t)) = some y) → ∃ a, cs = f a ∧ good a

theorem fop_nil : FOpn enc P W spare held [] (fun _ : Unit => []) (fun _ => True) := fun n cs h _ => ⟨(), List.eq_nil_of_length_eq_zero (by simpa using h), trivial⟩
theorem fop_cons {t : TypeId} {ts : List TypeId} {α β : Type} {f : α → List Value} {good : α → Prop} {g : β → List Value} {good' : β → Prop} (h : Opn enc P W spare held t f good) (hs : FOpn enc P W spare held ts g good') :
    FOpn enc P W spare held (t :: ts) (fun x : α × β => f x.1 ++ g x.2) (fun x => good x.1 ∧ good' x.2) := by
  intro n cs hl hx
  simp only [List.map_cons, List.sum_cons] at hl
  obtain ⟨y, hy⟩ := hx 0 t rfl
  simp only [List.take_zero, List.map_nil, List.sum_nil, List.drop_zero] at hy
  obtain ⟨a, h1, h2⟩ := h n _ y hy
  obtain ⟨b, h3, h4⟩ := hs n (cs.drop (P.cellsOf t)) (by simp; omega) (fun i u hu => by
    obtain ⟨y, hy⟩ := hx (i + 1) u (by simpa using hu)
    refine ⟨y, ?_⟩
    rw [List.drop_drop]
    simpa using hy)
  exact ⟨(a, b), by show cs = f a ++ g b; rw [← h1, ← h3, List.take_append_drop], h2, h4⟩

def offs (P : Program) : List TypeId → Nat → List Nat
  | [], _ => []
  | t :: ts, o => o :: offs P ts (o + P.cellsOf t)
theorem offs_get (P : Program) : ∀ (ts : List TypeId) (o i : Nat), i < ts.length → (offs P ts o)[i]? = some (o + ((ts.take i).map P.cellsOf).sum)
  | [], _, _, h => by simp at h
  | t :: ts, o, 0, _ => by simp [offs]
  | t :: ts, o, i + 1, h => by
    rw [offs, List.getElem?_cons_succ, offs_get P ts _ i (by simpa using h)]
    simp [Nat.add_assoc]
/-- A struct whose fields have these types, one behind the other. -/
def structB (P : Program) (t : TypeId) (ts : List TypeId) : Bool :=
  match P.underlying t with
  | some (.struct fs) => (fs.toList.map (·.type) == ts) && (fs.toList.map (·.offset) == offs P ts 0) && (P.cellsOf t == (ts.map P.cellsOf).sum)
  | _ => false

theorem op_struct {t : TypeId} {ts : List TypeId} {α : Type} {f : α → List Value} {good : α → Prop} (hB : structB P t ts = true) (h : FOpn enc P W spare held ts f good) : Opn enc P W spare held t f good := by
  intro fuel cs y hy
  unfold structB at hB
  cases hu : P.underlying t with
  | none => rw [hu] at hB; cases hB
  | some d =>
    rw [hu] at hB
    cases d with
    | struct fs =>
      simp only [Bool.and_eq_true, beq_iff_eq] at hB
      obtain ⟨⟨h1, h2⟩, h3⟩ := hB
      obtain ⟨xs, n, _, _, hl, hn, hx⟩ := DataW.trod_struct hu hy
      refine h n cs (hl.trans h3) fun i u hi => ?_
      have hlt : i < ts.length := (List.getElem?_eq_some_iff.1 hi).1
      have hlf : i < fs.toList.length := by rw [← h1] at hlt; simpa using hlt
      have hf : fs[i]? = some (fs.toList[i]) := by rw [← Array.getElem?_toList, List.getElem?_eq_getElem hlf]
      have ht : (fs.toList[i]).type = u := by
        rw [← h1, List.getElem?_map, List.getElem?_eq_getElem hlf] at hi
        simpa using hi
      have ho : (fs.toList[i]).offset = ((ts.take i).map P.cellsOf).sum := by
        have h5 := offs_get P ts 0 i hlt
        rw [← h2, List.getElem?_map, List.getElem?_eq_getElem hlf] at h5
        simpa using h5
      have h6 := hx i _ hf
      rw [ht, ho] at h6
      have hlx : i < xs.length := by rw [hn]; simpa using hlf
      exact ⟨xs[i], by rw [h6, List.getElem?_eq_getElem hlx]⟩
    | _ => cases hB

theorem wf_i64 {z : Int} (h : (Lit.int .i64 z).wf = true) : -9223372036854775808 ≤ z ∧ z ≤ 9223372036854775807 := by
  simp only [Lit.wf, Bool.and_eq_true, decide_eq_true_eq] at h
  have e1 : IntKind.min .i64 = -9223372036854775808 := by decide
  have e2 : IntKind.max .i64 = 9223372036854775807 := by decide
  omega
end
end Go.Eng

/- A network that came in as an argument. -/
namespace Go.Proofs.YtnkpfpgmbpnbgaaGreatDoor
open Go.ChangeShapes Go.WideShapes Go.ChangeAt Go.RowKit Go.Eng Go.Nw

section
variable {H : Type} {enc : TypeId × Value → H} {W : World} {spare : Nat → Bool} {held : Bool}
abbrev I64 (z : Int) : Prop := (Lit.int .i64 z).wf = true
theorem op_i : Opn enc Tryz.prog W spare held 3 numF I64 := op_int Tryz.underlying3
structure NetG (W : World) (n : NetM) : Prop where
  nodes : I64 n.nodes
  pw : Old W n.pA (n.rows.flatMap rowF)
  rw_ : ∀ r ∈ n.rows, Old W r.A (r.xs.flatMap numF)
  noise : I64 n.noise
  thr : I64 n.thr
  lk : Old W n.lA (n.links.flatMap lkF)
  mg : Old W n.mA (n.margin.flatMap numF)
  s1 : n.rows.length ≤ 9223372036854775807
  s2 : ∀ r ∈ n.rows, r.xs.length ≤ 9223372036854775807
  s3 : n.links.length ≤ 9223372036854775807
  s4 : n.margin.length ≤ 9223372036854775807
  w1 : ∀ r ∈ n.rows, ∀ z ∈ r.xs, I64 z
  w2 : ∀ l ∈ n.links, I64 l.1 ∧ I64 l.2.1 ∧ I64 l.2.2
  w3 : ∀ z ∈ n.margin, I64 z
  c3 : n.links.length ≤ n.lcap
  c4 : n.margin.length ≤ n.mcap
theorem NetG.In {n : NetM} {K : List HP} (h : NetG W n) : n.In W.heap.size W K := ⟨h.pw.rd, fun r hr => (h.rw_ r hr).rd, h.lk.rd, h.mg.rd, h.s1, h.s2, h.s3, h.s4⟩

theorem maxL : maxLen ≤ 9223372036854775807 := by decide
end
end Go.Proofs.YtnkpfpgmbpnbgaaGreatDoor

/- From a row's argument to a schedule, a cell, a list of flows, a text. -/
namespace Go.Proofs.YtnkpfpgmbpnbgaaGreatDoor
open Go.ChangeShapes Go.WideShapes Go.ChangeAt Go.RowKit Go.Eng Go.Nw
open Go.ChangeMaps (open_string)

section
variable {H : Type} {enc : TypeId × Value → H} {W : World} {spare : Nat → Bool} {held : Bool}
abbrev CelG (c : Cel) : Prop := I64 c.1 ∧ I64 c.2.1 ∧ I64 c.2.2.1 ∧ I64 c.2.2.2.1 ∧ I64 c.2.2.2.2
theorem op_cell : Opn enc Tryz.prog W spare held 51 celF CelG :=
  op_map (op_struct (ts := [3, 3, 3, 3, 3]) (by kernel_rfl) (fop_cons op_i (fop_cons op_i (fop_cons op_i (fop_cons op_i (fop_cons op_i fop_nil)))))) (fun x => (x.1, x.2.1, x.2.2.1, x.2.2.2.1, x.2.2.2.2.1)) (fun _ => rfl) (fun _ h => ⟨h.1, h.2.1, h.2.2.1, h.2.2.2.1, h.2.2.2.2.1⟩)
theorem op_cells : Opn enc Tryz.prog W spare held 28 (fun s : SlM Cel => [s.val]) (SlG W celF CelG) := op_slice (q := 5) Tryz.underlying28 (by kernel_rfl) (by decide) op_cell
structure SchG (W : World) (s : SchM) : Prop where
  len : I64 s.len
  off : I64 s.off
  old : Old W s.A (s.cells.flatMap celF)
  few : s.cells.length ≤ 9223372036854775807
  good : ∀ c ∈ s.cells, CelG c
  cap : s.cells.length ≤ s.cap
def schF (s : SchM) : List Value := [.int .i64 s.len, .int .i64 s.off, .slice s.A s.cells.length s.cap]
theorem op_sch : Opn enc Tryz.prog W spare held 30 schF (SchG W) :=
  op_map (op_struct (ts := [3, 3, 28]) (by kernel_rfl) (fop_cons op_i (fop_cons op_i (fop_cons op_cells fop_nil))))
    (fun x => ⟨x.1, x.2.1, x.2.2.1.A, x.2.2.1.cap, x.2.2.1.xs⟩) (fun x => by simp [schF, numF, SlM.val])
    (fun x h => by
      obtain ⟨h1, h2, h3, _⟩ := h
      exact ⟨h1, h2, h3.old, Nat.le_trans h3.len maxL, h3.good, h3.cap⟩)
set_option maxRecDepth 100000 in
theorem open_sch {r : Reach} {b0 : Nat} {v : Value} {d : DataW H} {p : List MemPlace} (hv : Value.okWide Tryz.prog W r b0 30 v) (h : DataW.Trod enc Tryz.prog W 0 spare held 30 v d p) : ∃ s : SchM, v = s.val ∧ SchG W s := by
  obtain ⟨cs, rfl, _⟩ := okWide_struct Tryz.underlying30 hv
  obtain ⟨fuel, hf⟩ := h
  obtain ⟨n, h1, h2⟩ := op_sch fuel _ _ hf
  refine ⟨n, ?_, h2⟩
  have : cs = (schF n).toArray := by rw [← h1]; simp [Value.cells]
  rw [this]; rfl
set_option maxRecDepth 100000 in
theorem open_cell {r : Reach} {b0 : Nat} {v : Value} {d : DataW H} {p : List MemPlace} (hv : Value.okWide Tryz.prog W r b0 51 v) (h : DataW.Trod enc Tryz.prog W 0 spare held 51 v d p) : ∃ c : Cel, v = celV c ∧ CelG c := by
  obtain ⟨cs, rfl, _⟩ := okWide_struct Tryz.underlying51 hv
  obtain ⟨fuel, hf⟩ := h
  obtain ⟨n, h1, h2⟩ := op_cell fuel _ _ hf
  refine ⟨n, ?_, h2⟩
  have : cs = (celF n).toArray := by rw [← h1]; simp [Value.cells]
  rw [this]; rfl
end
end Go.Proofs.YtnkpfpgmbpnbgaaGreatDoor

/- The law ScheduleEdits returns true at every input, and its arguments read behind the call as they read before: the statement Rows.ScheduleEditsCardSaid. Condition: the listed package-level variables start as the program's text lays them, to which the card ties them. -/
namespace Go.Proofs.YtnkpfpgmbpnbgaaGreatDoor
open Go.ChangeShapes Go.WideShapes Go.ChangeAt Go.RowKit Go.Eng
open Go.ChangeMaps (open_string)

set_option maxRecDepth 100000 in
theorem sedits_lifted (os : Os) (started : os.Started) (H : Type) (enc : TypeId × Value → H) :
    ReturnsInHanded {} Tryz.checked os 9 .any (fun w args => (Rows.scheduleEditsSpec.pre enc Tryz.prog Tryz.f9 [] false w args ∧ laidMetH Tryz.prog laidL w) ∧ sizedMet enc Tryz.prog Tryz.f9 (OpenSpec.ofChange Rows.scheduleEditsSpec) false w args)
      (Rows.scheduleEditsSpec.post enc Tryz.prog Tryz.f9 false true false false) := by
  refine handed_and_shaped (C := Tryz.checked) (X := fun w => laidMetH Tryz.prog laidL w) (fun _ _ hh h => h.of_heap hh) Tryz.own started (by kernel_rfl) Tryz.func9
    (ChangeSpec.witness_shaped (enc := enc) (C := Tryz.checked) (os := os) (X := fun w _ => laidMetH Tryz.prog laidL w) false (laidWorld os) #[.agg #[.int .i64 0, .int .i64 0, .slice none 0 0], .agg #[.int .i64 0, .int .i64 0, .slice none 0 0], .int .i64 0, .agg #[.int .i64 0, .int .i64 0, .int .i64 0, .int .i64 0, .int .i64 0]] 8 rfl (laidWorld_shaped os _) (by kernel_rfl) (by kernel_rfl) (by kernel_rfl) (laidWorld_met os _)) ?_
  intro W base args ds gs before hval0 hW hL hsh
  have hval : ∀ (j : Nat) t v, Tryz.f9.params[j]? = some t → args[j]? = some v → Value.okWide Tryz.prog W .any base t v := hval0
  have hW' : DataW.Whole enc Tryz.prog Tryz.f9.params.toList Rows.scheduleEditsSpec.vars false W args.toList ds gs before := hW
  obtain ⟨p, q, hA0, hV, rfl, hfz, hnd⟩ := hW
  have hA : DataW.TrodAll enc Tryz.prog W 0 (fun _ => true) true Tryz.f9.params.toList args.toList ds p := hA0
  obtain ⟨rfl, rfl⟩ := trodVars_none hV
  rw [Tryz.params9] at hA hval
  obtain ⟨v0, v1, v2, v3, d0, d1, d2, d3, p0, p1, p2, p3, rfl, rfl, rfl, h0, h1, h2, h3⟩ := trodAll_four hA
  obtain ⟨a, rfl, ha⟩ := open_sch (hval 0 _ v0 rfl rfl) h0
  obtain ⟨b, rfl, hb⟩ := open_sch (hval 1 _ v1 rfl rfl) h1
  obtain ⟨slot, rfl, -, -, hwslot⟩ := open_int Tryz.underlying3 (hval 2 _ v2 rfl rfl) h2
  have hslot := wf_i64 hwslot
  obtain ⟨c, rfl, hc⟩ := open_cell (hval 3 _ v3 rfl rfl) h3
  have ht := tabs_of hL hsh
  refine (law_edits a b slot c ht ha.old.rd hb.old.rd (St.start W)).mono ?_
  rintro e' W' ⟨v, K, rfl, hst, rfl, -⟩
  exact ⟨_, rfl, post_true Tryz.laidOut (by kernel_rfl) rfl rfl Tryz.underlying4 hW' hst.below rfl rfl rfl⟩
theorem sedits_row : Rows.ScheduleEditsSaid :=
  OpenClaim.holds_of_wide 9 Tryz.f9 rfl rfl rfl rfl rfl rfl rfl ⟨rfl, rfl, rfl, rfl, rfl⟩ rfl rfl rfl rfl rfl (by kernel_rfl) Tryz.func9 (by kernel_rfl)
    (of_decide_eq_true (by kernel_rfl)) (by unfold Func.isWrapper; first | (rw [if_pos (by decide +kernel)]; kernel_rfl) | (rw [if_neg (by decide +kernel)]; exact ⟨rfl, rfl⟩))
    (fun os started H enc _ => sedits_lifted os started H enc)
theorem sedits_holds : Rows.ScheduleEditsCardSaid :=
  Claim7.holds_tied_plain_at .later [] [.data, .data, .data, .data, .sentinel, .sentinel, .pinned] true _ true
    sedits_row (fun _ h => by cases h) (by kernel_rfl) (fun _ h => by cases h) scheduleEdits_row_tie rfl ⟨rfl, rfl⟩ (by kernel_rfl) rfl
    (fun f fn hf hfn => by
      obtain rfl : f = 9 := Option.some.inj ((show Tryz.prog.funcNamed Tryz.f9.name = some 9 by kernel_rfl).symm.trans hf) |>.symm
      obtain rfl : fn = Tryz.f9 := (Option.some.inj (Tryz.func9.symm.trans hfn)).symm
      exact ⟨by kernel_rfl, fun j t htj => by
        have hm := Array.mem_of_getElem? htj
        have hall : (Tryz.f9.params.toList.all fun u => !Tryz.prog.wantsStandIn u) = true := by kernel_rfl
        exact (show Tryz.prog.wantsStandIn t = false by simpa using List.all_eq_true.1 hall t (by simpa using hm))⟩)
    (by kernel_rfl)
end Go.Proofs.YtnkpfpgmbpnbgaaGreatDoor
