/- Lemmas for the claim, part 4. -/
import Derived.Test.YtmalhidldgfeoaaGreatDoorQ3

/- From a walk to a row: more arguments; bounds of numbers. -/
namespace Go.Proofs.YtmalhidldgfeoaaGreatDoor
open Go.ChangeShapes Go.WideShapes Go.ChangeAt Go.RowKit
section
variable {H : Type} {enc : TypeId × Value → H} {P : Program} {w : World} {base : Nat} {spare : Nat → Bool} {held : Bool}
end
theorem wf_u8 {z : Int} (h : (Lit.int .u8 z).wf = true) : 0 ≤ z ∧ z ≤ 255 := by
  simp only [Lit.wf, Bool.and_eq_true, decide_eq_true_eq] at h
  have e1 : IntKind.min .u8 = 0 := by decide
  have e2 : IntKind.max .u8 = 255 := by decide
  omega
end Go.Proofs.YtmalhidldgfeoaaGreatDoor

/- From a row's argument to a schedule, a cell, a list of flows, a text. -/
namespace Go.Proofs.YtmalhidldgfeoaaGreatDoor
open Go.ChangeShapes Go.WideShapes Go.ChangeAt Go.RowKit Go.Eng Go.Nw
open Go.ChangeMaps (open_string)

def flwF (f : Flw) : List Value := [.int .i64 f.1, .int .i64 f.2.1, .int .i64 f.2.2.1, .int .i64 f.2.2.2.1, .int .i64 f.2.2.2.2.1, .int .i64 f.2.2.2.2.2]
section
variable {H : Type} {enc : TypeId × Value → H} {W : World} {spare : Nat → Bool} {held : Bool}
abbrev CelG (c : Cel) : Prop := I64 c.1 ∧ I64 c.2.1 ∧ I64 c.2.2.1 ∧ I64 c.2.2.2.1 ∧ I64 c.2.2.2.2
abbrev FlwG (f : Flw) : Prop := I64 f.1 ∧ I64 f.2.1 ∧ I64 f.2.2.1 ∧ I64 f.2.2.2.1 ∧ I64 f.2.2.2.2.1 ∧ I64 f.2.2.2.2.2
theorem op_cell : Opn enc Tryz.prog W spare held 40 celF CelG :=
  op_map (op_struct (ts := [3, 3, 3, 3, 3]) (by kernel_rfl) (fop_cons op_i (fop_cons op_i (fop_cons op_i (fop_cons op_i (fop_cons op_i fop_nil)))))) (fun x => (x.1, x.2.1, x.2.2.1, x.2.2.2.1, x.2.2.2.2.1)) (fun _ => rfl) (fun _ h => ⟨h.1, h.2.1, h.2.2.1, h.2.2.2.1, h.2.2.2.2.1⟩)
theorem op_cells : Opn enc Tryz.prog W spare held 28 (fun s : SlM Cel => [s.val]) (SlG W celF CelG) := op_slice (q := 5) Tryz.underlying28 (by kernel_rfl) (by decide) op_cell
theorem op_flow : Opn enc Tryz.prog W spare held 68 flwF FlwG :=
  op_map (op_struct (ts := [3, 3, 3, 3, 3, 3]) (by kernel_rfl) (fop_cons op_i (fop_cons op_i (fop_cons op_i (fop_cons op_i (fop_cons op_i (fop_cons op_i fop_nil))))))) (fun x => (x.1, x.2.1, x.2.2.1, x.2.2.2.1, x.2.2.2.2.1, x.2.2.2.2.2.1)) (fun _ => rfl) (fun _ h => ⟨h.1, h.2.1, h.2.2.1, h.2.2.2.1, h.2.2.2.2.1, h.2.2.2.2.2.1⟩)
theorem op_flows : Opn enc Tryz.prog W spare held 27 (fun s : SlM Flw => [s.val]) (SlG W flwF FlwG) := op_slice (q := 6) Tryz.underlying27 (by kernel_rfl) (by decide) op_flow
structure SchG (W : World) (s : SchM) : Prop where
  len : I64 s.len
  off : I64 s.off
  old : Old W s.A (s.cells.flatMap celF)
  few : s.cells.length ≤ 9223372036854775807
  good : ∀ c ∈ s.cells, CelG c
  cap : s.cells.length ≤ s.cap
def schF (s : SchM) : List Value := [.int .i64 s.len, .int .i64 s.off, .slice s.A s.cells.length s.cap]
theorem op_sch : Opn enc Tryz.prog W spare held 30 schF (SchG W) :=
  op_map (op_struct (ts := [3, 3, 28]) (by kernel_rfl) (fop_cons op_i (fop_cons op_i (fop_cons op_cells fop_nil))))
    (fun x => ⟨x.1, x.2.1, x.2.2.1.A, x.2.2.1.cap, x.2.2.1.xs⟩) (fun x => by simp [schF, numF, SlM.val])
    (fun x h => by
      obtain ⟨h1, h2, h3, _⟩ := h
      exact ⟨h1, h2, h3.old, Nat.le_trans h3.len maxL, h3.good, h3.cap⟩)
set_option maxRecDepth 100000 in
theorem open_sch {r : Reach} {b0 : Nat} {v : Value} {d : DataW H} {p : List MemPlace} (hv : Value.okWide Tryz.prog W r b0 30 v) (h : DataW.Trod enc Tryz.prog W 0 spare held 30 v d p) : ∃ s : SchM, v = s.val ∧ SchG W s := by
  obtain ⟨cs, rfl, _⟩ := okWide_struct Tryz.underlying30 hv
  obtain ⟨fuel, hf⟩ := h
  obtain ⟨n, h1, h2⟩ := op_sch fuel _ _ hf
  refine ⟨n, ?_, h2⟩
  have : cs = (schF n).toArray := by rw [← h1]; simp [Value.cells]
  rw [this]; rfl
set_option maxRecDepth 100000 in
theorem open_flows {r : Reach} {b0 : Nat} {v : Value} {d : DataW H} {p : List MemPlace} (hv : Value.okWide Tryz.prog W r b0 27 v) (h : DataW.Trod enc Tryz.prog W 0 spare held 27 v d p) : ∃ s : SlM Flw, v = s.val ∧ SlG W flwF FlwG s := by
  obtain ⟨a, len, cap, rfl⟩ := okWide_slice Tryz.underlying27 hv
  obtain ⟨fuel, hf⟩ := h
  obtain ⟨n, h1, h2⟩ := op_flows fuel _ _ hf
  refine ⟨n, ?_, h2⟩
  injection h1
end
end Go.Proofs.YtmalhidldgfeoaaGreatDoor

/- Walks: flow.Check, flow.Find. -/
namespace Go.Proofs.YtmalhidldgfeoaaGreatDoor
open Go.RowKit Go.Eng Go.Nw

def flwV (f : Flw) : Value := .agg #[.int .i64 f.1, .int .i64 f.2.1, .int .i64 f.2.2.1, .int .i64 f.2.2.2.1, .int .i64 f.2.2.2.2.1, .int .i64 f.2.2.2.2.2]
theorem flwAt_some {l : List Flw} {i : Nat} (h : i < l.length) : l[i]? = some (flwAt l i) := by
  unfold flwAt; rw [List.getD_eq_getElem?_getD, List.getElem?_eq_getElem h]; rfl
theorem fnode_spec (v nodes : Int) (gn : Nat) {B : Nat} {w0 : World} {H : List HP} {w : World} (hm : blk gn (.cells #[.int .i64 nodes] 3 (0, 0)) ∈ H) (hw : St B w0 H w) :
    Calls Tryz.prog 167 [.int .i64 v, .pointer (some ⟨gn, 0, none⟩)].toArray w (Post B w0 fun u K => u = .bool (insE v nodes) ∧ K = H) := by
  refine Calls_of_VC Tryz.func167 Tryz.ntmps167 rfl rfl hw ?_
  repeat' (first | apply (zs1 ?_) | apply (zs2 ?_) | (apply zg1; first | refine zs3 ?_ | refine zs4 ?_) | (apply zg3; refine zs7 ?_) | (apply zg6; first | refine zs11 ?_ | refine zs12 ?_) | (apply (zs17 ?_ ?_) <;> intro _ <;> try (exfalso; omega)) | (apply (zs20 ?_ ?_) <;> intro _ <;> try (exfalso; omega)) | apply (zs65 ?_) | apply (zs68 ?_) | apply (zs69 ?_) | apply (zs70 ?_) | apply (zs74 ?_) | fail)
  all_goals (
    apply VQ_ret1; exact rfl; exact rfl
    first
      | exact ⟨by rw [show insE v nodes = true from decide_eq_true (by omega)], rfl⟩
      | exact ⟨by rw [show insE v nodes = false from decide_eq_false (by omega)], rfl⟩)
set_option maxRecDepth 10000 in
set_option maxHeartbeats 1000000 in
theorem fcheck_spec (nodes : Int) (f : Flw) {B : Nat} {w0 : World} {H : List HP} {w : World} (hw : St B w0 H w) :
    Calls Tryz.prog 110 [.int .i64 nodes, flwV f].toArray w (Post B w0 fun v K => v = .int .i64 (flowE nodes f) ∧ K = H) := by
  refine Calls_of_VC Tryz.func110 Tryz.ntmps110 rfl rfl hw ?_
  obtain ⟨e, he⟩ : ∃ e, flowE nodes f = e := ⟨_, rfl⟩
  rw [he]
  by_cases hA : f.1 < 0 ∨ 255 < f.1
  · repeat' (first | apply (zs1 ?_) | apply (zs2 ?_) | (apply zg1; first | refine zs3 ?_ | refine zs4 ?_) | (apply zg2; refine zs6 ?_) | (apply zg3; refine zs7 ?_) | (apply zg6; first | refine zs11 ?_ | refine zs12 ?_) | (apply (zs17 ?_ ?_) <;> intro _ <;> try (exfalso; omega)) | (apply (zs19 ?_ ?_) <;> intro _ <;> try (exfalso; omega)) | (apply zg23; first | (refine zs52 ?_; intro _) | (refine zs53 ?_; intro _)) | apply (zs65 ?_) | apply (zs68 ?_) | apply (zs69 ?_) | apply (zs70 ?_) | (apply zg27; refine zs71 ?_) | apply (zs73 ?_) | apply (zs74 ?_) | apply (zs77 ?_) | apply (zs78 ?_) | (apply zg29; (apply VL_makeFunc; (repeat (first | exact args_nil | (apply args_cons; exact rfl))) ; exact rfl)) | fail)
    all_goals (
      apply VQ_st H
      · (intro w hw; refine hw.perm ?_; focus repeat (first | with_reducible exact Perm.refl _ | (with_reducible apply perm_take; focus ((repeat (first | with_reducible exact rem_here | with_reducible apply rem_there)); done)) | with_reducible apply Perm.dropK))
      apply VQ_ret1; exact rfl; exact rfl
      refine ⟨?_, rfl⟩
      rw [← he]
      unfold flowE
      first
        | (rw [if_pos (by first | exact .inl (by omega) | exact .inr (.inl (by omega)) | exact .inr (.inr (.inl (by assumption))) | exact .inr (.inr (.inr (by assumption))))]; done)
        | (rw [if_neg (by rintro (h | h | h | h) <;> first | omega | simp_all)]
           first
             | (rw [if_pos (by omega)]; done)
             | (rw [if_neg (by omega), if_pos (by omega)]; done)
             | (rw [if_neg (by omega), if_neg (by omega)]; done)))
  · repeat' (first | apply (zs1 ?_) | apply (zs2 ?_) | (apply zg1; refine zs4 ?_) | (apply zg2; refine zs6 ?_) | (apply zg3; refine zs7 ?_) | (apply zg6; refine zs12 ?_) | (apply (zs17 ?_ ?_) <;> intro _ <;> try (exfalso; omega)) | (apply (zs19 ?_ ?_) <;> intro _ <;> try (exfalso; omega)) | (apply zg23; first | (refine zs52 ?_; intro _) | (refine zs53 ?_; intro _)) | apply (zs65 ?_) | apply (zs68 ?_) | apply (zs69 ?_) | apply (zs70 ?_) | apply (zs73 ?_) | (apply zg29; (apply VL_makeFunc; (repeat (first | exact args_nil | (apply args_cons; exact rfl))) ; exact rfl)) | fail)
    rename_i gn gf _ _
    repeat' (first | ((first | apply VL_callvtb (cs := [.pointer (some ⟨gn, 0, none⟩)]) | apply VL_callvqb (cs := [.pointer (some ⟨gn, 0, none⟩)])); exact rfl; exact en167; (repeat (first | exact args_nil | (apply args_cons; exact rfl))); exact rfl; exact fun _ hw => (fnode_spec _ nodes gn (by (focus repeat (first | with_reducible exact List.mem_cons_self | with_reducible apply List.mem_cons_of_mem | assumption))) hw); all_goals (intro hB; (try simp only [decide_eq_true_eq, decide_eq_false_iff_not] at hB); try (exfalso; omega))) | apply (zs1 ?_) | apply (zs2 ?_) | (apply zg1; first | refine zs3 ?_ | refine zs4 ?_) | (apply zg2; refine zs6 ?_) | (apply zg3; refine zs7 ?_) | (apply zg6; first | refine zs11 ?_ | refine zs12 ?_) | (apply zg7; (refine zs15 ?_ ?_ <;> intro _ <;> try (exfalso; omega))) | (apply (zs17 ?_ ?_) <;> intro _ <;> try (exfalso; omega)) | (apply (zs19 ?_ ?_) <;> intro _ <;> try (exfalso; omega)) | (apply (zs20 ?_ ?_) <;> intro _ <;> try (exfalso; omega)) | (apply zg20; first | refine zs47 ?_ | refine zs48 ?_) | apply (zs65 ?_) | apply (zs68 ?_) | apply (zs69 ?_) | apply (zs70 ?_) | (apply zg27; first | refine zs71 ?_ | refine zs72 ?_) | apply (zs74 ?_) | apply (zs76 ?_) | apply (zs77 ?_) | apply (zs78 ?_) | apply (zs79 ?_) | fail)
    all_goals (
      apply VQ_st H
      · (intro w hw; refine hw.perm ?_; focus repeat (first | with_reducible exact Perm.refl _ | (with_reducible apply perm_take; focus ((repeat (first | with_reducible exact rem_here | with_reducible apply rem_there)); done)) | with_reducible apply Perm.dropK))
      apply VQ_ret1; exact rfl; exact rfl
      refine ⟨?_, rfl⟩
      rw [← he]
      unfold flowE
      first
        | (rw [if_pos (by first | exact .inl (by omega) | exact .inr (.inl (by omega)) | exact .inr (.inr (.inl (by assumption))) | exact .inr (.inr (.inr (by assumption))))]; done)
        | (rw [if_neg (by rintro (h | h | h | h) <;> first | omega | simp_all)]
           first
             | (rw [if_pos (by omega)]; done)
             | (rw [if_neg (by omega), if_pos (by omega)]; done)
             | (rw [if_neg (by omega), if_neg (by omega)]; done)))
set_option maxRecDepth 10000 in
set_option maxHeartbeats 1000000 in
theorem fcheckAll_spec (nodes : Int) (l : List Flw) (hl : l.length ≤ 9223372036854775807) {A : Option Addr} {cap B : Nat} {w0 : World} {H : List HP} {w : World} (hr : Rd B w0 H A (l.flatMap flwF)) (hw : St B w0 H w) :
    Calls Tryz.prog 51 [.int .i64 nodes, .slice A l.length cap].toArray w (Post B w0 fun v K => v = .tuple #[.int .i64 (flowsE nodes l).1, .int .i64 (flowsE nodes l).2] ∧ K = H) := by
  refine Calls_of_VC Tryz.func51 Tryz.ntmps51 rfl rfl hw ?_
  by_cases hn : nodes < 2 ∨ 32 < nodes
  · have hE : flowsE nodes l = (-1, 2) := by unfold flowsE; exact if_pos hn
    rw [hE]
    repeat' (first | apply (zs1 ?_) | apply (zs2 ?_) | (apply zg1; first | refine zs3 ?_ | refine zs4 ?_) | (apply zg6; first | refine zs11 ?_ | refine zs12 ?_) | (apply (zs17 ?_ ?_) <;> intro _ <;> try (exfalso; omega)) | (apply (zs19 ?_ ?_) <;> intro _ <;> try (exfalso; omega)) | apply (zs65 ?_) | apply (zs68 ?_) | apply (zs69 ?_) | apply (zs70 ?_) | (apply zg27; refine zs71 ?_) | apply (zs74 ?_) | apply (zs77 ?_) | fail)
    all_goals (apply VQ_ret2; exact rfl; exact rfl; exact rfl; exact ⟨rfl, rfl⟩)
  by_cases h16 : 16 < l.length
  · have hE : flowsE nodes l = (-1, 8) := by unfold flowsE; exact (if_neg hn).trans (if_pos h16)
    rw [hE]
    repeat' (first | apply (zs1 ?_) | apply (zs2 ?_) | (apply zg1; refine zs4 ?_) | (apply zg4; refine zs9 ?_) | (apply zg6; refine zs12 ?_) | (apply (zs17 ?_ ?_) <;> intro _ <;> try (exfalso; omega)) | (apply (zs19 ?_ ?_) <;> intro _ <;> try (exfalso; omega)) | apply (zs65 ?_) | apply (zs68 ?_) | apply (zs69 ?_) | apply (zs70 ?_) | (apply zg27; first | refine zs71 ?_ | refine zs72 ?_) | apply (zs74 ?_) | apply (zs76 ?_) | apply (zs77 ?_) | fail)
    apply VQ_ret2; exact rfl; exact rfl; exact rfl; exact ⟨rfl, rfl⟩
  have hE : flowsE nodes l = firstF (flowAtE nodes l) l.length 0 := by unfold flowsE; exact (if_neg hn).trans (if_neg h16)
  rw [hE]
  repeat' (first | apply (zs1 ?_) | apply (zs2 ?_) | (apply zg1; refine zs4 ?_) | (apply zg4; refine zs9 ?_) | (apply zg6; refine zs12 ?_) | (apply (zs17 ?_ ?_) <;> intro _ <;> try (exfalso; omega)) | (apply (zs19 ?_ ?_) <;> intro _ <;> try (exfalso; omega)) | apply (zs65 ?_) | apply (zs68 ?_) | apply (zs69 ?_) | apply (zs70 ?_) | (apply zg27; refine zs72 ?_) | apply (zs73 ?_) | apply (zs76 ?_) | fail)
  refine VC_loop1 (fun (i : Nat) => [(20, .int .i64 i), (19, .int .i64 l.length), (18, .slice A l.length cap), (0, .int .i64 nodes), (1, .slice A l.length cap)]) (fun _ => H) (fun i => i ≤ l.length ∧ ∀ k, k < i → flowAtE nodes l k = 0) (fun i => l.length - i) 0 ⟨Nat.zero_le _, fun k hk => absurd hk (Nat.not_lt_zero _)⟩ ?_ (fun w hw => hw) ?_
  · (repeat (first | exact sub_nil _ | (apply sub_cons; first | exact rfl | exact congrArg (fun z : Int => some (Value.int .i64 z)) (by omega))))
  rintro i ⟨hi, hall⟩ K hK
  by_cases hlt : i < l.length
  · have hget : l[i]? = some (flwAt l i) := flwAt_some hlt
    have hbad : flowAtE nodes l i ≠ 0 → firstF (flowAtE nodes l) l.length 0 = ((i : Int), flowAtE nodes l i) := fun h => firstF_at (fun k _ hk => hall k hk) (Nat.zero_le _) (by omega) h
    have hstep : flowAtE nodes l i = 0 → ∀ k, k < i + 1 → flowAtE nodes l k = 0 := fun h k hk => by
      by_cases e : k = i
      · rw [e]; exact h
      · exact hall k (by omega)
    by_cases he : flowE nodes (flwAt l i) ≠ 0
    · have hf : flowAtE nodes l i = flowE nodes (flwAt l i) := by unfold flowAtE; exact if_pos he
      rw [hbad (by rw [hf]; exact he), hf]
      repeat' (first | ((first | apply VL_callt en110 | apply VL_callq en110); (repeat (first | exact args_nil | (apply args_cons; exact rfl))); exact rfl; exact fun _ hw => (fcheck_spec nodes (flwAt l i) hw)) | apply (zs1 ?_) | apply (zs2 ?_) | (apply zg3; first | refine zs8 ?_ | refine zs61 ?_) | (apply zg5; refine zs57 ?_) | (apply zg8; (refine zs16 ?_ ?_ <;> intro _ <;> try (exfalso; omega))) | (apply (zs17 ?_ ?_) <;> intro _ <;> try (exfalso; omega)) | (apply zg22; refine zs51 ?_) | (apply zg24; (refine zs54 ?_; intro _)) | apply (zs65 ?_) | apply (zs68 ?_) | apply (zs69 ?_) | apply (zs70 ?_) | (apply zg27; refine zs71 ?_) | apply (zs73 ?_) | apply (zs74 ?_) | apply (zs76 ?_) | apply (zs77 ?_) | apply (zs78 ?_) | fail)
      apply VQ_st H
      · (intro w hw; refine hw.perm ?_; focus repeat (first | with_reducible exact Perm.refl _ | (with_reducible apply perm_take; focus ((repeat (first | with_reducible exact rem_here | with_reducible apply rem_there)); done)) | with_reducible apply Perm.dropK))
      apply VQ_ret2; exact rfl; exact rfl; exact rfl; exact ⟨rfl, rfl⟩
    have he0 := Decidable.not_not.1 he
    have hck := fun {H' : List HP} {w : World} (hw : St B w0 H' w) => fcheck_spec nodes (flwAt l i) hw
    rw [he0] at hck
    rcases Nat.eq_zero_or_pos i with h0 | h0
    · subst h0
      have hf : flowAtE nodes l 0 = 0 := by unfold flowAtE; rw [if_neg he, if_neg (by omega)]
      repeat' (first | ((first | apply VL_callt en110 | apply VL_callq en110); (repeat (first | exact args_nil | (apply args_cons; exact rfl))); exact rfl; exact fun _ hw => (hck hw)) | apply (zs1 ?_) | apply (zs2 ?_) | (apply zg1; refine zs3 ?_) | (apply zg3; first | refine zs8 ?_ | refine zs61 ?_) | (apply zg5; refine zs57 ?_) | (apply zg6; refine zs12 ?_) | (apply zg8; (refine zs16 ?_ ?_ <;> intro _ <;> try (exfalso; omega))) | (apply (zs17 ?_ ?_) <;> intro _ <;> try (exfalso; omega)) | (apply (zs19 ?_ ?_) <;> intro _ <;> try (exfalso; omega)) | (apply zg13; refine zs30 ?_) | (apply zg22; refine zs51 ?_) | (apply zg24; (refine zs54 ?_; intro _)) | apply (zs65 ?_) | apply (zs66 ?_) | apply (zs68 ?_) | apply (zs69 ?_) | apply (zs70 ?_) | (apply zg27; first | refine zs71 ?_ | refine zs72 ?_) | apply (zs73 ?_) | apply (zs76 ?_) | apply (zs79 ?_) | (apply zg28; refine zs83 ?_) | fail)
      apply hK (0 + 1)
      · exact ⟨by omega, hstep hf⟩
      · omega
      · (repeat (first | exact sub_nil _ | (apply sub_cons; first | exact rfl | exact congrArg (fun z : Int => some (Value.int .i64 z)) (by omega))))
      · (intro w hw; refine hw.perm ?_; focus repeat (first | with_reducible exact Perm.refl _ | (with_reducible apply perm_take; focus ((repeat (first | with_reducible exact rem_here | with_reducible apply rem_there)); done)) | with_reducible apply Perm.dropK))
    have hget2 : l[((i : Int) - 1).toNat]? = some (flwAt l (i - 1)) := by
      rw [show ((i : Int) - 1).toNat = i - 1 by omega]
      exact flwAt_some (by omega)
    by_cases hle : (flwAt l i).1 ≤ (flwAt l (i - 1)).1
    · have hf : flowAtE nodes l i = 5 := by unfold flowAtE; rw [if_neg he, if_pos ⟨h0, hle⟩]
      rw [hbad (by rw [hf]; decide), hf]
      repeat' (first | ((first | apply VL_callt en110 | apply VL_callq en110); (repeat (first | exact args_nil | (apply args_cons; exact rfl))); exact rfl; exact fun _ hw => (hck hw)) | apply (zs1 ?_) | apply (zs2 ?_) | (apply zg1; refine zs4 ?_) | (apply zg2; first | refine zs6 ?_ | refine zs58 ?_) | (apply zg3; first | refine zs7 ?_ | refine zs8 ?_ | refine zs59 ?_ | refine zs61 ?_) | (apply zg5; refine zs57 ?_) | (apply zg6; refine zs11 ?_) | (apply zg8; (refine zs16 ?_ ?_ <;> intro _ <;> try (exfalso; omega))) | (apply (zs17 ?_ ?_) <;> intro _ <;> try (exfalso; omega)) | (apply (zs18 ?_ ?_) <;> intro _ <;> try (exfalso; omega)) | (apply (zs19 ?_ ?_) <;> intro _ <;> try (exfalso; omega)) | (apply zg14; refine zs31 ?_) | (apply zg22; refine zs51 ?_) | (apply zg24; (refine zs54 ?_; intro _)) | apply (zs65 ?_) | apply (zs66 ?_) | apply (zs68 ?_) | apply (zs69 ?_) | apply (zs70 ?_) | (apply zg27; first | refine zs71 ?_ | refine zs72 ?_) | apply (zs73 ?_) | apply (zs74 ?_) | apply (zs76 ?_) | apply (zs77 ?_) | apply (zs78 ?_) | (apply zg28; refine zs83 ?_) | fail)
      apply VQ_st H
      · (intro w hw; refine hw.perm ?_; focus repeat (first | with_reducible exact Perm.refl _ | (with_reducible apply perm_take; focus ((repeat (first | with_reducible exact rem_here | with_reducible apply rem_there)); done)) | with_reducible apply Perm.dropK))
      apply VQ_ret2; exact rfl; exact rfl; exact rfl; exact ⟨rfl, rfl⟩
    · have hf : flowAtE nodes l i = 0 := by unfold flowAtE; rw [if_neg he, if_neg (fun h => hle h.2)]
      repeat' (first | ((first | apply VL_callt en110 | apply VL_callq en110); (repeat (first | exact args_nil | (apply args_cons; exact rfl))); exact rfl; exact fun _ hw => (hck hw)) | apply (zs1 ?_) | apply (zs2 ?_) | (apply zg1; refine zs4 ?_) | (apply zg2; first | refine zs6 ?_ | refine zs58 ?_) | (apply zg3; first | refine zs7 ?_ | refine zs8 ?_ | refine zs59 ?_ | refine zs61 ?_) | (apply zg5; refine zs57 ?_) | (apply zg6; refine zs11 ?_) | (apply zg8; (refine zs16 ?_ ?_ <;> intro _ <;> try (exfalso; omega))) | (apply (zs17 ?_ ?_) <;> intro _ <;> try (exfalso; omega)) | (apply (zs18 ?_ ?_) <;> intro _ <;> try (exfalso; omega)) | (apply (zs19 ?_ ?_) <;> intro _ <;> try (exfalso; omega)) | (apply zg13; refine zs30 ?_) | (apply zg14; refine zs31 ?_) | (apply zg22; refine zs51 ?_) | (apply zg24; (refine zs54 ?_; intro _)) | apply (zs65 ?_) | apply (zs66 ?_) | apply (zs68 ?_) | apply (zs69 ?_) | apply (zs70 ?_) | (apply zg27; first | refine zs71 ?_ | refine zs72 ?_) | apply (zs73 ?_) | apply (zs76 ?_) | apply (zs79 ?_) | (apply zg28; refine zs83 ?_) | fail)
      apply hK (i + 1)
      · exact ⟨by omega, hstep hf⟩
      · omega
      · (repeat (first | exact sub_nil _ | (apply sub_cons; first | exact rfl | exact congrArg (fun z : Int => some (Value.int .i64 z)) (by omega))))
      · (intro w hw; refine hw.perm ?_; focus repeat (first | with_reducible exact Perm.refl _ | (with_reducible apply perm_take; focus ((repeat (first | with_reducible exact rem_here | with_reducible apply rem_there)); done)) | with_reducible apply Perm.dropK))
  · repeat' (first | apply (zs2 ?_) | (apply (zs17 ?_ ?_) <;> intro _ <;> try (exfalso; omega)) | apply (zs65 ?_) | apply (zs68 ?_) | apply (zs69 ?_) | apply (zs70 ?_) | (apply zg27; refine zs72 ?_) | apply (zs74 ?_) | apply (zs75 ?_) | apply (zs80 ?_) | apply (zs81 ?_) | fail)
    rw [show i = l.length by omega] at hall
    rw [firstF_no fun k _ hk => hall k (by omega)]
    apply VQ_ret2; exact rfl; exact rfl; exact rfl; exact ⟨rfl, rfl⟩
theorem indexFuncF (p : Flw → Bool) (l : List Flw) (f : Nat) (cs : List Value) (hen : ∀ xs w, (callFunc f xs).run Tryz.prog w = .ok (.enter f xs) w) (hlen : l.length ≤ 1000) {A : Option Addr} {cap B : Nat} {w0 : World} {H : List HP} {w : World} (hr : Rd B w0 H A (l.flatMap flwF))
    (hp : ∀ a ∈ l, ∀ w, St B w0 H w → Calls Tryz.prog f ([flwV a] ++ cs).toArray w (Post B w0 fun v K => v = .bool (p a) ∧ K = H)) (hw : St B w0 H w) :
    Calls Tryz.prog 111 [.slice A l.length cap, .func (.func f) #[] cs.toArray].toArray w (Post B w0 fun v K => v = .int .i64 (idxFrom p l 0) ∧ K = H) := by
  refine Calls_of_VC Tryz.func111 Tryz.ntmps111 rfl rfl hw ?_
  repeat' (first | apply (zs1 ?_) | apply (zs2 ?_) | (apply zg4; refine zs9 ?_) | apply (zs65 ?_) | apply (zs68 ?_) | apply (zs69 ?_) | apply (zs70 ?_) | apply (zs73 ?_) | fail)
  refine VC_loop1 (fun (k : Nat) => [(8, .int .i64 k), (7, .int .i64 l.length), (0, .slice A l.length cap), (1, .func (.func f) #[] cs.toArray)]) (fun _ => H) (fun k => k ≤ l.length ∧ idxFrom p l 0 = idxFrom p (l.drop k) k) (fun k => l.length - k) 0 ⟨Nat.zero_le _, by simp⟩ ?_ (fun w hw => hw) ?_
  · (repeat (first | exact sub_nil _ | (apply sub_cons; first | exact rfl | exact congrArg (fun z : Int => some (Value.int .i64 z)) (by omega))))
  rintro k ⟨hk, hi⟩ K hK
  by_cases hlt : k < l.length
  · obtain ⟨a, ha⟩ : ∃ a, l[k]? = some a := ⟨_, List.getElem?_eq_getElem hlt⟩
    have hpa := hp a (List.mem_of_getElem? ha)
    rw [idx_drop p l ha] at hi
    repeat' (first | ((first | apply VL_callvt (cs := cs)); exact rfl; exact hen; (repeat (first | exact args_nil | (apply args_cons; exact rfl))); exact rfl; exact fun _ hw => hpa _ hw) | apply (zs1 ?_) | apply (zs2 ?_) | (apply zg3; refine zs61 ?_) | (apply zg5; refine zs57 ?_) | (apply (zs17 ?_ ?_) <;> intro _ <;> try (exfalso; omega)) | apply (zs65 ?_) | apply (zs68 ?_) | apply (zs69 ?_) | apply (zs70 ?_) | (apply zg27; refine zs71 ?_) | apply (zs73 ?_) | apply (zs76 ?_) | fail)
    cases hpv : p a
    · rw [hpv] at hi
      repeat' (first | apply (zs1 ?_) | (apply zg13; refine zs30 ?_) | apply (zs65 ?_) | apply (zs68 ?_) | apply (zs70 ?_) | (apply zg27; refine zs72 ?_) | apply (zs76 ?_) | apply (zs79 ?_) | fail)
      apply hK (k + 1)
      · exact ⟨by omega, hi⟩
      · omega
      · (repeat (first | exact sub_nil _ | (apply sub_cons; first | exact rfl | exact congrArg (fun z : Int => some (Value.int .i64 z)) (by omega))))
      · exact fun w hw => hw
    · rw [hpv] at hi
      repeat' (first | apply (zs1 ?_) | apply (zs2 ?_) | apply (zs65 ?_) | apply (zs68 ?_) | apply (zs69 ?_) | apply (zs70 ?_) | (apply zg27; refine zs71 ?_) | apply (zs74 ?_) | apply (zs77 ?_) | apply (zs78 ?_) | fail)
      apply VQ_ret1; exact rfl; exact rfl
      exact ⟨by rw [hi]; rfl, rfl⟩
  · repeat' (first | apply (zs2 ?_) | (apply (zs17 ?_ ?_) <;> intro _ <;> try (exfalso; omega)) | apply (zs65 ?_) | apply (zs68 ?_) | apply (zs69 ?_) | apply (zs70 ?_) | (apply zg27; refine zs72 ?_) | apply (zs74 ?_) | apply (zs75 ?_) | apply (zs80 ?_) | apply (zs81 ?_) | fail)
    apply VQ_ret1; exact rfl; exact rfl
    rw [hi, List.drop_eq_nil_of_le (by omega)]
    exact ⟨rfl, rfl⟩

theorem find1_spec (f : Flw) (id : Int) (gi : Nat) {B : Nat} {w0 : World} {H : List HP} {w : World} (hm : blk gi (.cells #[.int .i64 id] 3 (0, 0)) ∈ H) (hw : St B w0 H w) :
    Calls Tryz.prog 170 [flwV f, .pointer (some ⟨gi, 0, none⟩)].toArray w (Post B w0 fun v K => v = .bool (decide (f.1 = id)) ∧ K = H) := by
  refine Calls_of_VC Tryz.func170 Tryz.ntmps170 rfl rfl hw ?_
  by_cases h : f.1 = id
  · rw [decide_eq_true h]
    repeat' (first | apply (zs2 ?_) | (apply zg2; refine zs6 ?_) | (apply zg3; refine zs7 ?_) | (apply zg7; (refine zs15 ?_ ?_ <;> intro _ <;> try (exfalso; omega))) | (apply zg23; (refine zs52 ?_; intro _)) | apply (zs65 ?_) | apply (zs68 ?_) | apply (zs69 ?_) | apply (zs70 ?_) | apply (zs74 ?_) | fail)
    all_goals (apply VQ_tail; apply VQ_ret1; exact rfl; exact rfl; exact ⟨rfl, rfl⟩)
  · rw [decide_eq_false h]
    repeat' (first | apply (zs2 ?_) | (apply zg2; refine zs6 ?_) | (apply zg3; refine zs7 ?_) | (apply zg7; (refine zs15 ?_ ?_ <;> intro _ <;> try (exfalso; omega))) | (apply zg23; (refine zs52 ?_; intro _)) | apply (zs65 ?_) | apply (zs68 ?_) | apply (zs69 ?_) | apply (zs70 ?_) | apply (zs74 ?_) | fail)
    all_goals (apply VQ_tail; apply VQ_ret1; exact rfl; exact rfl; exact ⟨rfl, rfl⟩)
theorem ffind_spec (l : List Flw) (id : Int) (hlen : l.length ≤ 1000) {A : Option Addr} {cap B : Nat} {w0 : World} {H : List HP} {w : World} (hr : Rd B w0 H A (l.flatMap flwF)) (hw : St B w0 H w) :
    Calls Tryz.prog 114 [.slice A l.length cap, .int .i64 id].toArray w (Post B w0 fun v K => v = .int .i64 (findF l id) ∧ K = H) := by
  refine Calls_of_VC Tryz.func114 Tryz.ntmps114 rfl rfl hw ?_
  repeat' (first | apply (zs1 ?_) | apply (zs2 ?_) | (apply zg23; (refine zs53 ?_; intro _)) | apply (zs65 ?_) | apply (zs68 ?_) | apply (zs69 ?_) | apply (zs70 ?_) | (apply zg29; (apply VL_makeFunc; (repeat (first | exact args_nil | (apply args_cons; exact rfl))) ; exact rfl)) | fail)
  rename_i gi
  first | apply VL_callt en111 | apply VL_callq en111
  (repeat (first | exact args_nil | (apply args_cons; exact rfl)))
  exact rfl
  exact fun _ hw => (indexFuncF (fun f => decide (f.1 = id)) l 170 [.pointer (some ⟨gi, 0, none⟩)] en170 hlen hr.cons (fun f _ w hw => find1_spec f id gi (by (focus repeat (first | with_reducible exact List.mem_cons_self | with_reducible apply List.mem_cons_of_mem | assumption))) hw) hw)
  repeat' (first | apply (zs2 ?_) | apply (zs65 ?_) | apply (zs68 ?_) | apply (zs74 ?_) | fail)
  apply VQ_st H
  · (intro w hw; refine hw.perm ?_; focus repeat (first | with_reducible exact Perm.refl _ | (with_reducible apply perm_take; focus ((repeat (first | with_reducible exact rem_here | with_reducible apply rem_there)); done)) | with_reducible apply Perm.dropK))
  apply VQ_ret1; exact rfl; exact rfl
  exact ⟨rfl, rfl⟩
theorem period1_spec (s : SchM) (f : Flw) (gs : Nat) (hs : 1 ≤ s.len ∧ s.len ≤ 512) (hf : 1 ≤ f.2.2.2.1 ∧ f.2.2.2.1 ≤ 512) {B : Nat} {w0 : World} {H : List HP} {w : World} (hm : blk gs (.cells #[.int .i64 s.len, .int .i64 s.off, .slice s.A s.cells.length s.cap] 30 (0, 0)) ∈ H) (hw : St B w0 H w) :
    Calls Tryz.prog 54 [flwV f, .pointer (some ⟨gs, 0, none⟩)].toArray w (Post B w0 fun v K => v = .bool (decide (s.len.tmod f.2.2.2.1 ≠ 0)) ∧ K = H) := by
  refine Calls_of_VC Tryz.func54 Tryz.ntmps54 rfl rfl hw ?_
  by_cases h : s.len.tmod f.2.2.2.1 ≠ 0
  · rw [decide_eq_true h]
    rw [Int.tmod_eq_emod_of_nonneg (by omega)] at h
    repeat' (first | apply (zs2 ?_) | (apply zg2; refine zs6 ?_) | (apply zg3; refine zs7 ?_) | (apply zg8; (refine zs16 ?_ ?_ <;> intro _ <;> try (exfalso; omega))) | (apply zg17; refine zs37 ?_) | (apply zg23; (refine zs52 ?_; intro _)) | apply (zs65 ?_) | apply (zs68 ?_) | apply (zs69 ?_) | apply (zs70 ?_) | apply (zs74 ?_) | fail)
    all_goals (apply VQ_tail; apply VQ_ret1; exact rfl; exact rfl; exact ⟨rfl, rfl⟩)
  · rw [decide_eq_false h]
    rw [Int.tmod_eq_emod_of_nonneg (by omega)] at h
    repeat' (first | apply (zs2 ?_) | (apply zg2; refine zs6 ?_) | (apply zg3; refine zs7 ?_) | (apply zg8; (refine zs16 ?_ ?_ <;> intro _ <;> try (exfalso; omega))) | (apply zg17; refine zs37 ?_) | (apply zg23; (refine zs52 ?_; intro _)) | apply (zs65 ?_) | apply (zs68 ?_) | apply (zs69 ?_) | apply (zs70 ?_) | apply (zs74 ?_) | fail)
    all_goals (apply VQ_tail; apply VQ_ret1; exact rfl; exact rfl; exact ⟨rfl, rfl⟩)
theorem idx_some {α : Type} (p : α → Bool) (l : List α) : decide (0 ≤ idxFrom p l 0) = l.any p := by
  have h := idx_any p l 0 (by omega)
  by_cases h0 : 0 ≤ idxFrom p l 0
  · rw [decide_eq_true h0, h.1 h0]
  · rw [decide_eq_false h0]
    cases h1 : l.any p with
    | false => rfl
    | true => exact absurd (h.2 h1) h0
theorem containsF_spec (p : Flw → Bool) (l : List Flw) (f : Nat) (cs : List Value) (hen : ∀ xs w, (callFunc f xs).run Tryz.prog w = .ok (.enter f xs) w) (hlen : l.length ≤ 1000) {A : Option Addr} {cap B : Nat} {w0 : World} {H : List HP} {w : World} (hr : Rd B w0 H A (l.flatMap flwF))
    (hp : ∀ a ∈ l, ∀ w, St B w0 H w → Calls Tryz.prog f ([flwV a] ++ cs).toArray w (Post B w0 fun v K => v = .bool (p a) ∧ K = H)) (hw : St B w0 H w) :
    Calls Tryz.prog 53 [.slice A l.length cap, .func (.func f) #[] cs.toArray].toArray w (Post B w0 fun v K => v = .bool (l.any p) ∧ K = H) := by
  refine Calls_of_VC Tryz.func53 Tryz.ntmps53 rfl rfl hw ?_
  rw [← idx_some]
  repeat' (first | apply (zs1 ?_) | apply (zs2 ?_) | apply (zs65 ?_) | apply (zs68 ?_) | apply (zs69 ?_) | apply (zs70 ?_) | fail)
  first | apply VL_callt en111 | apply VL_callq en111
  (repeat (first | exact args_nil | (apply args_cons; exact rfl)))
  exact rfl
  exact fun _ hw => (indexFuncF p l f cs hen hlen hr hp hw)
  by_cases h0 : 0 ≤ idxFrom p l 0
  · rw [decide_eq_true h0]
    repeat' (first | apply (zs2 ?_) | (apply (zs20 ?_ ?_) <;> intro _ <;> try (exfalso; omega)) | apply (zs65 ?_) | apply (zs68 ?_) | apply (zs74 ?_) | fail)
    apply VQ_ret1; exact rfl; exact rfl
    exact ⟨rfl, rfl⟩
  · rw [decide_eq_false h0]
    repeat' (first | apply (zs2 ?_) | (apply (zs20 ?_ ?_) <;> intro _ <;> try (exfalso; omega)) | apply (zs65 ?_) | apply (zs68 ?_) | apply (zs74 ?_) | fail)
    apply VQ_ret1; exact rfl; exact rfl
    exact ⟨rfl, rfl⟩
end Go.Proofs.YtmalhidldgfeoaaGreatDoor

/- Walks: the program's checkCells. -/
namespace Go.Proofs.YtmalhidldgfeoaaGreatDoor
open Go.RowKit Go.Eng Go.Nw

def netN (g : Nat) (n : NetM) : HP := blk g (.cells #[.int .i64 n.nodes, .slice n.pA n.rows.length n.pcap, .int .i64 n.noise, .int .i64 n.thr, .slice n.lA n.links.length n.lcap, .slice n.mA n.margin.length n.mcap] 26 (0, 0))
set_option maxRecDepth 10000 in
set_option maxHeartbeats 2000000 in
theorem checkCells_spec (n : NetM) (l : List Flw) (s : SchM) (hck : checkE n.net = 0) (hlen : l.length ≤ 1000) (hl : s.cells.length ≤ 1000000000000) {A : Option Addr} {cap B : Nat} {w0 : World} {H : List HP} {w : World} (hin : n.In B w0 H) (hrf : Rd B w0 H A (l.flatMap flwF)) (hr : Rd B w0 H s.A (s.cells.flatMap celF)) (hw : St B w0 H w) :
    Calls Tryz.prog 55 [n.val, .slice A l.length cap, s.val].toArray w (Post B w0 fun v K => v = .tuple #[.int .i64 (cellsF n.net l s.sch).1, .int .i64 (cellsF n.net l s.sch).2] ∧ K = H) := by
  refine Calls_of_VC Tryz.func55 Tryz.ntmps55 rfl rfl hw ?_
  have e4 : s.sch.cells.length = s.cells.length := rfl
  have hE : cellsF n.net l s.sch = firstF (cellF n.net l s.sch) s.cells.length 0 := rfl
  rw [hE]
  repeat' (first | apply (zs1 ?_) | apply (zs2 ?_) | (apply zg2; refine zs6 ?_) | (apply zg3; refine zs7 ?_) | (apply zg4; refine zs9 ?_) | (apply zg23; (refine zs52 ?_; intro _)) | apply (zs65 ?_) | apply (zs68 ?_) | apply (zs69 ?_) | apply (zs70 ?_) | apply (zs73 ?_) | fail)
  rename_i gn gs
  refine VC_loop1 (fun (i : Nat) => [(13, .int .i64 i), (12, .int .i64 s.cells.length), (11, .slice s.A s.cells.length s.cap), (3, .pointer (some ⟨gn, 0, none⟩)), (5, .pointer (some ⟨gs, 0, none⟩)), (1, .slice A l.length cap)])
    (fun _ => blk gs (.cells #[.int .i64 s.len, .int .i64 s.off, .slice s.A s.cells.length s.cap] 30 (0, 0)) :: netN gn n :: H) (fun i => i ≤ s.cells.length ∧ ∀ k, k < i → cellF n.net l s.sch k = 0) (fun i => s.cells.length - i) 0 ⟨Nat.zero_le _, fun k hk => absurd hk (Nat.not_lt_zero _)⟩ ?_ (fun w hw => hw) ?_
  · (repeat (first | exact sub_nil _ | (apply sub_cons; first | exact rfl | exact congrArg (fun z : Int => some (Value.int .i64 z)) (by omega))))
  rintro i ⟨hi, hall⟩ K hK
  unfold netN
  have hrc := fun (X : HP) => ((hr.cons (X := netN gn n)).cons (X := blk gs (.cells #[.int .i64 s.len, .int .i64 s.off, .slice s.A s.cells.length s.cap] 30 (0, 0)))).cons (X := X)
  by_cases hlt : i < s.cells.length
  · have hget : s.cells[i]? = some (celAt s.sch i) := celAt_some (s := s.sch) hlt
    have hbad : cellF n.net l s.sch i ≠ 0 → firstF (cellF n.net l s.sch) s.cells.length 0 = ((i : Int), cellF n.net l s.sch i) := fun h => firstF_at (fun k _ hk => hall k hk) (Nat.zero_le _) (by omega) h
    have hstep : cellF n.net l s.sch i = 0 → ∀ k, k < i + 1 → cellF n.net l s.sch k = 0 := fun h k hk => by
      by_cases e : k = i
      · rw [e]; exact h
      · exact hall k (by omega)
    obtain ⟨c, hc⟩ : ∃ c, celAt s.sch i = c := ⟨_, rfl⟩
    have hce : cellF n.net l s.sch i = if placedE s.sch c = false then 2 else if goodE n.net (fromC c) (toC c) = false ∨ findF l (flowC c) < 0 then 7 else if 0 < i ∧ celLt (celAt s.sch (i - 1)) c = false then 5 else 0 := by
      unfold cellF
      rw [hc]
    rw [hc] at hget
    have hplc := fun {H' : List HP} {w : World} (hw : St B w0 H' w) => placed_spec s c hw
    cases hp : placedE s.sch c with
    | false =>
      rw [hp] at hplc
      rw [hp, if_pos rfl] at hce
      rw [hbad (by rw [hce]; decide), hce]
      repeat' (first | ((first | apply VL_callt en112 | apply VL_callq en112); (repeat (first | exact args_nil | (apply args_cons; exact rfl))); exact rfl; exact fun _ hw => (hplc hw)) | apply (zs1 ?_) | apply (zs2 ?_) | (apply zg3; first | refine zs8 ?_ | refine zs61 ?_) | (apply zg5; refine zs57 ?_) | (apply (zs17 ?_ ?_) <;> intro _ <;> try (exfalso; omega)) | (apply zg20; refine zs48 ?_) | (apply zg22; refine zs51 ?_) | (apply zg24; (refine zs54 ?_; intro _)) | apply (zs65 ?_) | apply (zs68 ?_) | apply (zs69 ?_) | apply (zs70 ?_) | (apply zg27; refine zs71 ?_) | apply (zs73 ?_) | apply (zs74 ?_) | apply (zs76 ?_) | apply (zs77 ?_) | apply (zs78 ?_) | fail)
      apply VQ_st H
      · (intro w hw; refine hw.perm ?_; focus repeat (first | with_reducible exact Perm.refl _ | (with_reducible apply perm_take; focus ((repeat (first | with_reducible exact rem_here | with_reducible apply rem_there)); done)) | with_reducible apply Perm.dropK))
      apply VQ_ret2; exact rfl; exact rfl; exact rfl; exact ⟨rfl, rfl⟩
    | true =>
    rw [hp] at hplc
    rw [hp, if_neg (by decide)] at hce
    have hix := fun {H' : List HP} {w : World} (hin : n.In B w0 H') (hw : St B w0 H' w) => index_spec n c.2.2.1 c.2.2.2.1 hin hw
    have hus := fun {H' : List HP} {w : World} (hin : n.In B w0 H') (hw : St B w0 H' w) => Usable_spec n (indexE n.net c.2.2.1 c.2.2.2.1) hin hw
    rw [use_good hck] at hus
    have hfi := fun {H' : List HP} {w : World} (hr : Rd B w0 H' A (l.flatMap flwF)) (hw : St B w0 H' w) => ffind_spec l c.2.2.2.2 hlen (cap := cap) hr hw
    have hgf : goodE n.net (fromC c) (toC c) = goodE n.net c.2.2.1 c.2.2.2.1 := rfl
    have hff : findF l (flowC c) = findF l c.2.2.2.2 := rfl
    by_cases hg : goodE n.net c.2.2.1 c.2.2.2.1 = false ∨ findF l c.2.2.2.2 < 0
    · rw [hgf, hff, if_pos hg] at hce
      rw [hbad (by rw [hce]; decide), hce]
      cases hgd : goodE n.net c.2.2.1 c.2.2.2.1 with
      | false =>
        rw [hgd] at hus
        repeat' (first | ((first | apply VL_callt en112 | apply VL_callq en112); (repeat (first | exact args_nil | (apply args_cons; exact rfl))); exact rfl; exact fun _ hw => (hplc hw)) | ((first | apply VL_callt en95 | apply VL_callq en95); (repeat (first | exact args_nil | (apply args_cons; exact rfl))); exact rfl; exact fun _ hw => (hix hin.cons.cons.cons hw)) | ((first | apply VL_callt en113 | apply VL_callq en113); (repeat (first | exact args_nil | (apply args_cons; exact rfl))); exact rfl; exact fun _ hw => (hus hin.cons.cons.cons hw)) | apply (zs1 ?_) | apply (zs2 ?_) | (apply zg1; refine zs3 ?_) | (apply zg2; refine zs6 ?_) | (apply zg3; first | refine zs7 ?_ | refine zs8 ?_ | refine zs61 ?_) | (apply zg5; refine zs57 ?_) | (apply zg6; refine zs11 ?_) | (apply (zs17 ?_ ?_) <;> intro _ <;> try (exfalso; omega)) | (apply zg20; first | refine zs47 ?_ | refine zs48 ?_) | (apply zg22; refine zs51 ?_) | (apply zg24; (refine zs54 ?_; intro _)) | apply (zs65 ?_) | apply (zs66 ?_) | apply (zs68 ?_) | apply (zs69 ?_) | apply (zs70 ?_) | (apply zg27; first | refine zs71 ?_ | refine zs72 ?_) | apply (zs73 ?_) | apply (zs74 ?_) | apply (zs76 ?_) | apply (zs77 ?_) | apply (zs78 ?_) | (apply zg28; refine zs84 ?_) | fail)
        apply VQ_st H
        · (intro w hw; refine hw.perm ?_; focus repeat (first | with_reducible exact Perm.refl _ | (with_reducible apply perm_take; focus ((repeat (first | with_reducible exact rem_here | with_reducible apply rem_there)); done)) | with_reducible apply Perm.dropK))
        apply VQ_ret2; exact rfl; exact rfl; exact rfl; exact ⟨rfl, rfl⟩
      | true =>
        have hneg : findF l c.2.2.2.2 < 0 := hg.elim (fun h => by rw [hgd] at h; cases h) id
        rw [hgd] at hus
        repeat' (first | ((first | apply VL_callt en112 | apply VL_callq en112); (repeat (first | exact args_nil | (apply args_cons; exact rfl))); exact rfl; exact fun _ hw => (hplc hw)) | ((first | apply VL_callt en95 | apply VL_callq en95); (repeat (first | exact args_nil | (apply args_cons; exact rfl))); exact rfl; exact fun _ hw => (hix hin.cons.cons.cons hw)) | ((first | apply VL_callt en113 | apply VL_callq en113); (repeat (first | exact args_nil | (apply args_cons; exact rfl))); exact rfl; exact fun _ hw => (hus hin.cons.cons.cons hw)) | ((first | apply VL_callt en114 | apply VL_callq en114); (repeat (first | exact args_nil | (apply args_cons; exact rfl))); exact rfl; exact fun _ hw => (hfi hrf.cons.cons.cons hw)) | apply (zs1 ?_) | apply (zs2 ?_) | (apply zg1; refine zs4 ?_) | (apply zg2; refine zs6 ?_) | (apply zg3; first | refine zs7 ?_ | refine zs8 ?_ | refine zs61 ?_) | (apply zg5; refine zs57 ?_) | (apply zg6; refine zs12 ?_) | (apply (zs17 ?_ ?_) <;> intro _ <;> try (exfalso; omega)) | (apply zg20; refine zs47 ?_) | (apply zg22; refine zs51 ?_) | (apply zg24; (refine zs54 ?_; intro _)) | apply (zs65 ?_) | apply (zs66 ?_) | apply (zs68 ?_) | apply (zs69 ?_) | apply (zs70 ?_) | (apply zg27; first | refine zs71 ?_ | refine zs72 ?_) | apply (zs73 ?_) | apply (zs74 ?_) | apply (zs76 ?_) | apply (zs77 ?_) | apply (zs78 ?_) | (apply zg28; refine zs84 ?_) | fail)
        apply VQ_st H
        · (intro w hw; refine hw.perm ?_; focus repeat (first | with_reducible exact Perm.refl _ | (with_reducible apply perm_take; focus ((repeat (first | with_reducible exact rem_here | with_reducible apply rem_there)); done)) | with_reducible apply Perm.dropK))
        apply VQ_ret2; exact rfl; exact rfl; exact rfl; exact ⟨rfl, rfl⟩
    have hgd : goodE n.net c.2.2.1 c.2.2.2.1 = true := by
      cases h : goodE n.net c.2.2.1 c.2.2.2.1 with
      | true => rfl
      | false => exact absurd (.inl h) hg
    have hpos : ¬ findF l c.2.2.2.2 < 0 := fun h => hg (.inr h)
    rw [hgf, hff, if_neg hg] at hce
    rw [hgd] at hus
    rcases Nat.eq_zero_or_pos i with h0 | h0
    · subst h0
      rw [if_neg (by omega)] at hce
      repeat' (first | ((first | apply VL_callt en112 | apply VL_callq en112); (repeat (first | exact args_nil | (apply args_cons; exact rfl))); exact rfl; exact fun _ hw => (hplc hw)) | ((first | apply VL_callt en95 | apply VL_callq en95); (repeat (first | exact args_nil | (apply args_cons; exact rfl))); exact rfl; exact fun _ hw => (hix hin.cons.cons.cons hw)) | ((first | apply VL_callt en113 | apply VL_callq en113); (repeat (first | exact args_nil | (apply args_cons; exact rfl))); exact rfl; exact fun _ hw => (hus hin.cons.cons.cons hw)) | ((first | apply VL_callt en114 | apply VL_callq en114); (repeat (first | exact args_nil | (apply args_cons; exact rfl))); exact rfl; exact fun _ hw => (hfi hrf.cons.cons.cons hw)) | apply (zs1 ?_) | apply (zs2 ?_) | (apply zg1; first | refine zs3 ?_ | refine zs4 ?_) | (apply zg2; refine zs6 ?_) | (apply zg3; first | refine zs7 ?_ | refine zs8 ?_ | refine zs61 ?_) | (apply zg5; refine zs57 ?_) | (apply zg6; refine zs12 ?_) | (apply (zs17 ?_ ?_) <;> intro _ <;> try (exfalso; omega)) | (apply (zs19 ?_ ?_) <;> intro _ <;> try (exfalso; omega)) | (apply zg13; refine zs30 ?_) | (apply zg20; refine zs47 ?_) | (apply zg22; refine zs51 ?_) | (apply zg24; (refine zs54 ?_; intro _)) | apply (zs65 ?_) | apply (zs66 ?_) | apply (zs68 ?_) | apply (zs69 ?_) | apply (zs70 ?_) | (apply zg27; first | refine zs71 ?_ | refine zs72 ?_) | apply (zs73 ?_) | apply (zs76 ?_) | apply (zs79 ?_) | (apply zg28; refine zs84 ?_) | fail)
      apply hK (0 + 1)
      · exact ⟨by omega, hstep hce⟩
      · omega
      · (repeat (first | exact sub_nil _ | (apply sub_cons; first | exact rfl | exact congrArg (fun z : Int => some (Value.int .i64 z)) (by omega))))
      · unfold netN
        (intro w hw; refine hw.perm ?_; focus repeat (first | with_reducible exact Perm.refl _ | (with_reducible apply perm_take; focus ((repeat (first | with_reducible exact rem_here | with_reducible apply rem_there)); done)) | with_reducible apply Perm.dropK))
    have hget2 : s.cells[((i : Int) - 1).toNat]? = some (celAt s.sch (i - 1)) := by
      rw [show ((i : Int) - 1).toNat = i - 1 by omega]
      exact celAt_some (s := s.sch) (show i - 1 < s.cells.length by omega)
    obtain ⟨p, hpv⟩ : ∃ p, celAt s.sch (i - 1) = p := ⟨_, rfl⟩
    rw [hpv] at hce hget2
    have hcl := cmp_lt p c
    have hcm := fun {H' : List HP} {w : World} (hw : St B w0 H' w) => compareC_spec p c hw
    obtain ⟨q, hq⟩ : ∃ q, cmpV (nums p) (nums c) = q := ⟨_, rfl⟩
    rw [hq] at hcl hcm
    by_cases hlt2 : q < 0
    · rw [hcl.1 hlt2, if_neg (by simp)] at hce
      repeat' (first | ((first | apply VL_callt en112 | apply VL_callq en112); (repeat (first | exact args_nil | (apply args_cons; exact rfl))); exact rfl; exact fun _ hw => (hplc hw)) | ((first | apply VL_callt en95 | apply VL_callq en95); (repeat (first | exact args_nil | (apply args_cons; exact rfl))); exact rfl; exact fun _ hw => (hix hin.cons.cons.cons hw)) | ((first | apply VL_callt en113 | apply VL_callq en113); (repeat (first | exact args_nil | (apply args_cons; exact rfl))); exact rfl; exact fun _ hw => (hus hin.cons.cons.cons hw)) | ((first | apply VL_callt en114 | apply VL_callq en114); (repeat (first | exact args_nil | (apply args_cons; exact rfl))); exact rfl; exact fun _ hw => (hfi hrf.cons.cons.cons hw)) | ((first | apply VL_callt en62 | apply VL_callq en62); (repeat (first | exact args_nil | (apply args_cons; exact rfl))); exact rfl; exact fun _ hw => (hcm hw)) | apply (zs1 ?_) | apply (zs2 ?_) | (apply zg1; refine zs4 ?_) | (apply zg2; refine zs6 ?_) | (apply zg3; first | refine zs7 ?_ | refine zs8 ?_ | refine zs61 ?_) | (apply zg5; refine zs57 ?_) | (apply zg6; first | refine zs11 ?_ | refine zs12 ?_) | (apply (zs17 ?_ ?_) <;> intro _ <;> try (exfalso; omega)) | (apply (zs19 ?_ ?_) <;> intro _ <;> try (exfalso; omega)) | (apply (zs20 ?_ ?_) <;> intro _ <;> try (exfalso; omega)) | (apply zg13; refine zs30 ?_) | (apply zg14; refine zs31 ?_) | (apply zg20; refine zs47 ?_) | (apply zg22; refine zs51 ?_) | (apply zg24; (refine zs54 ?_; intro _)) | apply (zs65 ?_) | apply (zs66 ?_) | apply (zs68 ?_) | apply (zs69 ?_) | apply (zs70 ?_) | (apply zg27; first | refine zs71 ?_ | refine zs72 ?_) | apply (zs73 ?_) | apply (zs76 ?_) | apply (zs79 ?_) | (apply zg28; refine zs84 ?_) | fail)
      apply hK (i + 1)
      · exact ⟨by omega, hstep hce⟩
      · omega
      · (repeat (first | exact sub_nil _ | (apply sub_cons; first | exact rfl | exact congrArg (fun z : Int => some (Value.int .i64 z)) (by omega))))
      · unfold netN
        (intro w hw; refine hw.perm ?_; focus repeat (first | with_reducible exact Perm.refl _ | (with_reducible apply perm_take; focus ((repeat (first | with_reducible exact rem_here | with_reducible apply rem_there)); done)) | with_reducible apply Perm.dropK))
    · have hnl : celLt p c = false := by
        cases h : celLt p c with
        | false => rfl
        | true => exact absurd (hcl.2 h) hlt2
      rw [hnl, if_pos ⟨h0, rfl⟩] at hce
      rw [hbad (by rw [hce]; decide), hce]
      repeat' (first | ((first | apply VL_callt en112 | apply VL_callq en112); (repeat (first | exact args_nil | (apply args_cons; exact rfl))); exact rfl; exact fun _ hw => (hplc hw)) | ((first | apply VL_callt en95 | apply VL_callq en95); (repeat (first | exact args_nil | (apply args_cons; exact rfl))); exact rfl; exact fun _ hw => (hix hin.cons.cons.cons hw)) | ((first | apply VL_callt en113 | apply VL_callq en113); (repeat (first | exact args_nil | (apply args_cons; exact rfl))); exact rfl; exact fun _ hw => (hus hin.cons.cons.cons hw)) | ((first | apply VL_callt en114 | apply VL_callq en114); (repeat (first | exact args_nil | (apply args_cons; exact rfl))); exact rfl; exact fun _ hw => (hfi hrf.cons.cons.cons hw)) | ((first | apply VL_callt en62 | apply VL_callq en62); (repeat (first | exact args_nil | (apply args_cons; exact rfl))); exact rfl; exact fun _ hw => (hcm hw)) | apply (zs1 ?_) | apply (zs2 ?_) | (apply zg1; refine zs4 ?_) | (apply zg2; refine zs6 ?_) | (apply zg3; first | refine zs7 ?_ | refine zs8 ?_ | refine zs61 ?_) | (apply zg5; refine zs57 ?_) | (apply zg6; first | refine zs11 ?_ | refine zs12 ?_) | (apply (zs17 ?_ ?_) <;> intro _ <;> try (exfalso; omega)) | (apply (zs19 ?_ ?_) <;> intro _ <;> try (exfalso; omega)) | (apply (zs20 ?_ ?_) <;> intro _ <;> try (exfalso; omega)) | (apply zg14; refine zs31 ?_) | (apply zg20; refine zs47 ?_) | (apply zg22; refine zs51 ?_) | (apply zg24; (refine zs54 ?_; intro _)) | apply (zs65 ?_) | apply (zs66 ?_) | apply (zs68 ?_) | apply (zs69 ?_) | apply (zs70 ?_) | (apply zg27; first | refine zs71 ?_ | refine zs72 ?_) | apply (zs73 ?_) | apply (zs74 ?_) | apply (zs76 ?_) | apply (zs77 ?_) | apply (zs78 ?_) | (apply zg28; refine zs84 ?_) | fail)
      apply VQ_st H
      · (intro w hw; refine hw.perm ?_; focus repeat (first | with_reducible exact Perm.refl _ | (with_reducible apply perm_take; focus ((repeat (first | with_reducible exact rem_here | with_reducible apply rem_there)); done)) | with_reducible apply Perm.dropK))
      apply VQ_ret2; exact rfl; exact rfl; exact rfl; exact ⟨rfl, rfl⟩
  · repeat' (first | apply (zs2 ?_) | (apply (zs17 ?_ ?_) <;> intro _ <;> try (exfalso; omega)) | apply (zs65 ?_) | apply (zs68 ?_) | apply (zs69 ?_) | apply (zs70 ?_) | (apply zg27; refine zs72 ?_) | apply (zs74 ?_) | apply (zs75 ?_) | apply (zs80 ?_) | apply (zs81 ?_) | fail)
    rw [show i = s.cells.length by omega] at hall
    rw [firstF_no fun k _ hk => hall k (by omega)]
    apply VQ_st H
    · (intro w hw; refine hw.perm ?_; focus repeat (first | with_reducible exact Perm.refl _ | (with_reducible apply perm_take; focus ((repeat (first | with_reducible exact rem_here | with_reducible apply rem_there)); done)) | with_reducible apply Perm.dropK))
    apply VQ_ret2; exact rfl; exact rfl; exact rfl; exact ⟨rfl, rfl⟩
end Go.Proofs.YtmalhidldgfeoaaGreatDoor

/- Walks: the program's twice. -/
namespace Go.Eng
open Go.RowKit
theorem VQ_rets {P : Program} {B : Nat} {w0 : World} {env : Env} {H : List HP} {n : Nat} (T : Tab P) {fn : Func} {Φ : Value → List HP → Prop} {p g rt : Nat} {v : Value} {cs : Array Value} {tt : TypeId} {fr : Nat × Nat} (hr : fn.results = #[.cell p rt]) (hp : get env p = some (.pointer (some ⟨g, 0, none⟩)))
    (hm : Eng.blk g (.cells cs tt fr) ∈ H) (hv : nth cs.toList 0 = some v) (ht : Eng.look T.sc rt = some ()) {H2 : List HP} (hH : ∀ w, St B w0 H w → St B w0 H2 w) (h : Φ v H2) : VQ ⟨n, [], none⟩ B w0 (bodyPost P fn (Post B w0 Φ)) .ret env H := by
  refine ⟨fun a w ha hw => bodyPost_ret (v := v) ?_ ha.defers ⟨_, H2, rfl, hH w hw, h⟩⟩
  have hp' := ha.slot p _ hp
  rw [nth_arr] at hv
  have hc := cell_of_blk (i := 0) (hw.blk hm).1
  simp [results, hr, Array.getD_eq_getD_getElem?, hp', asAddr, loadVar, run_isAgg_false (T.scal ht).1, hc, hv]
end Go.Eng
namespace Go.Proofs.YtmalhidldgfeoaaGreatDoor
open Go.RowKit Go.Eng Go.Nw

theorem twice_not {s : Sch} {i : Nat} (hi : i < s.cells.length) (h : ∀ j ∈ inI s (celAt s i).1 s.cells.length, j < i → touchE (celAt s i) (celAt s j) = false) : twiceB s i = false := by
  unfold twiceB
  rw [List.any_eq_false]
  intro j hj
  have hj := List.mem_range.1 hj
  rw [Bool.and_eq_true, decide_eq_true_eq]
  rintro ⟨h1, h2⟩
  rw [h j (inI_mem.2 ⟨by omega, h1⟩) hj] at h2
  cases h2
theorem twice_yes {s : Sch} {i j : Nat} (hji : j < i) (hs : (celAt s j).1 = (celAt s i).1) (ht : touchE (celAt s i) (celAt s j) = true) : twiceB s i = true := by
  unfold twiceB
  rw [List.any_eq_true]
  exact ⟨j, List.mem_range.2 hji, by rw [decide_eq_true hs, ht]; rfl⟩
set_option maxRecDepth 10000 in
set_option maxHeartbeats 2000000 in
theorem twice_spec (s : SchM) (i : Nat) (hi : i < s.cells.length) (hl : s.cells.length ≤ 1000) {B : Nat} {w0 : World} {H : List HP} {w : World} (hr : Rd B w0 H s.A (s.cells.flatMap celF)) (hw : St B w0 H w) :
    Calls Tryz.prog 56 [s.val, .int .i64 i].toArray w (Post B w0 fun v K => v = .bool (twiceB s.sch i) ∧ K = H) := by
  refine Calls_of_VCm Tryz.func56 Tryz.ntmps56 rfl rfl hw ?_
  have hget : s.cells[i]? = some (celAt s.sch i) := celAt_some (s := s.sch) hi
  obtain ⟨c, hc⟩ : ∃ c, celAt s.sch i = c := ⟨_, rfl⟩
  rw [hc] at hget
  repeat' (first | (apply zg2; refine zs6 ?_) | (apply zg3; first | refine zs7 ?_ | refine zs8 ?_ | refine zs61 ?_) | (apply zg5; refine zs57 ?_) | (apply zg22; refine zs51 ?_) | (apply zg23; first | (refine zs52 ?_; intro _) | (refine zs53 ?_; intro _)) | (apply zg24; (refine zs54 ?_; intro _)) | apply (zs65 ?_) | apply (zs68 ?_) | apply (zs69 ?_) | apply (zs70 ?_) | fail)
  rename_i gs gi gr gc
  apply VL_call _ en59
  (repeat (first | exact args_nil | (apply args_cons; exact rfl)))
  exact rfl
  exact fun _ hw => (inS_spec s c.1 (hw))
  rintro _ _ ⟨g1, g2, rfl, rfl⟩
  repeat' (first | apply (zs65 ?_) | apply (zs68 ?_) | apply (zs73 ?_) | fail)
  have hr6 : Rd B w0 (intB g2 c.1 :: schB g1 s :: blk gc (.cells (celF c).toArray 40 (0, 0)) :: blk gi (.cells #[.int .i64 i] 3 (0, 0)) :: schB gs s :: H) s.A (s.cells.flatMap celF) := hr.cons.cons.cons.cons.cons
  refine VC_rangeFunc (gf := 118) (lb := [.pointer (some ⟨g1, 0, none⟩), .pointer (some ⟨g2, 0, none⟩)]) (xs := inXs s.sch c.1) (intB g2 c.1 :: schB g1 s :: blk gc (.cells (celF c).toArray 40 (0, 0)) :: blk gi (.cells #[.int .i64 i] 3 (0, 0)) :: schB gs s :: H) (fun _ : Unit => [blk gr (.cells #[.bool false] 4 (0, 0))])
    (fun k _ => ∀ m j, m < k → (inI s.sch c.1 s.cells.length)[m]? = some j → j < i → touchE c (celAt s.sch j) = false) (fun e K => e = .ret ∧ twiceB s.sch i = true ∧ K = [blk gr (.cells #[.bool true] 4 (0, 0))]) () rfl en118 (in1_iter s c.1 g1 g2 hr6 (by omega) (.tail _ (.head _)) (.head _)) rfl ?_ (by kernel_rfl) (by kernel_rfl) ?_ (fun m j h => absurd h (Nat.not_lt_zero _)) ?_ ?_ ?_
  · intro args h
    obtain ⟨k, hk⟩ := List.mem_iff_getElem?.1 h
    obtain ⟨i, _, _, rfl⟩ := inXs_get hk
    rfl
  · exact fun w hw => hw.perm (.trans (.cons _ (.cons _ (.swap _ _ _))) (.trans (.cons _ (.swap _ _ _)) (.swap _ _ _)))
  · rintro l k args R ⟨⟩ hk hI
    obtain ⟨j, hj, hlt, rfl⟩ := inXs_get hk
    have hlt2 : j < s.cells.length := hlt
    dsimp only [putEnv, List.cons_append, List.nil_append]
    have hgj : s.cells[j]? = some (celAt s.sch j) := celAt_some (s := s.sch) hlt
    have hjs : (celAt s.sch j).1 = c.1 := (inI_mem.1 (List.mem_of_getElem? hj)).2
    obtain ⟨d, hd⟩ : ∃ d, celAt s.sch j = d := ⟨_, rfl⟩
    rw [hd] at hgj
    have htc : touchE c d = true ↔ (c.2.2.1 = d.2.2.1 ∨ c.2.2.1 = d.2.2.2.1 ∨ c.2.2.2.1 = d.2.2.1 ∨ c.2.2.2.1 = d.2.2.2.1) := by unfold touchE fromC toC; rw [decide_eq_true_eq]
    repeat' (first | apply (zs2 ?_) | apply (zs65 ?_) | apply (zs70 ?_) | fail)
    apply VQ_assign rem_here
    intro R'
    unfold intB schB
    have hr7 : Rd B w0 (R' :: blk gr (.cells #[.bool false] 4 (0, 0)) :: intB g2 c.1 :: schB g1 s :: blk gc (.cells (celF c).toArray 40 (0, 0)) :: blk gi (.cells #[.int .i64 i] 3 (0, 0)) :: schB gs s :: H) s.A (s.cells.flatMap celF) := hr6.cons.cons
    unfold intB schB at hr7
    clear hr6
    repeat' (first | apply (zs1 ?_) | (apply zg1; first | refine zs3 ?_ | refine zs4 ?_) | (apply zg2; refine zs6 ?_) | (apply zg3; first | refine zs7 ?_ | refine zs61 ?_) | (apply zg5; refine zs57 ?_) | (apply zg6; first | refine zs11 ?_ | refine zs12 ?_) | (apply zg7; (refine zs15 ?_ ?_ <;> intro _ <;> try (exfalso; omega))) | (apply (zs17 ?_ ?_) <;> intro _ <;> try (exfalso; omega)) | (apply zg22; first | refine zs50 ?_ | refine zs51 ?_) | (apply zg24; (refine zs54 ?_; intro _)) | apply (zs65 ?_) | apply (zs68 ?_) | apply (zs69 ?_) | apply (zs70 ?_) | (apply zg27; first | refine zs71 ?_ | refine zs72 ?_) | apply (zs73 ?_) | apply (zs74 ?_) | apply (zs76 ?_) | apply (zs78 ?_) | apply (zs79 ?_) | fail)
    all_goals first
      | (refine VQ_bodyR [blk gr (.cells #[.bool true] 4 (0, 0))] ⟨rfl, ?_, rfl⟩ ?_
         · exact twice_yes (j := j) (by omega) (by rw [hc]; exact hjs) (by rw [hc, hd]; exact htc.2 (by omega))
         · dsimp only [List.cons_append, List.nil_append]
           (intro w hw; refine hw.perm ?_; focus repeat (first | with_reducible exact Perm.refl _ | (with_reducible apply perm_take; focus ((repeat (first | with_reducible exact rem_here | with_reducible apply rem_there)); done)) | with_reducible apply Perm.dropK))
         done)
      | (refine VQ_body () ?_ ?_
         · intro m j2 hm hj2 hji
           rcases Nat.lt_succ_iff_lt_or_eq.1 hm with h | h
           · exact hI m j2 h hj2 hji
           · subst h
             obtain rfl := Option.some.inj (hj.symm.trans hj2)
             rw [hd]
             exact Bool.eq_false_iff.2 fun h => by have := htc.1 h; omega
         · dsimp only [List.cons_append, List.nil_append]
           (intro w hw; refine hw.perm ?_; focus repeat (first | with_reducible exact Perm.refl _ | (with_reducible apply perm_take; focus ((repeat (first | with_reducible exact rem_here | with_reducible apply rem_there)); done)) | with_reducible apply Perm.dropK))
         done)
  · rintro D ⟨⟩ hI
    have htw : twiceB s.sch i = false := twice_not hi fun j hj hji => by
      rw [hc] at hj ⊢
      obtain ⟨m, hm⟩ := List.mem_iff_getElem?.1 hj
      refine hI m j ?_ hm hji
      rw [inXs, List.length_map]
      exact (List.getElem?_eq_some_iff.1 hm).1
    rw [htw]
    dsimp only [List.cons_append, List.nil_append]
    unfold intB schB
    repeat' (first | (apply zg22; refine zs50 ?_) | apply (zs65 ?_) | apply (zs68 ?_) | apply (zs69 ?_) | apply (zs70 ?_) | apply (zs74 ?_) | apply (zs79 ?_) | fail)
    apply VQ_mark rem_here
    apply VQ_m
    apply VQ_rets T (H2 := H); exact rfl; exact rfl; (focus repeat (first | with_reducible exact List.mem_cons_self | with_reducible apply List.mem_cons_of_mem | assumption)); exact rfl; exact rfl; (intro w hw; refine hw.perm ?_; focus repeat (first | with_reducible exact Perm.refl _ | (with_reducible apply perm_take; focus ((repeat (first | with_reducible exact rem_here | with_reducible apply rem_there)); done)) | with_reducible apply Perm.dropK)); exact ⟨rfl, rfl⟩
  · rintro D e K ⟨rfl, htw, rfl⟩ hjmp
    rw [htw]
    dsimp only [List.cons_append, List.nil_append]
    unfold intB schB
    repeat' (first | apply (zs77 ?_) | apply (zs78 ?_) | fail)
    apply VQ_mark rem_here
    apply VQ_m
    apply VQ_rets T (H2 := H); exact rfl; exact rfl; (focus repeat (first | with_reducible exact List.mem_cons_self | with_reducible apply List.mem_cons_of_mem | assumption)); exact rfl; exact rfl; (intro w hw; refine hw.perm ?_; focus repeat (first | with_reducible exact Perm.refl _ | (with_reducible apply perm_take; focus ((repeat (first | with_reducible exact rem_here | with_reducible apply rem_there)); done)) | with_reducible apply Perm.dropK)); exact ⟨rfl, rfl⟩
end Go.Proofs.YtmalhidldgfeoaaGreatDoor

/- Walks: conflict.Disturbance. -/
namespace Go.Proofs.YtmalhidldgfeoaaGreatDoor
open Go.RowKit Go.Eng Go.Nw

theorem cnode_spec (n : NetM) (v : Int) {B : Nat} {w0 : World} {H : List HP} {w : World} (hw : St B w0 H w) :
    Calls Tryz.prog 173 [n.val, .int .i64 v].toArray w (Post B w0 fun u K => u = .bool (insE v n.net.nodes) ∧ K = H) := by
  have e1 : n.net.nodes = n.nodes := rfl
  refine Calls_of_VC Tryz.func173 Tryz.ntmps173 rfl rfl hw ?_
  repeat' (first | apply (zs1 ?_) | apply (zs2 ?_) | (apply zg1; first | refine zs3 ?_ | refine zs4 ?_) | (apply zg2; refine zs6 ?_) | (apply zg3; refine zs7 ?_) | (apply zg6; first | refine zs11 ?_ | refine zs12 ?_) | (apply (zs17 ?_ ?_) <;> intro _ <;> try (exfalso; omega)) | (apply (zs20 ?_ ?_) <;> intro _ <;> try (exfalso; omega)) | (apply zg23; (refine zs52 ?_; intro _)) | apply (zs65 ?_) | apply (zs68 ?_) | apply (zs69 ?_) | apply (zs70 ?_) | apply (zs74 ?_) | fail)
  all_goals (
    apply VQ_st H
    · (intro w hw; refine hw.perm ?_; focus repeat (first | with_reducible exact Perm.refl _ | (with_reducible apply perm_take; focus ((repeat (first | with_reducible exact rem_here | with_reducible apply rem_there)); done)) | with_reducible apply Perm.dropK))
    apply VQ_ret1; exact rfl; exact rfl
    first
      | exact ⟨by rw [show insE v n.net.nodes = true from decide_eq_true (by omega)], rfl⟩
      | exact ⟨by rw [show insE v n.net.nodes = false from decide_eq_false (by omega)], rfl⟩)
theorem dist1_spec (n : NetM) (c : Cel) (gn : Nat) {B : Nat} {w0 : World} {H : List HP} {w : World} (hm : blk gn (.cells #[.int .i64 n.nodes, .slice n.pA n.rows.length n.pcap, .int .i64 n.noise, .int .i64 n.thr, .slice n.lA n.links.length n.lcap, .slice n.mA n.margin.length n.mcap] 26 (0, 0)) ∈ H) (hw : St B w0 H w) :
    Calls Tryz.prog 172 [celV c, .pointer (some ⟨gn, 0, none⟩)].toArray w (Post B w0 fun v K => v = .bool (noNode n.net c) ∧ K = H) := by
  refine Calls_of_VC Tryz.func172 Tryz.ntmps172 rfl rfl hw ?_
  obtain ⟨b, hb⟩ : ∃ b, noNode n.net c = b := ⟨_, rfl⟩
  rw [hb]
  unfold noNode fromC toC at hb
  repeat' (first | ((first | apply VL_calltb en173 | apply VL_callqb en173); (repeat (first | exact args_nil | (apply args_cons; exact rfl))); exact rfl; exact fun _ hw => (cnode_spec n _ hw); all_goals (intro hB; (try simp only [decide_eq_true_eq, decide_eq_false_iff_not] at hB); try (exfalso; omega))) | apply (zs1 ?_) | apply (zs2 ?_) | (apply zg1; first | refine zs3 ?_ | refine zs4 ?_) | (apply zg2; refine zs6 ?_) | (apply zg3; first | refine zs7 ?_ | refine zs8 ?_) | (apply zg6; first | refine zs11 ?_ | refine zs12 ?_) | (apply zg20; first | refine zs47 ?_ | refine zs48 ?_) | (apply zg23; (refine zs52 ?_; intro _)) | apply (zs65 ?_) | apply (zs68 ?_) | apply (zs69 ?_) | apply (zs70 ?_) | apply (zs74 ?_) | fail)
  all_goals (
    apply VQ_st H
    · (intro w hw; refine hw.perm ?_; focus repeat (first | with_reducible exact Perm.refl _ | (with_reducible apply perm_take; focus ((repeat (first | with_reducible exact rem_here | with_reducible apply rem_there)); done)) | with_reducible apply Perm.dropK))
    apply VQ_ret1; exact rfl; exact rfl
    refine ⟨?_, rfl⟩
    rw [← hb]
    simp [*])
theorem containsC_spec (p : Cel → Bool) (l : List Cel) (f : Nat) (cs : List Value) (hen : ∀ xs w, (callFunc f xs).run Tryz.prog w = .ok (.enter f xs) w) (hlen : l.length ≤ 1000) {A : Option Addr} {cap B : Nat} {w0 : World} {H : List HP} {w : World} (hr : Rd B w0 H A (l.flatMap celF))
    (hp : ∀ a ∈ l, ∀ w, St B w0 H w → Calls Tryz.prog f ([celV a] ++ cs).toArray w (Post B w0 fun v K => v = .bool (p a) ∧ K = H)) (hw : St B w0 H w) :
    Calls Tryz.prog 174 [.slice A l.length cap, .func (.func f) #[] cs.toArray].toArray w (Post B w0 fun v K => v = .bool (l.any p) ∧ K = H) := by
  refine Calls_of_VC Tryz.func174 Tryz.ntmps174 rfl rfl hw ?_
  rw [← idx_some]
  repeat' (first | apply (zs1 ?_) | apply (zs2 ?_) | apply (zs65 ?_) | apply (zs68 ?_) | apply (zs69 ?_) | apply (zs70 ?_) | fail)
  first | apply VL_callt en229 | apply VL_callq en229
  (repeat (first | exact args_nil | (apply args_cons; exact rfl)))
  exact rfl
  exact fun _ hw => (indexFuncC p l f cs hen hlen hr hp hw)
  by_cases h0 : 0 ≤ idxFrom p l 0
  · rw [decide_eq_true h0]
    repeat' (first | apply (zs2 ?_) | (apply (zs20 ?_ ?_) <;> intro _ <;> try (exfalso; omega)) | apply (zs65 ?_) | apply (zs68 ?_) | apply (zs74 ?_) | fail)
    apply VQ_ret1; exact rfl; exact rfl
    exact ⟨rfl, rfl⟩
  · rw [decide_eq_false h0]
    repeat' (first | apply (zs2 ?_) | (apply (zs20 ?_ ?_) <;> intro _ <;> try (exfalso; omega)) | apply (zs65 ?_) | apply (zs68 ?_) | apply (zs74 ?_) | fail)
    apply VQ_ret1; exact rfl; exact rfl
    exact ⟨rfl, rfl⟩
def partP (n : Net) (c : Cel) (node : Int) (m : Nat) : Int := (([c.2.2.1, c.2.2.2.1].take m).map fun e => powN n e node).sum
theorem part_step {n : Net} {c : Cel} {node e : Int} {m : Nat} (h : [c.2.2.1, c.2.2.2.1][m]? = some e) : partP n c node (m + 1) = partP n c node m + powN n e node := by
  unfold partP
  rw [List.take_add_one, h, Option.toList_some, List.map_append, List.sum_append]
  simp
theorem part_bd {n : Net} (hok : Ok n) (c : Cel) (node : Int) {m : Nat} (h : m ≤ 2) : 0 ≤ partP n c node m ∧ partP n c node m ≤ 137438953472 := by
  have h1 := powN_bd hok c.2.2.1 node
  have h2 := powN_bd hok c.2.2.2.1 node
  match m, h with
  | 0, _ => simp [partP]
  | 1, _ => simp [partP]; omega
  | 2, _ => simp [partP]; omega
set_option maxRecDepth 10000 in
set_option maxHeartbeats 2000000 in
theorem disturb_in (n : NetM) (l : List Cel) (j : Nat) (node : Int) (hok : Ok n.net) (hnode : 0 ≤ node ∧ node < n.nodes) (hlen : l.length ≤ 1000) {A : Option Addr} {cap B : Nat} {w0 : World} {H : List HP} {w : World} (hin : n.In B w0 H) (hr : Rd B w0 H A (l.flatMap celF)) (hw : St B w0 H w) :
    Calls Tryz.prog 175 [n.val, .slice A l.length cap, .int .i64 j, .int .i64 node].toArray w (Post B w0 fun v K => v = .int .i64 (distTo n.net l j node l.length) ∧ K = H) := by
  refine Calls_of_VC Tryz.func175 Tryz.ntmps175 rfl rfl hw ?_
  have e1 : n.net.nodes = n.nodes := rfl
  repeat' (first | apply (zs1 ?_) | apply (zs2 ?_) | (apply zg4; refine zs9 ?_) | (apply zg23; (refine zs52 ?_; intro _)) | apply (zs65 ?_) | apply (zs68 ?_) | apply (zs69 ?_) | apply (zs70 ?_) | apply (zs73 ?_) | fail)
  rename_i gn
  refine VC_loop1 (fun (k : Nat) => [(16, .int .i64 k), (15, .int .i64 l.length), (14, .slice A l.length cap), (9, .int .i64 (distTo n.net l j node k)), (4, .pointer (some ⟨gn, 0, none⟩)), (2, .int .i64 j), (3, .int .i64 node)]) (fun _ => netN gn n :: H) (fun k => k ≤ l.length) (fun k => l.length - k) 0 (Nat.zero_le _) ?_ (fun w hw => hw) ?_
  · (repeat (first | exact sub_nil _ | (apply sub_cons; first | exact rfl | exact congrArg (fun z : Int => some (Value.int .i64 z)) (by omega))))
  rintro k hk K hK
  have hbd := dist_bd hok l j node k
  have hrc := hr.cons (X := netN gn n)
  by_cases hlt : k < l.length
  · obtain ⟨c, hc⟩ : ∃ c, l[k]? = some c := ⟨_, List.getElem?_eq_getElem hlt⟩
    have hcl : celL l k = c := by unfold celL; rw [List.getD_eq_getElem?_getD, hc]; rfl
    have hst : distTo n.net l j node (k + 1) = distTo n.net l j node k + if k = j then 0 else powN n.net c.2.2.1 node + powN n.net c.2.2.2.1 node := by
      rw [distTo, hcl]; rfl
    by_cases hkj : k = j
    · rw [if_pos hkj, Int.add_zero] at hst
      repeat' (first | apply (zs1 ?_) | apply (zs2 ?_) | (apply zg3; refine zs61 ?_) | (apply zg5; refine zs57 ?_) | (apply zg7; (refine zs15 ?_ ?_ <;> intro _ <;> try (exfalso; omega))) | (apply (zs17 ?_ ?_) <;> intro _ <;> try (exfalso; omega)) | (apply zg13; refine zs30 ?_) | (apply zg22; refine zs51 ?_) | (apply zg24; (refine zs54 ?_; intro _)) | apply (zs65 ?_) | apply (zs68 ?_) | apply (zs69 ?_) | apply (zs70 ?_) | (apply zg27; refine zs71 ?_) | apply (zs73 ?_) | apply (zs75 ?_) | apply (zs76 ?_) | apply (zs80 ?_) | apply (zs81 ?_) | fail)
      apply hK (k + 1)
      · show k + 1 ≤ _
        omega
      · omega
      · rw [hst]
        (repeat (first | exact sub_nil _ | (apply sub_cons; first | exact rfl | exact congrArg (fun z : Int => some (Value.int .i64 z)) (by omega))))
      · (intro w hw; refine hw.perm ?_; focus repeat (first | with_reducible exact Perm.refl _ | (with_reducible apply perm_take; focus ((repeat (first | with_reducible exact rem_here | with_reducible apply rem_there)); done)) | with_reducible apply Perm.dropK))
    rw [if_neg hkj] at hst
    repeat' (first | apply (zs1 ?_) | apply (zs2 ?_) | (apply zg2; refine zs6 ?_) | (apply zg3; first | refine zs7 ?_ | refine zs61 ?_) | (apply zg4; refine zs9 ?_) | (apply zg5; refine zs57 ?_) | (apply zg7; (refine zs15 ?_ ?_ <;> intro _ <;> try (exfalso; omega))) | (apply (zs17 ?_ ?_) <;> intro _ <;> try (exfalso; omega)) | (apply zg22; refine zs51 ?_) | (apply zg24; (refine zs54 ?_; intro _)) | (apply zg26; (refine zs56 ?_; intro _)) | apply (zs65 ?_) | apply (zs68 ?_) | apply (zs69 ?_) | apply (zs70 ?_) | (apply zg27; first | refine zs71 ?_ | refine zs72 ?_) | apply (zs73 ?_) | apply (zs76 ?_) | fail)
    rename_i gc _ ge
    refine VC_loop1 (fun (m : Nat) => [(30, .int .i64 m), (29, .int .i64 ((2 : Nat) : Int)), (28, .slice (some ⟨ge, 0, none⟩) ([c.2.2.1, c.2.2.2.1] : List Int).length 2), (9, .int .i64 (distTo n.net l j node k + partP n.net c node m)), (16, .int .i64 k), (15, .int .i64 l.length), (14, .slice A l.length cap), (4, .pointer (some ⟨gn, 0, none⟩)), (2, .int .i64 j), (3, .int .i64 node)]) (fun _ => blk ge (.cells #[.int .i64 c.2.2.1, .int .i64 c.2.2.2.1] 3 (0, 0)) :: netN gn n :: H) (fun m => m ≤ 2) (fun m => 2 - m) 0 (Nat.zero_le _) ?_ ?_ ?_
    · rw [show partP n.net c node 0 = 0 from rfl, Int.add_zero]
      (repeat (first | exact sub_nil _ | (apply sub_cons; first | exact rfl | exact congrArg (fun z : Int => some (Value.int .i64 z)) (by omega))))
    · (intro w hw; refine hw.perm ?_; focus repeat (first | with_reducible exact Perm.refl _ | (with_reducible apply perm_take; focus ((repeat (first | with_reducible exact rem_here | with_reducible apply rem_there)); done)) | with_reducible apply Perm.dropK))
    rintro m hm K2 hK2
    have hpb := part_bd hok c node hm
    have hre : Rd B w0 (blk ge (.cells #[.int .i64 c.2.2.1, .int .i64 c.2.2.2.1] 3 (0, 0)) :: netN gn n :: H) (some ⟨ge, 0, none⟩) (([c.2.2.1, c.2.2.2.1] : List Int).flatMap numF) := Rd.blk (cs := #[.int .i64 c.2.2.1, .int .i64 c.2.2.2.1]) (.head _)
    clear hrc
    unfold netN at hre ⊢
    by_cases hlt2 : m < 2
    · obtain ⟨e, he⟩ : ∃ e, [c.2.2.1, c.2.2.2.1][m]? = some e := ⟨_, List.getElem?_eq_getElem hlt2⟩
      have hst2 := part_step (n := n.net) (node := node) he
      have hcn := fun {H' : List HP} {w : World} (hw : St B w0 H' w) => cnode_spec n e hw
      have hl2 : ([c.2.2.1, c.2.2.2.1] : List Int).length = 2 := rfl
      cases hie : insE e n.net.nodes with
      | false =>
        rw [hie] at hcn
        rw [show powN n.net e node = 0 by unfold powN; rw [hie]; simp, Int.add_zero] at hst2
        repeat' (first | ((first | apply VL_callt en173 | apply VL_callq en173); (repeat (first | exact args_nil | (apply args_cons; exact rfl))); exact rfl; exact fun _ hw => (hcn hw)) | apply (zs1 ?_) | apply (zs2 ?_) | (apply zg3; first | refine zs8 ?_ | refine zs60 ?_) | (apply zg5; refine zs57 ?_) | (apply (zs17 ?_ ?_) <;> intro _ <;> try (exfalso; omega)) | (apply zg13; refine zs30 ?_) | apply (zs65 ?_) | apply (zs68 ?_) | apply (zs69 ?_) | apply (zs70 ?_) | (apply zg27; first | refine zs71 ?_ | refine zs72 ?_) | apply (zs73 ?_) | apply (zs76 ?_) | apply (zs79 ?_) | fail)
        apply hK2 (m + 1)
        · show m + 1 ≤ 2
          omega
        · omega
        · rw [hst2]
          (repeat (first | exact sub_nil _ | (apply sub_cons; first | exact rfl | exact congrArg (fun z : Int => some (Value.int .i64 z)) (by omega))))
        · unfold netN
          (intro w hw; refine hw.perm ?_; focus repeat (first | with_reducible exact Perm.refl _ | (with_reducible apply perm_take; focus ((repeat (first | with_reducible exact rem_here | with_reducible apply rem_there)); done)) | with_reducible apply Perm.dropK))
      | true =>
        rw [hie] at hcn
        have he2 : 0 ≤ e ∧ e < n.net.nodes := of_decide_eq_true hie
        have hp0 : (n.rows.length : Int) = n.net.nodes := by
          have := hok.p0
          rwa [show n.net.power = n.rows.map RowM.xs from rfl, List.length_map] at this
        obtain ⟨r, hrw⟩ : ∃ r, n.rows[e.toNat]? = some r := ⟨_, List.getElem?_eq_getElem (by omega)⟩
        have hrm := List.mem_of_getElem? hrw
        have hrl : (r.xs.length : Int) = n.net.nodes := hok.p1 r.xs (List.mem_map.2 ⟨r, hrm, rfl⟩)
        obtain ⟨q, hq⟩ : ∃ q, r.xs[node.toNat]? = some q := ⟨_, List.getElem?_eq_getElem (by omega)⟩
        have hpw : powN n.net e node = q := by
          unfold powN
          rw [if_pos ⟨hie, decide_eq_true (by omega)⟩]
          exact powr_get (n := n.net) (r := r.xs) (by simp [NetM.net, hrw]) hq
        have hqb := powN_bd hok e node
        rw [hpw] at hqb hst2
        have hpd := hin.pw
        have hrd := hin.rw_ r hrm
        have hs1 := hin.s1
        have hs2 := hin.s2 r hrm
        repeat' (first | ((first | apply VL_callt en173 | apply VL_callq en173); (repeat (first | exact args_nil | (apply args_cons; exact rfl))); exact rfl; exact fun _ hw => (hcn hw)) | apply (zs1 ?_) | apply (zs2 ?_) | (apply zg2; refine zs6 ?_) | (apply zg3; first | refine zs7 ?_ | refine zs8 ?_ | refine zs60 ?_) | (apply zg5; refine zs57 ?_) | (apply (zs17 ?_ ?_) <;> intro _ <;> try (exfalso; omega)) | (apply zg13; refine zs30 ?_) | apply (zs65 ?_) | apply (zs68 ?_) | apply (zs69 ?_) | apply (zs70 ?_) | (apply zg27; refine zs71 ?_) | apply (zs73 ?_) | apply (zs76 ?_) | apply (zs79 ?_) | fail)
        apply hK2 (m + 1)
        · show m + 1 ≤ 2
          omega
        · omega
        · rw [hst2]
          (repeat (first | exact sub_nil _ | (apply sub_cons; first | exact rfl | exact congrArg (fun z : Int => some (Value.int .i64 z)) (by omega))))
        · unfold netN
          (intro w hw; refine hw.perm ?_; focus repeat (first | with_reducible exact Perm.refl _ | (with_reducible apply perm_take; focus ((repeat (first | with_reducible exact rem_here | with_reducible apply rem_there)); done)) | with_reducible apply Perm.dropK))
    · obtain rfl : m = 2 := by omega
      have hp2 : distTo n.net l j node (k + 1) = distTo n.net l j node k + partP n.net c node 2 := by
        rw [hst]
        simp [partP]
      repeat' (first | apply (zs1 ?_) | (apply (zs17 ?_ ?_) <;> intro _ <;> try (exfalso; omega)) | (apply zg13; refine zs30 ?_) | apply (zs65 ?_) | apply (zs68 ?_) | apply (zs69 ?_) | apply (zs70 ?_) | (apply zg27; refine zs72 ?_) | apply (zs75 ?_) | apply (zs79 ?_) | apply (zs80 ?_) | apply (zs81 ?_) | fail)
      apply hK (k + 1)
      · show k + 1 ≤ _
        omega
      · omega
      · rw [hp2]
        (repeat (first | exact sub_nil _ | (apply sub_cons; first | exact rfl | exact congrArg (fun z : Int => some (Value.int .i64 z)) (by omega))))
      · unfold netN
        (intro w hw; refine hw.perm ?_; focus repeat (first | with_reducible exact Perm.refl _ | (with_reducible apply perm_take; focus ((repeat (first | with_reducible exact rem_here | with_reducible apply rem_there)); done)) | with_reducible apply Perm.dropK))
  · repeat' (first | apply (zs1 ?_) | apply (zs2 ?_) | (apply (zs17 ?_ ?_) <;> intro _ <;> try (exfalso; omega)) | apply (zs65 ?_) | apply (zs68 ?_) | apply (zs69 ?_) | apply (zs70 ?_) | (apply zg27; refine zs72 ?_) | apply (zs74 ?_) | apply (zs75 ?_) | apply (zs80 ?_) | apply (zs81 ?_) | fail)
    apply VQ_st H
    · (intro w hw; refine hw.perm ?_; focus repeat (first | with_reducible exact Perm.refl _ | (with_reducible apply perm_take; focus ((repeat (first | with_reducible exact rem_here | with_reducible apply rem_there)); done)) | with_reducible apply Perm.dropK))
    apply VQ_ret1; exact rfl; exact rfl
    rw [show k = l.length by omega]
    exact ⟨rfl, rfl⟩
set_option maxRecDepth 10000 in
set_option maxHeartbeats 1000000 in
theorem disturbance_spec (n : NetM) (l : List Cel) (j : Nat) (node : Int) (hck : checkE n.net = 0) (hnode : 0 ≤ node ∧ node < n.nodes) (hj : j < l.length) (hlen : l.length ≤ 1000) (hno : l.any (noNode n.net) = false) {A : Option Addr} {cap B : Nat} {w0 : World} {H : List HP} {w : World} (hin : n.In B w0 H) (hr : Rd B w0 H A (l.flatMap celF)) (hw : St B w0 H w) :
    Calls Tryz.prog 116 [n.val, .slice A l.length cap, .int .i64 j, .int .i64 node].toArray w (Post B w0 fun v K => v = .int .i64 (distE n.net l j node) ∧ K = H) := by
  refine Calls_of_VC Tryz.func116 Tryz.ntmps116 rfl rfl hw ?_
  have e1 : n.net.nodes = n.nodes := rfl
  have hins : insE node n.net.nodes = true := decide_eq_true hnode
  have hd : distE n.net l j node = distTo n.net l j node l.length := by
    unfold distE
    rw [if_neg (by rw [hck, hins, hno]; simp; omega), Int.toNat_natCast]
  rw [hd]
  have hchk := fun {H' : List HP} {w : World} (hin : n.In B w0 H') (hw : St B w0 H' w) => check_spec n hin hw
  rw [hck] at hchk
  have hcn := fun {H' : List HP} {w : World} (hw : St B w0 H' w) => cnode_spec n node hw
  rw [hins] at hcn
  (apply VC_seq; apply VC_region; apply VL_box_agg; exact rfl; exact rfl; intro g)
  have hct := fun {H' : List HP} {w : World} (hm : blk g (.cells #[.int .i64 n.nodes, .slice n.pA n.rows.length n.pcap, .int .i64 n.noise, .int .i64 n.thr, .slice n.lA n.links.length n.lcap, .slice n.mA n.margin.length n.mcap] 26 (0, 0)) ∈ H') (hr : Rd B w0 H' A (l.flatMap celF)) (hw : St B w0 H' w) => containsC_spec (noNode n.net) l 172 [.pointer (some ⟨g, 0, none⟩)] en172 hlen (cap := cap) hr (fun c _ w hw => dist1_spec n c g hm hw) hw
  rw [hno] at hct
  repeat' (first | ((first | apply VL_callt en50 | apply VL_callq en50); (repeat (first | exact args_nil | (apply args_cons; exact rfl))); exact rfl; exact fun _ hw => (hchk hin.cons hw)) | ((first | apply VL_callt en173 | apply VL_callq en173); (repeat (first | exact args_nil | (apply args_cons; exact rfl))); exact rfl; exact fun _ hw => (hcn hw)) | ((first | apply VL_callt en174 | apply VL_callq en174); (repeat (first | exact args_nil | (apply args_cons; exact rfl))); exact rfl; exact fun _ hw => (hct (by (focus repeat (first | with_reducible exact List.mem_cons_self | with_reducible apply List.mem_cons_of_mem | assumption))) hr.cons hw)) | ((first | apply VL_callt en175 | apply VL_callq en175); (repeat (first | exact args_nil | (apply args_cons; exact rfl))); exact rfl; exact fun _ hw => (disturb_in n l j node (check_ok hck) hnode hlen hin.cons hr.cons hw)) | apply (zs1 ?_) | apply (zs2 ?_) | (apply zg1; refine zs4 ?_) | (apply zg3; refine zs8 ?_) | (apply zg4; refine zs9 ?_) | (apply zg6; refine zs12 ?_) | (apply zg8; (refine zs16 ?_ ?_ <;> intro _ <;> try (exfalso; omega))) | (apply (zs17 ?_ ?_) <;> intro _ <;> try (exfalso; omega)) | (apply (zs20 ?_ ?_) <;> intro _ <;> try (exfalso; omega)) | (apply zg20; refine zs47 ?_) | apply (zs65 ?_) | apply (zs68 ?_) | apply (zs69 ?_) | apply (zs70 ?_) | (apply zg27; refine zs72 ?_) | apply (zs74 ?_) | apply (zs76 ?_) | (apply zg29; (apply VL_makeFunc; (repeat (first | exact args_nil | (apply args_cons; exact rfl))) ; exact rfl)) | fail)
  apply VQ_st H
  · (intro w hw; refine hw.perm ?_; focus repeat (first | with_reducible exact Perm.refl _ | (with_reducible apply perm_take; focus ((repeat (first | with_reducible exact rem_here | with_reducible apply rem_there)); done)) | with_reducible apply Perm.dropK))
  apply VQ_ret1; exact rfl; exact rfl; exact ⟨rfl, rfl⟩
end Go.Proofs.YtmalhidldgfeoaaGreatDoor

/- Walks: the program's disturbed. -/
namespace Go.Proofs.YtmalhidldgfeoaaGreatDoor
open Go.RowKit Go.Eng Go.Nw

theorem inI_split {s : Sch} {slot : Int} {j n : Nat} (h : (celAt s j).1 = slot) (hj : j < n) : ∃ R, inI s slot n = inI s slot j ++ j :: R ∧ ∀ x ∈ R, j < x := by
  obtain ⟨m, rfl⟩ : ∃ m, n = j + (m + 1) := ⟨n - j - 1, by omega⟩
  have e : inI s slot (j + (m + 1)) = inI s slot j ++ ((List.range (m + 1)).map (j + ·)).filter fun i => decide ((celAt s i).1 = slot) := by
    unfold inI; rw [List.range_add, List.filter_append]
  rw [e, List.range_succ_eq_map, List.map_cons, List.filter_cons, if_pos (by simpa using h)]
  refine ⟨_, rfl, fun x hx => ?_⟩
  obtain ⟨y, hy, rfl⟩ := List.mem_map.1 (List.mem_filter.1 hx).1
  obtain ⟨z, _, rfl⟩ := List.mem_map.1 hy
  omega
theorem inI_take {s : Sch} {slot : Int} {n k j : Nat} (h : (inI s slot n)[k]? = some j) : (inI s slot n).take k = inI s slot j := by
  have hm := inI_mem.1 (List.mem_of_getElem? h)
  obtain ⟨R, hR, hRx⟩ := inI_split hm.2 hm.1
  rw [hR] at h ⊢
  have hk : k = (inI s slot j).length := by
    rcases Nat.lt_trichotomy k (inI s slot j).length with h1 | h1 | h1
    · rw [List.getElem?_append_left h1] at h
      have := (inI_mem.1 (List.mem_of_getElem? h)).1
      omega
    · exact h1
    · rw [List.getElem?_append_right (by omega)] at h
      obtain ⟨q, hq⟩ : ∃ q, k - (inI s slot j).length = q + 1 := ⟨k - (inI s slot j).length - 1, by omega⟩
      rw [hq, List.getElem?_cons_succ] at h
      have := hRx j (List.mem_of_getElem? h)
      omega
  rw [hk, List.take_left' rfl]
theorem filter_snocT {α : Type} {p : α → Bool} {l : List α} {i : Nat} {x : α} (h : l[i]? = some x) : (l.take (i + 1)).filter p = (l.take i).filter p ++ if p x = true then [x] else [] := by
  rw [List.take_add_one, h, Option.toList_some, List.filter_append]
  cases hp : p x <;> simp [hp]
def placeM (s : Sch) (c : Cel) (l : List Nat) : List Cel := (l.filter fun j => decide ((celAt s j).2.1 = c.2.1)).map (celAt s)
theorem placeM_eq {s : Sch} {c : Cel} : ∀ {m : Nat}, m ≤ s.cells.length → placeM s c (inI s c.1 m) = (s.cells.take m).filter (placeB c)
  | 0, _ => by simp [placeM, inI]
  | m + 1, h => by
    have ih := placeM_eq (s := s) (c := c) (m := m) (by omega)
    have hg := celAt_some (s := s) (i := m) (by omega)
    rw [filter_snocT hg, ← ih]
    have hp : placeB c (celAt s m) = true ↔ (celAt s m).1 = c.1 ∧ (celAt s m).2.1 = c.2.1 := by unfold placeB; rw [decide_eq_true_eq]
    by_cases h1 : (celAt s m).1 = c.1
    · rw [inI_yes h1]
      unfold placeM
      rw [List.filter_append, List.map_append]
      by_cases h2 : (celAt s m).2.1 = c.2.1
      · rw [if_pos (hp.2 ⟨h1, h2⟩)]
        simp [h2]
      · rw [if_neg fun h => h2 (hp.1 h).2]
        simp [h2]
    · rw [inI_no h1, if_neg fun h => h1 (hp.1 h).1, List.append_nil]
theorem placeM_snoc (s : Sch) (c : Cel) (l : List Nat) (j : Nat) : placeM s c (l ++ [j]) = placeM s c l ++ if (celAt s j).2.1 = c.2.1 then [celAt s j] else [] := by
  unfold placeM
  rw [List.filter_append, List.map_append]
  by_cases h : (celAt s j).2.1 = c.2.1
  · rw [if_pos h]; simp [h]
  · rw [if_neg h]; simp [h]
structure DsM where
  A : Option Addr
  cap : Nat
  M : List Cel
  a : Int
set_option maxRecDepth 10000 in
set_option maxHeartbeats 4000000 in
theorem disturbed_spec (n : NetM) (s : SchM) (i : Nat) (hck : checkE n.net = 0) (hgood : ∀ c ∈ s.cells, goodE n.net (fromC c) (toC c) = true) (hi : i < s.cells.length) (hl : s.cells.length ≤ 1000) {B : Nat} {w0 : World} {H : List HP} {w : World} (hin : n.In B w0 H) (hr : Rd B w0 H s.A (s.cells.flatMap celF)) (hw : St B w0 H w) :
    Calls Tryz.prog 57 [n.val, s.val, .int .i64 i].toArray w (Post B w0 fun v K => v = .bool (disturbB n.net s.sch i) ∧ K = H) := by
  refine Calls_of_VCm Tryz.func57 Tryz.ntmps57 rfl rfl hw ?_
  have hget : s.cells[i]? = some (celAt s.sch i) := celAt_some (s := s.sch) hi
  obtain ⟨c, hc⟩ : ∃ c, celAt s.sch i = c := ⟨_, rfl⟩
  rw [hc] at hget
  have hrm : Rd B w0 [many H] s.A (s.cells.flatMap celF) := hr.tail
  clear hr
  refine VC_st [many H] (fun w hw => hw.perm (.closeT H)) ?_
  repeat' (first | apply (zs2 ?_) | (apply zg22; refine zs50 ?_) | (apply zg23; first | (refine zs52 ?_; intro _) | (refine zs53 ?_; intro _)) | (apply zg24; (refine zs54 ?_; intro _)) | apply (zs65 ?_) | apply (zs68 ?_) | apply (zs69 ?_) | apply (zs70 ?_) | fail)
  rename_i gn gs gi g7 g8
  apply VC_held [0, 1, 2, 3, 4, 5, 6] [7] [false, false, true, true, false, true]
  kernel_rfl
  kernel_rfl
  (repeat (first | with_reducible exact split_nil | with_reducible apply split_t | with_reducible apply split_f))
  (simp only [pickOps, nthO]; rfl)
  (simp only [pickOps, nthO]; rfl)
  repeat' (first | (apply zg2; first | refine zs6 ?_ | refine zs58 ?_) | (apply zg3; first | refine zs7 ?_ | refine zs8 ?_ | refine zs59 ?_) | (apply zg5; refine zs57 ?_) | (apply VL_nilh; (repeat (first | with_reducible exact app_nil | with_reducible apply app_cons | exact app_niln _))) | apply (zs93 ?_) | fail)
  apply VL_call _ en59
  (repeat (first | exact args_nil | (apply args_cons; exact rfl)))
  exact rfl
  exact fun _ hw => (inS_spec s c.1 (hw))
  rintro _ _ ⟨g1, g2, rfl, rfl⟩
  repeat' (first | apply (zs65 ?_) | apply (zs68 ?_) | apply (zs73 ?_) | apply (zs94 ?_) | fail)
  obtain ⟨L, hL⟩ : ∃ L, inI s.sch c.1 s.cells.length = L := ⟨_, rfl⟩
  have hiL : i ∈ L := by
    rw [← hL]
    exact inI_mem.2 ⟨hi, by rw [hc]⟩
  have hr7 : Rd B w0 (intB g2 c.1 :: schB g1 s :: blk gi (.cells #[.int .i64 i] 3 (0, 0)) :: schB gs s :: netN gn n :: [many H]) s.A (s.cells.flatMap celF) := hrm.cons.cons.cons.cons.cons
  rw [show (Value.slice none 0 0).cells = #[Value.slice none 0 0] from rfl]
  refine VC_nilSlice 40 5 ?_
  refine VC_rangeFunc (gf := 118) (lb := [.pointer (some ⟨g1, 0, none⟩), .pointer (some ⟨g2, 0, none⟩)]) (xs := inXs s.sch c.1) (intB g2 c.1 :: schB g1 s :: blk gi (.cells #[.int .i64 i] 3 (0, 0)) :: schB gs s :: netN gn n :: [many H]) (fun x : DsM => [blk g7 (.cells #[.slice x.A x.M.length x.cap] 28 (0, 0)), cels x.A x.cap x.M, blk g8 (.cells #[.int .i64 x.a] 3 (0, 0))])
    (fun k x => x.M = placeM s.sch c (L.take k) ∧ x.a = if i ∈ L.take k then (shareAt s.sch i : Int) else 0) (fun _ _ => False) ⟨none, 0, [], 0⟩ rfl en118 (in1_iter s c.1 g1 g2 hr7 (by omega) (.tail _ (.head _)) (.head _)) rfl ?_ (by kernel_rfl) (by kernel_rfl) ?_ ⟨by simp [placeM], by simp⟩ ?_ ?_ (fun _ _ _ h => h.elim)
  · intro args h
    obtain ⟨k, hk⟩ := List.mem_iff_getElem?.1 h
    obtain ⟨i, _, _, rfl⟩ := inXs_get hk
    rfl
  · unfold schB intB cels netN
    simp only [List.cons_append, List.nil_append, List.length_nil, List.flatMap_nil]
    (intro w hw; refine hw.perm ?_; focus repeat (first | with_reducible exact Perm.refl _ | (with_reducible apply perm_take; focus ((repeat (first | with_reducible exact rem_here | with_reducible apply rem_there)); done)) | with_reducible apply Perm.dropK))
  · rintro l k args R ⟨A, cap, M, a⟩ hk ⟨hM, ha⟩
    obtain ⟨j, hj, hlt, rfl⟩ := inXs_get hk
    have hlt2 : j < s.cells.length := hlt
    have hj : L[k]? = some j := by rw [← hL]; exact hj
    dsimp only at hM ha ⊢
    dsimp only [putEnv, List.cons_append, List.nil_append]
    have hgj : s.cells[j]? = some (celAt s.sch j) := celAt_some (s := s.sch) hlt
    have htj : L.take k = inI s.sch c.1 j := by
      rw [← hL] at hj ⊢
      exact inI_take hj
    have htk : L.take (k + 1) = L.take k ++ [j] := by rw [List.take_add_one, hj, Option.toList_some]
    have hMf : M = (s.cells.take j).filter (placeB c) := by
      rw [hM, htj]
      exact placeM_eq (s := s.sch) (by show j ≤ s.cells.length; omega)
    have hMl : M.length ≤ s.cells.length := by
      rw [hMf]
      have h1 := List.length_filter_le (placeB c) (s.cells.take j)
      rw [List.length_take] at h1
      omega
    have hps := placeM_snoc s.sch c (L.take k) j
    rw [← htk, ← hM] at hps
    obtain ⟨d, hd⟩ : ∃ d, celAt s.sch j = d := ⟨_, rfl⟩
    rw [hd] at hgj hps
    repeat' (first | apply (zs2 ?_) | apply (zs65 ?_) | apply (zs70 ?_) | fail)
    apply VQ_assign rem_here
    intro R'
    unfold intB schB netN cels
    clear hr7
    by_cases hoff : d.2.1 = c.2.1
    rotate_left
    · have hij : i ≠ j := by
        rintro rfl
        rw [hc] at hd
        subst hd
        exact hoff rfl
      repeat' (first | apply (zs1 ?_) | (apply zg2; first | refine zs6 ?_ | refine zs58 ?_) | (apply zg3; first | refine zs7 ?_ | refine zs59 ?_) | (apply zg5; refine zs57 ?_) | (apply zg8; (refine zs16 ?_ ?_ <;> intro _ <;> try (exfalso; omega))) | apply (zs66 ?_) | apply (zs68 ?_) | apply (zs69 ?_) | (apply zg27; refine zs71 ?_) | apply (zs73 ?_) | apply (zs75 ?_) | apply (zs80 ?_) | apply (zs81 ?_) | (apply zg28; refine zs83 ?_) | fail)
      all_goals (
        apply VQ_body ⟨A, cap, M, a⟩
        · refine ⟨?_, ?_⟩
          · show M = _
            rw [hps, if_neg hoff, List.append_nil]
          · show a = _
            rw [ha, htk]
            simp [hij]
        · dsimp only [List.cons_append, List.nil_append]
          (intro w hw; refine hw.perm ?_; focus repeat (first | with_reducible exact Perm.refl _ | (with_reducible apply perm_take; focus ((repeat (first | with_reducible exact rem_here | with_reducible apply rem_there)); done)) | with_reducible apply Perm.dropK)))
    by_cases hji : j = i
    · obtain rfl := hji
      obtain rfl : d = c := hd.symm.trans hc
      have hsa : (M.length : Int) = (shareAt s.sch j : Int) := by
        rw [hMf]
        unfold shareAt
        rw [hc]
        rfl
      repeat' (first | apply (zs1 ?_) | (apply zg2; first | refine zs6 ?_ | refine zs58 ?_) | (apply zg3; first | refine zs7 ?_ | refine zs59 ?_) | (apply zg4; refine zs9 ?_) | (apply zg5; refine zs57 ?_) | (apply zg7; (refine zs15 ?_ ?_ <;> intro _ <;> try (exfalso; omega))) | (apply zg8; (refine zs16 ?_ ?_ <;> intro _ <;> try (exfalso; omega))) | (apply zg22; refine zs50 ?_) | apply (zs65 ?_) | apply (zs66 ?_) | apply (zs68 ?_) | apply (zs69 ?_) | apply (zs70 ?_) | (apply zg27; first | refine zs71 ?_ | refine zs72 ?_) | apply (zs73 ?_) | apply (zs76 ?_) | (apply zg28; refine zs83 ?_) | fail)
      apply VC_heldH [0, 1, 2, 3, 4, 5, 6] [7, 8] [false, true, false, false, false, false, false, true, false, true]
      kernel_rfl
      kernel_rfl
      (repeat (first | with_reducible exact split_nil | with_reducible apply split_t | with_reducible apply split_f))
      (simp only [pickOps, nthO]; rfl)
      (simp only [pickOps, nthO]; rfl)
      repeat' (first | (apply VL_load_sl T; exact rfl; (focus repeat (first | with_reducible exact List.mem_cons_self | with_reducible apply List.mem_cons_of_mem | assumption)); exact rfl; exact rfl; exact rfl) | apply (zs1 ?_) | (apply zg2; refine zs6 ?_) | (apply zg3; first | refine zs7 ?_ | refine zs61 ?_) | (apply zg5; refine zs57 ?_) | (apply zg21; (refine zs49 ?_; intro _ _)) | (apply zg22; refine zs50 ?_) | (apply zg26; (refine zs56 ?_; intro _)) | apply (zs65 ?_) | (apply VL_nilh; (repeat (first | with_reducible exact app_nil | with_reducible apply app_cons | exact app_niln _))) | apply (zs79 ?_) | apply (zs87 ?_) | (apply VQ_heldq; (repeat (first | with_reducible exact pull_nil | (with_reducible apply pull_cons; (repeat (first | with_reducible exact rem_here | with_reducible apply rem_there)))))) | apply (zs93 ?_) | apply (zs94 ?_) | fail)
      rename_i A9 cap9
      apply VQ_body ⟨A9, cap9, M ++ [d], (M.length : Int)⟩
      · refine ⟨?_, ?_⟩
        · show M ++ [d] = _
          rw [hps, if_pos hoff]
        · show (M.length : Int) = _
          rw [htk, if_pos (by simp), hsa]
      · dsimp only [List.cons_append, List.nil_append]
        intro w hw
        rw [cels_snocR, len_snoc M d] at hw
        unfold cels at hw
        revert w
        (intro w hw; refine hw.perm ?_; focus repeat (first | with_reducible exact Perm.refl _ | (with_reducible apply perm_take; focus ((repeat (first | with_reducible exact rem_here | with_reducible apply rem_there)); done)) | with_reducible apply Perm.dropK))
    · have hji2 : i ≠ j := fun e => hji e.symm
      repeat' (first | apply (zs1 ?_) | (apply zg2; first | refine zs6 ?_ | refine zs58 ?_) | (apply zg3; first | refine zs7 ?_ | refine zs59 ?_) | (apply zg5; refine zs57 ?_) | (apply zg7; (refine zs15 ?_ ?_ <;> intro _ <;> try (exfalso; omega))) | (apply zg8; (refine zs16 ?_ ?_ <;> intro _ <;> try (exfalso; omega))) | apply (zs65 ?_) | apply (zs66 ?_) | apply (zs68 ?_) | apply (zs69 ?_) | apply (zs70 ?_) | (apply zg27; refine zs72 ?_) | apply (zs73 ?_) | apply (zs76 ?_) | (apply zg28; refine zs83 ?_) | fail)
      apply VC_heldH [0, 1, 2, 3, 4, 5, 6] [7, 8] [false, true, false, false, false, false, false, true, false, true]
      kernel_rfl
      kernel_rfl
      (repeat (first | with_reducible exact split_nil | with_reducible apply split_t | with_reducible apply split_f))
      (simp only [pickOps, nthO]; rfl)
      (simp only [pickOps, nthO]; rfl)
      repeat' (first | (apply VL_load_sl T; exact rfl; (focus repeat (first | with_reducible exact List.mem_cons_self | with_reducible apply List.mem_cons_of_mem | assumption)); exact rfl; exact rfl; exact rfl) | apply (zs1 ?_) | (apply zg2; refine zs6 ?_) | (apply zg3; first | refine zs7 ?_ | refine zs61 ?_) | (apply zg5; refine zs57 ?_) | (apply zg21; (refine zs49 ?_; intro _ _)) | (apply zg22; refine zs50 ?_) | (apply zg26; (refine zs56 ?_; intro _)) | apply (zs65 ?_) | (apply VL_nilh; (repeat (first | with_reducible exact app_nil | with_reducible apply app_cons | exact app_niln _))) | apply (zs79 ?_) | apply (zs87 ?_) | (apply VQ_heldq; (repeat (first | with_reducible exact pull_nil | (with_reducible apply pull_cons; (repeat (first | with_reducible exact rem_here | with_reducible apply rem_there)))))) | apply (zs93 ?_) | apply (zs94 ?_) | fail)
      rename_i A9 cap9
      apply VQ_body ⟨A9, cap9, M ++ [d], a⟩
      · refine ⟨?_, ?_⟩
        · show M ++ [d] = _
          rw [hps, if_pos hoff]
        · show a = _
          rw [ha, htk]
          simp [hji2]
      · dsimp only [List.cons_append, List.nil_append]
        intro w hw
        rw [cels_snocR, len_snoc M d] at hw
        unfold cels at hw
        revert w
        (intro w hw; refine hw.perm ?_; focus repeat (first | with_reducible exact Perm.refl _ | (with_reducible apply perm_take; focus ((repeat (first | with_reducible exact rem_here | with_reducible apply rem_there)); done)) | with_reducible apply Perm.dropK))
  · rintro D ⟨A, cap, M, a⟩ ⟨hM, ha⟩
    have hLl : (inXs s.sch c.1).length = L.length := by rw [inXs, List.length_map]; exact congrArg List.length hL
    dsimp only at hM ha ⊢
    rw [hLl, List.take_length] at hM ha
    rw [if_pos hiL] at ha
    subst ha
    have hMS : M = shareE s.sch i := by
      rw [hM, ← hL]
      have h1 := placeM_eq (s := s.sch) (c := c) (Nat.le_refl _)
      rw [List.take_length] at h1
      rw [show s.cells.length = s.sch.cells.length from rfl, h1]
      unfold shareE
      rw [hc]
    have hMl : M.length ≤ 1000 := by
      rw [hMS]
      have h1 := List.length_filter_le (placeB (celAt s.sch i)) s.sch.cells
      exact Nat.le_trans h1 hl
    have hgM : M[((shareAt s.sch i : Nat) : Int).toNat]? = some c := by rw [hMS, Int.toNat_natCast, share_at (s := s.sch) hi, hc]
    have hal : shareAt s.sch i < M.length := (List.getElem?_eq_some_iff.1 hgM).1
    have hok := check_ok hck
    have hcm : c ∈ s.cells := List.mem_of_getElem? hget
    have hgd := hgood c hcm
    obtain ⟨⟨f0, f1⟩, ⟨t0, t1⟩, _, k1, k2⟩ : (0 ≤ c.2.2.1 ∧ c.2.2.1 < n.net.nodes) ∧ (0 ≤ c.2.2.2.1 ∧ c.2.2.2.1 < n.net.nodes) ∧ c.2.2.1 ≠ c.2.2.2.1 ∧ 0 ≤ findE n.net c.2.2.1 c.2.2.2.1 ∧ 0 ≤ findE n.net c.2.2.2.1 c.2.2.1 := good_nodes hok hgd
    have hno : M.any (noNode n.net) = false := by
      rw [List.any_eq_false]
      intro x hx
      have hxm : x ∈ s.cells := by
        rw [hMS] at hx
        exact (List.mem_filter.1 hx).1
      obtain ⟨h1, h2, _⟩ := good_nodes hok (hgood x hxm)
      unfold noNode
      rw [show insE (fromC x) n.net.nodes = true from decide_eq_true h1, show insE (toC x) n.net.nodes = true from decide_eq_true h2]
      simp
    have hinm : n.In B w0 [many H] := ⟨hin.pw.tail, fun r hr => (hin.rw_ r hr).tail, hin.lk.tail, hin.mg.tail, hin.s1, hin.s2, hin.s3, hin.s4⟩
    have hmg := hinm.mg
    have hs4 := hin.s4
    have hml : n.margin.length = n.net.links.length := hok.k1
    have x1 := find_lt k1
    have x2 := find_lt k2
    have hix : ∀ u v : Int, indexE n.net u v = findE n.net u v := fun u v => by unfold indexE; rw [if_neg (by omega)]
    have p1 := fun {H' : List HP} {w : World} (hin : n.In B w0 H') (hw : St B w0 H' w) => index_spec n c.2.2.1 c.2.2.2.1 hin hw
    have p2 := fun {H' : List HP} {w : World} (hin : n.In B w0 H') (hw : St B w0 H' w) => index_spec n c.2.2.2.1 c.2.2.1 hin hw
    rw [hix] at p1 p2
    obtain ⟨i1, hi1⟩ : ∃ z, findE n.net c.2.2.1 c.2.2.2.1 = z := ⟨_, rfl⟩
    obtain ⟨i2, hi2⟩ : ∃ z, findE n.net c.2.2.2.1 c.2.2.1 = z := ⟨_, rfl⟩
    rw [hi1] at p1 k1 x1
    rw [hi2] at p2 k2 x2
    have hm1 : n.margin[i1.toNat]? = some (mar n.net i1.toNat) := by
      unfold mar
      rw [List.getD_eq_getElem?_getD, show n.net.margin = n.margin from rfl, List.getElem?_eq_getElem (by omega)]; rfl
    have hm2 : n.margin[i2.toNat]? = some (mar n.net i2.toNat) := by
      unfold mar
      rw [List.getD_eq_getElem?_getD, show n.net.margin = n.margin from rfl, List.getElem?_eq_getElem (by omega)]; rfl
    have q1 := fun {H' : List HP} {w : World} (hin : n.In B w0 H') (hr : Rd B w0 H' A (M.flatMap celF)) (hw : St B w0 H' w) => disturbance_spec n M (shareAt s.sch i) c.2.2.2.1 hck ⟨t0, t1⟩ hal hMl hno (cap := cap) hin hr hw
    have q2 := fun {H' : List HP} {w : World} (hin : n.In B w0 H') (hr : Rd B w0 H' A (M.flatMap celF)) (hw : St B w0 H' w) => disturbance_spec n M (shareAt s.sch i) c.2.2.1 hck ⟨f0, f1⟩ hal hMl hno (cap := cap) hin hr hw
    have r1 := fun {H' : List HP} {w : World} (hin : n.In B w0 H') (hw : St B w0 H' w) => Hears_spec n (mar n.net i1.toNat) (distE n.net M (shareAt s.sch i) c.2.2.2.1) hin hw
    have r2 := fun {H' : List HP} {w : World} (hin : n.In B w0 H') (hw : St B w0 H' w) => Hears_spec n (mar n.net i2.toNat) (distE n.net M (shareAt s.sch i) c.2.2.1) hin hw
    have hres : disturbB n.net s.sch i = (!(hearsE n.net (mar n.net i1.toNat) (distE n.net M (shareAt s.sch i) c.2.2.2.1)) || !(hearsE n.net (mar n.net i2.toNat) (distE n.net M (shareAt s.sch i) c.2.2.1))) := by
      unfold disturbB
      rw [hc, ← hMS]
      unfold fromC toC
      rw [hi1, hi2]
    obtain ⟨b1, hb1⟩ : ∃ b, hearsE n.net (mar n.net i1.toNat) (distE n.net M (shareAt s.sch i) c.2.2.2.1) = b := ⟨_, rfl⟩
    obtain ⟨b2, hb2⟩ : ∃ b, hearsE n.net (mar n.net i2.toNat) (distE n.net M (shareAt s.sch i) c.2.2.1) = b := ⟨_, rfl⟩
    rw [hb1] at r1 hres
    rw [hb2] at r2 hres
    rw [hres]
    dsimp only [List.cons_append, List.nil_append]
    unfold cels intB schB netN
    cases b1 with
    | false =>
      repeat' (first | (apply zg2; refine zs6 ?_) | (apply zg3; first | refine zs7 ?_ | refine zs8 ?_ | refine zs61 ?_) | (apply zg5; refine zs10 ?_) | (apply zg22; refine zs51 ?_) | (apply zg24; (refine zs54 ?_; intro _)) | apply (zs65 ?_) | apply (zs68 ?_) | apply (zs69 ?_) | apply (zs70 ?_) | apply (zs79 ?_) | (apply zg28; refine zs84 ?_) | fail)
      first | apply VL_callt en95 | apply VL_callq en95
      (repeat (first | exact args_nil | (apply args_cons; exact rfl)))
      exact rfl
      exact fun _ hw => (p1 (by repeat (first | exact hinm | apply NetM.In.cons)) hw)
      repeat' (first | (apply zg2; refine zs6 ?_) | (apply zg3; first | refine zs7 ?_ | refine zs8 ?_) | fail)
      first | apply VL_callt en95 | apply VL_callq en95
      (repeat (first | exact args_nil | (apply args_cons; exact rfl)))
      exact rfl
      exact fun _ hw => (p2 (by repeat (first | exact hinm | apply NetM.In.cons)) hw)
      repeat' (first | apply (zs1 ?_) | apply (zs2 ?_) | (apply zg2; refine zs6 ?_) | (apply zg3; first | refine zs7 ?_ | refine zs8 ?_ | refine zs60 ?_) | (apply zg5; refine zs57 ?_) | apply (zs66 ?_) | apply (zs68 ?_) | apply (zs69 ?_) | (apply zg28; refine zs84 ?_) | fail)
      first | apply VL_callt en116 | apply VL_callq en116
      (repeat (first | exact args_nil | (apply args_cons; exact rfl)))
      exact rfl
      exact fun _ hw => (q1 (by repeat (first | exact hinm | apply NetM.In.cons)) (Rd.sl (by (focus repeat (first | with_reducible exact List.mem_cons_self | with_reducible apply List.mem_cons_of_mem | assumption)))) hw)
      repeat' (first | fail)
      first | apply VL_callt en115 | apply VL_callq en115
      (repeat (first | exact args_nil | (apply args_cons; exact rfl)))
      exact rfl
      exact fun _ hw => (r1 (by repeat (first | exact hinm | apply NetM.In.cons)) hw)
      repeat' (first | apply (zs1 ?_) | apply (zs2 ?_) | (apply zg1; refine zs3 ?_) | (apply zg6; refine zs11 ?_) | (apply zg20; refine zs48 ?_) | apply (zs66 ?_) | apply (zs68 ?_) | apply (zs74 ?_) | fail)
      apply VQ_mark
      · (repeat (first | with_reducible exact rem_here | with_reducible apply rem_there))
      apply VQ_m
      apply VQ_st H
      · intro w hw
        have h5 : St B w0 [many H] w := by
          revert w
          (intro w hw; refine hw.perm ?_; focus repeat (first | with_reducible exact Perm.refl _ | (with_reducible apply perm_take; focus ((repeat (first | with_reducible exact rem_here | with_reducible apply rem_there)); done)) | with_reducible apply Perm.dropK))
        exact h5.perm (.openT H)
      apply VQ_ret1; exact rfl; exact rfl; exact ⟨rfl, rfl⟩
    | true =>
      cases b2 with
      | false =>
        repeat' (first | (apply zg2; refine zs6 ?_) | (apply zg3; first | refine zs7 ?_ | refine zs8 ?_ | refine zs61 ?_) | (apply zg5; refine zs10 ?_) | (apply zg22; refine zs51 ?_) | (apply zg24; (refine zs54 ?_; intro _)) | apply (zs65 ?_) | apply (zs68 ?_) | apply (zs69 ?_) | apply (zs70 ?_) | apply (zs79 ?_) | (apply zg28; refine zs84 ?_) | fail)
        first | apply VL_callt en95 | apply VL_callq en95
        (repeat (first | exact args_nil | (apply args_cons; exact rfl)))
        exact rfl
        exact fun _ hw => (p1 (by repeat (first | exact hinm | apply NetM.In.cons)) hw)
        repeat' (first | (apply zg2; refine zs6 ?_) | (apply zg3; first | refine zs7 ?_ | refine zs8 ?_) | fail)
        first | apply VL_callt en95 | apply VL_callq en95
        (repeat (first | exact args_nil | (apply args_cons; exact rfl)))
        exact rfl
        exact fun _ hw => (p2 (by repeat (first | exact hinm | apply NetM.In.cons)) hw)
        repeat' (first | apply (zs1 ?_) | apply (zs2 ?_) | (apply zg2; refine zs6 ?_) | (apply zg3; first | refine zs7 ?_ | refine zs8 ?_ | refine zs60 ?_) | (apply zg5; refine zs57 ?_) | apply (zs66 ?_) | apply (zs68 ?_) | apply (zs69 ?_) | (apply zg28; refine zs84 ?_) | fail)
        first | apply VL_callt en116 | apply VL_callq en116
        (repeat (first | exact args_nil | (apply args_cons; exact rfl)))
        exact rfl
        exact fun _ hw => (q1 (by repeat (first | exact hinm | apply NetM.In.cons)) (Rd.sl (by (focus repeat (first | with_reducible exact List.mem_cons_self | with_reducible apply List.mem_cons_of_mem | assumption)))) hw)
        repeat' (first | fail)
        first | apply VL_callt en115 | apply VL_callq en115
        (repeat (first | exact args_nil | (apply args_cons; exact rfl)))
        exact rfl
        exact fun _ hw => (r1 (by repeat (first | exact hinm | apply NetM.In.cons)) hw)
        repeat' (first | apply (zs1 ?_) | (apply zg1; refine zs4 ?_) | (apply zg2; refine zs6 ?_) | (apply zg3; first | refine zs7 ?_ | refine zs8 ?_ | refine zs60 ?_) | (apply zg5; refine zs57 ?_) | (apply zg20; refine zs47 ?_) | fail)
        first | apply VL_callt en116 | apply VL_callq en116
        (repeat (first | exact args_nil | (apply args_cons; exact rfl)))
        exact rfl
        exact fun _ hw => (q2 (by repeat (first | exact hinm | apply NetM.In.cons)) (Rd.sl (by (focus repeat (first | with_reducible exact List.mem_cons_self | with_reducible apply List.mem_cons_of_mem | assumption)))) hw)
        repeat' (first | (apply zg1; refine zs4 ?_) | fail)
        first | apply VL_callt en115 | apply VL_callq en115
        (repeat (first | exact args_nil | (apply args_cons; exact rfl)))
        exact rfl
        exact fun _ hw => (r2 (by repeat (first | exact hinm | apply NetM.In.cons)) hw)
        repeat' (first | apply (zs2 ?_) | (apply zg1; refine zs4 ?_) | (apply zg6; refine zs12 ?_) | (apply zg20; refine zs48 ?_) | apply (zs66 ?_) | apply (zs68 ?_) | apply (zs74 ?_) | fail)
        apply VQ_mark
        · (repeat (first | with_reducible exact rem_here | with_reducible apply rem_there))
        apply VQ_m
        apply VQ_st H
        · intro w hw
          have h5 : St B w0 [many H] w := by
            revert w
            (intro w hw; refine hw.perm ?_; focus repeat (first | with_reducible exact Perm.refl _ | (with_reducible apply perm_take; focus ((repeat (first | with_reducible exact rem_here | with_reducible apply rem_there)); done)) | with_reducible apply Perm.dropK))
          exact h5.perm (.openT H)
        apply VQ_ret1; exact rfl; exact rfl; exact ⟨rfl, rfl⟩
      | true =>
        repeat' (first | (apply zg2; refine zs6 ?_) | (apply zg3; first | refine zs7 ?_ | refine zs8 ?_ | refine zs61 ?_) | (apply zg5; refine zs10 ?_) | (apply zg22; refine zs51 ?_) | (apply zg24; (refine zs54 ?_; intro _)) | apply (zs65 ?_) | apply (zs68 ?_) | apply (zs69 ?_) | apply (zs70 ?_) | apply (zs79 ?_) | (apply zg28; refine zs84 ?_) | fail)
        first | apply VL_callt en95 | apply VL_callq en95
        (repeat (first | exact args_nil | (apply args_cons; exact rfl)))
        exact rfl
        exact fun _ hw => (p1 (by repeat (first | exact hinm | apply NetM.In.cons)) hw)
        repeat' (first | (apply zg2; refine zs6 ?_) | (apply zg3; first | refine zs7 ?_ | refine zs8 ?_) | fail)
        first | apply VL_callt en95 | apply VL_callq en95
        (repeat (first | exact args_nil | (apply args_cons; exact rfl)))
        exact rfl
        exact fun _ hw => (p2 (by repeat (first | exact hinm | apply NetM.In.cons)) hw)
        repeat' (first | apply (zs1 ?_) | apply (zs2 ?_) | (apply zg2; refine zs6 ?_) | (apply zg3; first | refine zs7 ?_ | refine zs8 ?_ | refine zs60 ?_) | (apply zg5; refine zs57 ?_) | apply (zs66 ?_) | apply (zs68 ?_) | apply (zs69 ?_) | (apply zg28; refine zs84 ?_) | fail)
        first | apply VL_callt en116 | apply VL_callq en116
        (repeat (first | exact args_nil | (apply args_cons; exact rfl)))
        exact rfl
        exact fun _ hw => (q1 (by repeat (first | exact hinm | apply NetM.In.cons)) (Rd.sl (by (focus repeat (first | with_reducible exact List.mem_cons_self | with_reducible apply List.mem_cons_of_mem | assumption)))) hw)
        repeat' (first | fail)
        first | apply VL_callt en115 | apply VL_callq en115
        (repeat (first | exact args_nil | (apply args_cons; exact rfl)))
        exact rfl
        exact fun _ hw => (r1 (by repeat (first | exact hinm | apply NetM.In.cons)) hw)
        repeat' (first | apply (zs1 ?_) | (apply zg1; refine zs4 ?_) | (apply zg2; refine zs6 ?_) | (apply zg3; first | refine zs7 ?_ | refine zs8 ?_ | refine zs60 ?_) | (apply zg5; refine zs57 ?_) | (apply zg20; refine zs47 ?_) | fail)
        first | apply VL_callt en116 | apply VL_callq en116
        (repeat (first | exact args_nil | (apply args_cons; exact rfl)))
        exact rfl
        exact fun _ hw => (q2 (by repeat (first | exact hinm | apply NetM.In.cons)) (Rd.sl (by (focus repeat (first | with_reducible exact List.mem_cons_self | with_reducible apply List.mem_cons_of_mem | assumption)))) hw)
        repeat' (first | (apply zg1; refine zs4 ?_) | fail)
        first | apply VL_callt en115 | apply VL_callq en115
        (repeat (first | exact args_nil | (apply args_cons; exact rfl)))
        exact rfl
        exact fun _ hw => (r2 (by repeat (first | exact hinm | apply NetM.In.cons)) hw)
        repeat' (first | apply (zs2 ?_) | (apply zg1; refine zs4 ?_) | (apply zg6; refine zs12 ?_) | (apply zg20; refine zs47 ?_) | apply (zs66 ?_) | apply (zs68 ?_) | apply (zs74 ?_) | fail)
        apply VQ_mark
        · (repeat (first | with_reducible exact rem_here | with_reducible apply rem_there))
        apply VQ_m
        apply VQ_st H
        · intro w hw
          have h5 : St B w0 [many H] w := by
            revert w
            (intro w hw; refine hw.perm ?_; focus repeat (first | with_reducible exact Perm.refl _ | (with_reducible apply perm_take; focus ((repeat (first | with_reducible exact rem_here | with_reducible apply rem_there)); done)) | with_reducible apply Perm.dropK))
          exact h5.perm (.openT H)
        apply VQ_ret1; exact rfl; exact rfl; exact ⟨rfl, rfl⟩
end Go.Proofs.YtmalhidldgfeoaaGreatDoor

/- Schedules, plain: what was added is there, and can be removed; a valid schedule has its form. -/
namespace Go.Proofs.YtmalhidldgfeoaaGreatDoor
open Go.RowKit Go.Eng Go.Nw

/-- A flow that is found is one of the list. -/
theorem find_mem {l : List Flw} {id : Int} (h : 0 ≤ findF l id) : ∃ f ∈ l, f.1 = id := by
  unfold findF at h
  have := (idx_any (fun f : Flw => decide (f.1 = id)) l 0 (Int.le_refl _)).1 h
  obtain ⟨f, hf, hp⟩ := List.any_eq_true.1 this
  exact ⟨f, hf, of_decide_eq_true hp⟩
theorem flows_ids {nodes : Int} {l : List Flw} (h : (flowsE nodes l).2 = 0) : ∀ f ∈ l, 0 ≤ f.1 ∧ f.1 ≤ 255 ∧ 1 ≤ f.2.2.2.1 ∧ f.2.2.2.1 ≤ 512 := by
  intro f hf
  obtain ⟨i, hi⟩ := List.mem_iff_getElem?.1 hf
  have hl := (List.getElem?_eq_some_iff.1 hi).1
  unfold flowsE at h
  split at h
  · cases h
  split at h
  · cases h
  have := firstF_ok.1 h i (Nat.zero_le _) (by omega)
  unfold flowAtE at this
  have e : flwAt l i = f := by unfold flwAt; rw [List.getD_eq_getElem?_getD, hi]; rfl
  rw [e] at this
  split at this
  · rename_i h1; exact absurd this h1
  · rename_i h1
    have h2 : flowE nodes f = 0 := Decidable.not_not.1 h1
    unfold flowE at h2
    split at h2
    · cases h2
    split at h2
    · cases h2
    omega
structure Val (n : Net) (l : List Flw) (s : Sch) : Prop where
  whole : wholeE n l s = 0
  cells : (cellsF n l s).2 = 0
  twice : (twiceF s).2 = 0
  dist : (distF n s).2 = 0
theorem val_iff {n : Net} {l : List Flw} {s : Sch} : (schE n l s).2 = 0 ↔ Val n l s := by
  unfold schE
  by_cases h1 : wholeE n l s ≠ 0
  · rw [if_pos h1]
    exact ⟨fun h => absurd h h1, fun h => absurd h.whole h1⟩
  rw [if_neg h1]
  by_cases h2 : (cellsF n l s).2 ≠ 0
  · rw [if_pos h2]
    exact ⟨fun h => absurd h h2, fun h => absurd h.cells h2⟩
  rw [if_neg h2]
  by_cases h3 : (twiceF s).2 ≠ 0
  · rw [if_pos h3]
    exact ⟨fun h => absurd h h3, fun h => absurd h.twice h3⟩
  rw [if_neg h3]
  exact ⟨fun h => ⟨Decidable.not_not.1 h1, Decidable.not_not.1 h2, Decidable.not_not.1 h3, h⟩, fun h => h.dist⟩
theorem sch_bd {n : Net} {l : List Flw} {s : Sch} : -1 ≤ (schE n l s).1 ∧ (schE n l s).1 ≤ s.cells.length ∧ ((schE n l s).2 ≠ 0 → (schE n l s).1 < s.cells.length) ∧ ((schE n l s).2 = 0 → (schE n l s).1 = -1) := by
  have k1 := @firstF_bd (cellF n l s) s.cells.length 0
  have k2 := @firstF_bd (fun i => if twiceB s i = true then 6 else 0) s.cells.length 0
  have k3 := @firstF_bd (fun i => if disturbB n s i = true then 16 else 0) s.cells.length 0
  have k4 := @firstF_neg (fun i => if disturbB n s i = true then 16 else 0) s.cells.length 0
  unfold schE
  by_cases h1 : wholeE n l s ≠ 0
  · rw [if_pos h1]
    exact ⟨by simp, by simp only; omega, fun _ => by simp only; omega, fun h => absurd h h1⟩
  rw [if_neg h1]
  by_cases h2 : (cellsF n l s).2 ≠ 0
  · rw [if_pos h2]
    unfold cellsF at h2 ⊢
    exact ⟨by omega, by omega, fun _ => by omega, fun h => absurd h h2⟩
  rw [if_neg h2]
  by_cases h3 : (twiceF s).2 ≠ 0
  · rw [if_pos h3]
    unfold twiceF at h3 ⊢
    exact ⟨by omega, by omega, fun _ => by omega, fun h => absurd h h3⟩
  rw [if_neg h3]
  unfold distF
  exact ⟨by omega, by omega, fun _ => by omega, k4⟩
theorem whole_ok {n : Net} {l : List Flw} {s : Sch} (h : wholeE n l s = 0) : checkE n = 0 ∧ (flowsE n.nodes l).2 = 0 ∧ sizedE s = true ∧ (∀ f ∈ l, s.len.tmod f.2.2.2.1 = 0) ∧ s.cells.length ≤ 512 := by
  unfold wholeE at h
  by_cases h1 : checkE n = 0
  rotate_left
  · rw [if_pos h1] at h; cases h
  rw [if_neg (fun e => e h1)] at h
  by_cases h2 : (flowsE n.nodes l).2 = 0
  rotate_left
  · rw [if_pos h2] at h; cases h
  rw [if_neg (fun e => e h2)] at h
  cases h3 : sizedE s with
  | false => rw [h3, if_pos rfl] at h; cases h
  | true =>
    rw [h3, if_neg (by decide)] at h
    split at h
    · cases h
    rename_i h4
    split at h
    · cases h
    refine ⟨h1, h2, rfl, fun f hf => ?_, by omega⟩
    have := List.any_eq_false.1 (Bool.eq_false_iff.2 h4) f hf
    simpa using this
theorem Val.frm {n : Net} {l : List Flw} {s : Sch} (h : Val n l s) : Frm s := by
  obtain ⟨h1, h2, h3, h4, h5⟩ := whole_ok h.whole
  have hok := check_ok h1
  have k1 := firstF_ok.1 h.cells
  have hids := flows_ids h2
  have hn := hok.n1
  have hcell : ∀ i, i < s.cells.length → placedE s (celAt s i) = true ∧ goodE n (fromC (celAt s i)) (toC (celAt s i)) = true ∧ 0 ≤ findF l (flowC (celAt s i)) ∧ (0 < i → celLt (celAt s (i - 1)) (celAt s i) = true) := fun i hi => by
    have := k1 i (Nat.zero_le _) (by omega)
    unfold cellF at this
    cases hp : placedE s (celAt s i) with
    | false => rw [hp, if_pos rfl] at this; cases this
    | true =>
      rw [hp, if_neg (by decide)] at this
      split at this
      · cases this
      rename_i h6
      split at this
      · cases this
      rename_i h7
      refine ⟨rfl, ?_, ?_, fun h0 => ?_⟩
      · cases hg : goodE n (fromC (celAt s i)) (toC (celAt s i)) with
        | true => rfl
        | false => exact absurd (.inl hg) h6
      · exact Int.not_lt.1 fun hlt => h6 (.inr hlt)
      · cases hc : celLt (celAt s (i - 1)) (celAt s i) with
        | true => rfl
        | false => exact absurd ⟨h0, hc⟩ h7
  refine ⟨h3, h5, fun c hc => ?_, ?_⟩
  · obtain ⟨i, hi⟩ := List.mem_iff_getElem?.1 hc
    obtain ⟨a1, a2, a3, _⟩ := hcell i (List.getElem?_eq_some_iff.1 hi).1
    rw [celAt_get hi] at a1 a2 a3
    have hg := good_nodes hok a2
    obtain ⟨f, hf, hfe⟩ := find_mem a3
    have hid := hids f hf
    unfold fromC toC flowC at *
    unfold formedE insE
    rw [a1, decide_eq_true (by omega), decide_eq_true (by omega), decide_eq_true (by omega)]
    rfl
  · refine ord_of_steps (lt := celLt) (fun h1 h2 => cel_trans h1 h2) fun i a b ha hb => ?_
    have := (hcell (i + 1) (List.getElem?_eq_some_iff.1 hb).1).2.2.2 (by omega)
    rw [Nat.add_sub_cancel, celAt_get ha, celAt_get hb] at this
    exact this
end Go.Proofs.YtmalhidldgfeoaaGreatDoor

/- Schedules, plain: what is valid, said cell by cell; with fewer cells it stays so. -/
namespace Go.Proofs.YtmalhidldgfeoaaGreatDoor
open Go.RowKit Go.Eng Go.Nw

def cpN (n : Net) (node : Int) (d : Cel) : Int := powN n (fromC d) node + powN n (toC d) node
def sumC (n : Net) (node : Int) (l : List Cel) : Int := (l.map (cpN n node)).sum
theorem sumC_nil (n : Net) (node : Int) : sumC n node [] = 0 := rfl
theorem sumC_cons (n : Net) (node : Int) (d : Cel) (l : List Cel) : sumC n node (d :: l) = cpN n node d + sumC n node l := by unfold sumC; rw [List.map_cons, List.sum_cons]
theorem sumC_append (n : Net) (node : Int) : ∀ l m : List Cel, sumC n node (l ++ m) = sumC n node l + sumC n node m
  | [], m => by rw [List.nil_append, sumC_nil]; omega
  | d :: l, m => by rw [List.cons_append, sumC_cons, sumC_cons, sumC_append n node l m]; omega
theorem sumC_sub {n : Net} (h : Ok n) (node : Int) {l m : List Cel} (hs : l.Sublist m) : sumC n node l ≤ sumC n node m := by
  induction hs with
  | slnil => exact Int.le_refl _
  | @cons l m d _ ih =>
    rw [sumC_cons]
    have h1 := powN_bd h (fromC d) node
    have h2 := powN_bd h (toC d) node
    unfold cpN
    omega
  | cons_cons d _ ih => rw [sumC_cons, sumC_cons]; omega
theorem dist_sum {n : Net} {l : List Cel} (hnd : l.Nodup) {j : Nat} {c : Cel} (hj : l[j]? = some c) (node : Int) : ∀ k, k ≤ l.length → distTo n l j node k = sumC n node ((l.take k).filter fun d => decide (d ≠ c))
  | 0, _ => rfl
  | k + 1, hk => by
    obtain ⟨d, hd⟩ : ∃ d, l[k]? = some d := ⟨_, List.getElem?_eq_getElem hk⟩
    have hc : celL l k = d := by unfold celL; rw [List.getD_eq_getElem?_getD, hd]; rfl
    unfold distTo
    rw [dist_sum hnd hj node k (by omega), List.take_add_one, hd, List.filter_append, sumC_append, hc]
    congr 1
    by_cases e : k = j
    · subst e
      rw [hj] at hd
      obtain rfl := Option.some.inj hd
      rw [if_pos rfl]
      simp [sumC]
    · have hne : d ≠ c := fun h => by
        subst h
        obtain ⟨h1, h2⟩ := List.getElem?_eq_some_iff.1 hd
        obtain ⟨h3, h4⟩ := List.getElem?_eq_some_iff.1 hj
        have hp := List.pairwise_iff_getElem.1 hnd
        rcases Nat.lt_or_gt_of_ne e with h | h
        · exact hp k j h1 h3 h (by rw [h2, h4])
        · exact hp j k h3 h1 h (by rw [h2, h4])
      rw [if_neg e]
      simp only [Option.toList_some, List.filter_cons, decide_eq_true hne, if_true, List.filter_nil]
      rw [sumC_cons, sumC_nil]
      unfold cpN
      omega
/-- The disturbance of a cell among cells, at a node. -/
def distS (n : Net) (l : List Cel) (c : Cel) (node : Int) : Int := sumC n node (l.filter fun d => placeB c d && decide (d ≠ c))
def clearB (n : Net) (l : List Cel) (c : Cel) : Bool := heardE n (mar n (findE n (fromC c) (toC c)).toNat) (distS n l c (toC c)) && heardE n (mar n (findE n (toC c) (fromC c)).toNat) (distS n l c (fromC c))
theorem dist_clear {n : Net} (hck : checkE n = 0) {s : Sch} (hf : Fine n s) (ho : Ord s.cells) {i : Nat} (hi : i < s.cells.length) : disturbB n s i = !(clearB n s.cells (celAt s i)) := by
  have hok := check_ok hck
  rw [dist_ref hck hf hi]
  have hnd := ord_nodup ho
  have hat := share_at hi
  have hsub : (shareE s i).Sublist s.cells := List.filter_sublist
  have hnds := hnd.sublist hsub
  have hc : celL (shareE s i) (shareAt s i) = celAt s i := by unfold celL; rw [List.getD_eq_getElem?_getD, hat]; rfl
  have hd : ∀ node, distTo n (shareE s i) (shareAt s i) node (shareE s i).length = distS n s.cells (celAt s i) node := fun node => by
    rw [dist_sum hnds hat node _ (Nat.le_refl _), List.take_length]
    unfold distS shareE
    rw [List.filter_filter]
    congr 1
    refine List.filter_congr fun x _ => ?_
    exact Bool.and_comm _ _
  have hg := hf.good _ (celAt_mem hi)
  have hr := dist_ref hck hf hi
  have hto : ((List.range (shareE s i).length).any fun k => decide (k ≠ shareAt s i) && touchE (celL (shareE s i) (shareAt s i)) (celL (shareE s i) k)) = false := by
    have hpw : (shareE s i).Pairwise fun a b => touchE a b = false := by
      refine (hf.once.sublist hsub).imp_of_mem fun {a b} ha hb hab => hab ?_
      have h1 := (List.mem_filter.1 ha).2
      have h2 := (List.mem_filter.1 hb).2
      unfold placeB at h1 h2
      simp only [decide_eq_true_eq] at h1 h2
      rw [h1.1, h2.1]
    have hlt := (List.getElem?_eq_some_iff.1 hat).1
    rw [List.any_eq_false]
    intro k hk
    have hk := List.mem_range.1 hk
    by_cases e : k = shareAt s i
    · rw [decide_eq_false (fun h => h e)]; simp
    · have hpk := List.pairwise_iff_getElem.1 hpw
      have e1 : celL (shareE s i) k = (shareE s i)[k] := by unfold celL; rw [List.getD_eq_getElem?_getD, List.getElem?_eq_getElem hk]; rfl
      have e2 : celL (shareE s i) (shareAt s i) = (shareE s i)[shareAt s i] := by unfold celL; rw [List.getD_eq_getElem?_getD, List.getElem?_eq_getElem hlt]; rfl
      rw [decide_eq_true e, Bool.true_and, e1, e2]
      rcases Nat.lt_or_gt_of_ne e with h | h
      · rw [touch_comm, hpk k _ hk hlt h]; simp
      · rw [hpk _ k hlt hk h]; simp
  unfold rfaultB
  rw [hto, hc, hg, hd, hd]
  unfold clearB
  simp
/-- What is valid, cell by cell. -/
structure Sem (n : Net) (l : List Flw) (s : Sch) : Prop where
  ck : checkE n = 0
  fl : (flowsE n.nodes l).2 = 0
  per : ∀ f ∈ l, s.len.tmod f.2.2.2.1 = 0
  frm : Frm s
  good : ∀ c ∈ s.cells, goodE n (fromC c) (toC c) = true ∧ 0 ≤ findF l (flowC c)
  once : s.cells.Pairwise fun a b => a.1 = b.1 → touchE a b = false
  clear : ∀ c ∈ s.cells, clearB n s.cells c = true
theorem whole_zero {n : Net} {l : List Flw} {s : Sch} (h1 : checkE n = 0) (h2 : (flowsE n.nodes l).2 = 0) (h3 : sizedE s = true) (h4 : ∀ f ∈ l, s.len.tmod f.2.2.2.1 = 0) (h5 : s.cells.length ≤ 512) : wholeE n l s = 0 := by
  unfold wholeE
  rw [if_neg (fun h => h h1), if_neg (fun h => h h2), h3, if_neg (by decide), if_neg, if_neg (by omega)]
  rw [Bool.not_eq_true, List.any_eq_false]
  intro f hf
  rw [decide_eq_true_eq]
  exact fun h => h (h4 f hf)
theorem cells_zero {n : Net} {l : List Flw} {s : Sch} (hf : Frm s) (hg : ∀ c ∈ s.cells, goodE n (fromC c) (toC c) = true ∧ 0 ≤ findF l (flowC c)) : (cellsF n l s).2 = 0 := by
  refine firstF_ok.2 fun k _ hk => ?_
  have hk : k < s.cells.length := by omega
  have hm := celAt_mem hk
  have hfo := hf.formed _ hm
  unfold formedE at hfo
  simp only [Bool.and_eq_true] at hfo
  obtain ⟨g1, g2⟩ := hg _ hm
  unfold cellF
  rw [hfo.1.1.1, if_neg (by decide), g1, if_neg (by rintro (h | h); cases h; omega), if_neg]
  rintro ⟨h1, h2⟩
  have := all_range_at (List.all_eq_true.2 fun i hi => by
    have h := form_iff.2 hf
    unfold formE at h
    simp only [Bool.and_eq_true] at h
    exact List.all_eq_true.1 h.2 i hi) hk
  unfold celOk at this
  simp only [Bool.and_eq_true, Bool.or_eq_true, decide_eq_true_eq] at this
  rcases this.2 with h3 | h3
  · omega
  · rw [h2] at h3; cases h3
theorem twice_zero {s : Sch} (h : s.cells.Pairwise fun a b => a.1 = b.1 → touchE a b = false) : (twiceF s).2 = 0 := by
  refine firstF_ok.2 fun k _ hk => ?_
  have hk : k < s.cells.length := by omega
  have hb : twiceB s k = false := by
    unfold twiceB
    rw [List.any_eq_false]
    intro i hi
    have hi := List.mem_range.1 hi
    have e1 : celAt s i = s.cells[i]'(by omega) := celAt_get (List.getElem?_eq_getElem _)
    have e2 : celAt s k = s.cells[k] := celAt_get (List.getElem?_eq_getElem hk)
    have := List.pairwise_iff_getElem.1 h i k (by omega) hk hi
    rw [← e1, ← e2] at this
    by_cases he : (celAt s i).1 = (celAt s k).1
    · rw [touch_comm, this he]; simp
    · rw [decide_eq_false he]; simp
  simp only [hb]
  rfl
theorem val_sem {n : Net} {l : List Flw} {s : Sch} : Val n l s ↔ Sem n l s := by
  constructor
  · intro h
    obtain ⟨h1, h2, h3, h4, h5⟩ := whole_ok h.whole
    have hf := h.frm
    have hfine := fine_of h.cells h.twice
    have k1 := firstF_ok.1 h.cells
    have k3 := firstF_ok.1 h.dist
    refine ⟨h1, h2, h4, hf, fun c hc => ⟨hfine.good c hc, ?_⟩, hfine.once, fun c hc => ?_⟩
    · obtain ⟨i, hi⟩ := List.mem_iff_getElem?.1 hc
      have := k1 i (Nat.zero_le _) (by have := (List.getElem?_eq_some_iff.1 hi).1; omega)
      unfold cellF at this
      rw [celAt_get hi] at this
      split at this
      · cases this
      split at this
      · cases this
      rename_i h6
      exact Int.not_lt.1 fun hlt => h6 (.inr hlt)
    · obtain ⟨i, hi⟩ := List.mem_iff_getElem?.1 hc
      have hl := (List.getElem?_eq_some_iff.1 hi).1
      have := k3 i (Nat.zero_le _) (by omega)
      simp only [dist_clear h1 hfine hf.ord hl] at this
      rw [celAt_get hi] at this
      cases hcl : clearB n s.cells c with
      | true => rfl
      | false => rw [hcl] at this; simp at this
  · intro h
    refine ⟨whole_zero h.ck h.fl h.frm.sized h.per h.frm.few, cells_zero h.frm h.good, twice_zero h.once, firstF_ok.2 fun k _ hk => ?_⟩
    have hk : k < s.cells.length := by omega
    simp only [dist_clear h.ck ⟨fun c hc => (h.good c hc).1, h.once⟩ h.frm.ord hk, h.clear _ (celAt_mem hk)]
    rfl
theorem heard_less {n : Net} (h : Ok n) {s d e : Int} (he : e ≤ d) (hd : heardE n s d = true) : heardE n s e = true := by
  unfold heardE at hd ⊢
  have h1 := of_decide_eq_true hd
  have h2 := h.t0
  have h3 : n.thr * (n.noise + e) ≤ n.thr * (n.noise + d) := Int.mul_le_mul_of_nonneg_left (by omega) (by omega)
  exact decide_eq_true (by omega)
/-- With fewer cells a valid schedule stays valid. -/
theorem Sem.sub {n : Net} {l : List Flw} {s t : Sch} (h : Sem n l s) (h1 : t.len = s.len) (h2 : t.off = s.off) (hs : t.cells.Sublist s.cells) : Sem n l t := by
  have hok := check_ok h.ck
  have hlen := hs.length_le
  have hfew := h.frm.few
  refine ⟨h.ck, h.fl, by rw [h1]; exact h.per, ⟨?_, by omega, fun c hc => ?_, h.frm.ord.sublist hs⟩, fun c hc => h.good c (hs.subset hc), h.once.sublist hs, fun c hc => ?_⟩
  · have := h.frm.sized
    unfold sizedE at this ⊢
    rw [h1, h2]; exact this
  · have := h.frm.formed c (hs.subset hc)
    unfold formedE placedE at this ⊢
    rw [h1, h2]; exact this
  · have := h.clear c (hs.subset hc)
    unfold clearB at this ⊢
    simp only [Bool.and_eq_true] at this ⊢
    have hd : ∀ node, distS n t.cells c node ≤ distS n s.cells c node := fun node => sumC_sub hok node (hs.filter _)
    exact ⟨heard_less hok (hd _) this.1, heard_less hok (hd _) this.2⟩
end Go.Proofs.YtmalhidldgfeoaaGreatDoor

/- Schedules, plain: a schedule several times is valid exactly if it is, and has the same cells in each slot. -/
namespace Go.Proofs.YtmalhidldgfeoaaGreatDoor
open Go.RowKit Go.Eng Go.Nw

def GoodS (n : Net) (l : List Flw) (s : Sch) : Prop := ∀ c ∈ s.cells, goodE n (fromC c) (toC c) = true ∧ 0 ≤ findF l (flowC c)
def OnceS (s : Sch) : Prop := s.cells.Pairwise fun a b => a.1 = b.1 → touchE a b = false
def ClearS (n : Net) (s : Sch) : Prop := ∀ c ∈ s.cells, clearB n s.cells c = true
theorem rep_succ (s : Sch) (k : Nat) : repC s (k + 1) = repC s k ++ s.cells.map (movC ((k : Int) * s.len)) := by
  unfold repC
  rw [List.range_succ, List.flatMap_append]
  simp
theorem rep_mem {s : Sch} {k : Nat} {x : Cel} : x ∈ repC s k ↔ ∃ i, i < k ∧ ∃ c ∈ s.cells, x = movC ((i : Int) * s.len) c := by
  unfold repC
  simp only [List.mem_flatMap, List.mem_range, List.mem_map]
  constructor
  · rintro ⟨i, hi, c, hc, rfl⟩; exact ⟨i, hi, c, hc, rfl⟩
  · rintro ⟨i, hi, c, hc, rfl⟩; exact ⟨i, hi, c, hc, rfl⟩
theorem mul_step {i j : Nat} {L : Int} (hL : 0 ≤ L) (h : i < j) : (i : Int) * L + L ≤ (j : Int) * L := by
  have h1 : ((i : Int) + 1) * L ≤ (j : Int) * L := Int.mul_le_mul_of_nonneg_right (by omega) hL
  rw [Int.add_mul] at h1
  omega
theorem slot_bd {s : Sch} (hf : Frm s) {c : Cel} (hc : c ∈ s.cells) : 0 ≤ c.1 ∧ c.1 < s.len := by
  have := hf.formed c hc
  unfold formedE placedE insE at this
  simp only [Bool.and_eq_true, decide_eq_true_eq] at this
  exact this.1.1.1.1
/-- Slots of different copies differ. -/
theorem slot_copy {s : Sch} (hf : Frm s) {c d : Cel} (hc : c ∈ s.cells) (hd : d ∈ s.cells) {i j : Nat} (h : c.1 + (i : Int) * s.len = d.1 + (j : Int) * s.len) : i = j ∧ c.1 = d.1 := by
  have h1 := slot_bd hf hc
  have h2 := slot_bd hf hd
  rcases Nat.lt_trichotomy i j with h3 | h3 | h3
  · have := mul_step (L := s.len) (by omega) h3; omega
  · subst h3; exact ⟨rfl, by omega⟩
  · have := mul_step (L := s.len) (by omega) h3; omega
structure Rep (s t : Sch) (k : Nat) : Prop where
  k1 : 1 ≤ k
  frm : Frm s
  len : t.len = s.len * k
  off : t.off = s.off
  cells : t.cells = repC s k
  l512 : s.len * k ≤ 512
  c512 : s.cells.length * k ≤ 512
/-- Of the copies just one fits. -/
theorem rep_filter {s : Sch} {p q : Cel → Bool} {j0 : Nat} (hq : ∀ d ∈ s.cells, p (movC ((j0 : Int) * s.len) d) = q d) : ∀ {m : Nat}, (∀ j, j < m → j ≠ j0 → ∀ d ∈ s.cells, p (movC ((j : Int) * s.len) d) = false) → (repC s m).filter p = if j0 < m then (s.cells.filter q).map (movC ((j0 : Int) * s.len)) else []
  | 0, _ => by simp [repC]
  | m + 1, h => by
    rw [rep_succ, List.filter_append, rep_filter hq fun j hj => h j (by omega), List.filter_map]
    by_cases e : m = j0
    · subst e
      rw [if_neg (by omega), if_pos (by omega), List.nil_append]
      congr 1
      exact List.filter_congr fun d hd => hq d hd
    · have hz : s.cells.filter (p ∘ movC ((m : Int) * s.len)) = [] := by
        rw [List.filter_eq_nil_iff]
        intro d hd
        show ¬ p (movC ((m : Int) * s.len) d) = true
        rw [h m (by omega) e d hd]; simp
      rw [hz, List.map_nil, List.append_nil]
      by_cases h2 : j0 < m
      · rw [if_pos h2, if_pos (by omega)]
      · rw [if_neg h2, if_neg (by omega)]
theorem sum_mov (n : Net) (node d : Int) (l : List Cel) : sumC n node (l.map (movC d)) = sumC n node l := by
  unfold sumC
  rw [List.map_map]
  rfl
theorem Rep.dist {s t : Sch} {k : Nat} (h : Rep s t k) (n : Net) {i : Nat} (hi : i < k) {c : Cel} (hc : c ∈ s.cells) (node : Int) : distS n t.cells (movC ((i : Int) * s.len) c) node = distS n s.cells c node := by
  unfold distS
  rw [h.cells, rep_filter (j0 := i) (q := fun d => placeB c d && decide (d ≠ c)), if_pos hi, sum_mov]
  · intro d hd
    have h2 : (movC ((i : Int) * s.len) d ≠ movC ((i : Int) * s.len) c) ↔ d ≠ c := by
      constructor
      · intro h3 e; subst e; exact h3 rfl
      · intro h3 e
        apply h3
        obtain ⟨d1, d2⟩ := d
        obtain ⟨c1, c2⟩ := c
        unfold movC at e
        injection e with e1 e2
        simp only at e1 e2
        subst e2
        have : d1 = c1 := by omega
        rw [this]
    show (placeB _ _ && decide _) = (placeB _ _ && decide _)
    rw [decide_eq_decide.2 h2]
    congr 1
    unfold placeB movC
    rw [decide_eq_decide]
    simp only
    omega
  · intro j hj hne d hd
    have : placeB (movC ((i : Int) * s.len) c) (movC ((j : Int) * s.len) d) = false := by
      unfold placeB movC
      refine decide_eq_false ?_
      rintro ⟨h3, _⟩
      exact hne (slot_copy h.frm hd hc h3).1
    rw [this]; rfl
theorem Rep.good {s t : Sch} {k : Nat} (h : Rep s t k) (n : Net) (l : List Flw) : GoodS n l t ↔ GoodS n l s := by
  unfold GoodS
  rw [h.cells]
  constructor
  · intro hg c hc
    exact hg (movC (((0 : Nat) : Int) * s.len) c) (rep_mem.2 ⟨0, h.k1, c, hc, rfl⟩)
  · intro hg x hx
    obtain ⟨i, _, c, hc, rfl⟩ := rep_mem.1 hx
    exact hg c hc
theorem Rep.once {s t : Sch} {k : Nat} (h : Rep s t k) : OnceS t ↔ OnceS s := by
  unfold OnceS
  rw [h.cells]
  unfold repC
  rw [List.pairwise_flatMap]
  constructor
  · rintro ⟨h1, _⟩
    have := h1 0 (List.mem_range.2 h.k1)
    rw [List.pairwise_map] at this
    exact this.imp fun {a b} hab e => hab (by simp only [movC]; omega)
  · intro ho
    refine ⟨fun i _ => ?_, ?_⟩
    · rw [List.pairwise_map]
      exact ho.imp fun {a b} hab e => hab (by simp only [movC] at e; omega)
    · refine List.pairwise_lt_range.imp fun {i j} hij x hx y hy e => ?_
      obtain ⟨a, ha, rfl⟩ := List.mem_map.1 hx
      obtain ⟨b, hb, rfl⟩ := List.mem_map.1 hy
      have := (slot_copy h.frm ha hb e).1
      omega
theorem Rep.clear {s t : Sch} {k : Nat} (h : Rep s t k) (n : Net) : ClearS n t ↔ ClearS n s := by
  have hc : ∀ i, i < k → ∀ c ∈ s.cells, clearB n t.cells (movC ((i : Int) * s.len) c) = clearB n s.cells c := fun i hi c hc => by
    unfold clearB
    have e1 : fromC (movC ((i : Int) * s.len) c) = fromC c := rfl
    have e2 : toC (movC ((i : Int) * s.len) c) = toC c := rfl
    rw [e1, e2, h.dist n hi hc, h.dist n hi hc]
  unfold ClearS
  constructor
  · intro hg c hcm
    rw [← hc 0 h.k1 c hcm]
    exact hg _ (by rw [h.cells]; exact rep_mem.2 ⟨0, h.k1, c, hcm, rfl⟩)
  · intro hg x hx
    rw [h.cells] at hx
    obtain ⟨i, hi, c, hcm, rfl⟩ := rep_mem.1 hx
    rw [hc i hi c hcm]
    exact hg c hcm
end Go.Proofs.YtmalhidldgfeoaaGreatDoor

/- Schedules, plain: the cells of each slot and offset of a valid schedule are good. -/
namespace Go.Proofs.YtmalhidldgfeoaaGreatDoor
open Go.RowKit Go.Eng Go.Nw

/-- What the program says of a cell among cells. -/
def pfaultB (n : Net) (l : List Cel) (i : Nat) : Bool :=
  !(UsableE n (indexE n (fromC (celL l i)) (toC (celL l i)))) || ((List.range l.length).any fun k => decide (k ≠ i) && touchE (celL l i) (celL l k))
    || (!(hearsE n (mar n (findE n (fromC (celL l i)) (toC (celL l i))).toNat) (distTo n l i (toC (celL l i)) l.length)) || !(hearsE n (mar n (findE n (toC (celL l i)) (fromC (celL l i))).toNat) (distTo n l i (fromC (celL l i)) l.length)))
def goodL (n : Net) (l : List Cel) : Bool := decide (checkE n = 0) && (List.range l.length).all fun i => !(pfaultB n l i)
def atP (slot off : Int) (c : Cel) : Bool := decide (c.1 = slot ∧ c.2.1 = off)
def placeL (s : Sch) (slot off : Int) : List Cel := s.cells.filter (atP slot off)
theorem filter_at {α : Type} {p : α → Bool} : ∀ {l : List α} {j : Nat} {c : α}, (l.filter p)[j]? = some c → ∃ i, l[i]? = some c ∧ ((l.take i).filter p).length = j
  | [], j, c, h => by simp at h
  | a :: l, j, c, h => by
    rw [List.filter_cons] at h
    split at h
    · rename_i ha
      cases j with
      | zero => exact ⟨0, h, rfl⟩
      | succ j =>
        obtain ⟨i, h1, h2⟩ := filter_at (l := l) (j := j) (by simpa using h)
        exact ⟨i + 1, by simpa using h1, by rw [List.take_succ_cons, List.filter_cons, if_pos ha, List.length_cons, h2]⟩
    · rename_i ha
      obtain ⟨i, h1, h2⟩ := filter_at (l := l) (j := j) h
      exact ⟨i + 1, by simpa using h1, by rw [List.take_succ_cons, List.filter_cons, if_neg ha, h2]⟩
theorem place_share {s : Sch} {i : Nat} {slot off : Int} (h : (celAt s i).1 = slot) (h2 : (celAt s i).2.1 = off) : placeB (celAt s i) = atP slot off := by
  subst h h2; rfl
theorem good_place {n : Net} {l : List Flw} {s : Sch} (h : Sem n l s) (slot off : Int) : goodL n (placeL s slot off) = true := by
  have hok := check_ok h.ck
  have hf : Fine n s := ⟨fun c hc => (h.good c hc).1, h.once⟩
  unfold goodL
  rw [decide_eq_true h.ck, Bool.true_and]
  refine List.all_eq_true.2 fun j hj => ?_
  have hj := List.mem_range.1 hj
  obtain ⟨c, hc⟩ : ∃ c, (placeL s slot off)[j]? = some c := ⟨_, List.getElem?_eq_getElem hj⟩
  obtain ⟨i, hi, hij⟩ := filter_at hc
  have hil := (List.getElem?_eq_some_iff.1 hi).1
  have hca := celAt_get hi
  have hcm := (List.mem_filter.1 (List.mem_of_getElem? hc)).2
  unfold atP at hcm
  simp only [decide_eq_true_eq] at hcm
  have hpb : placeB (celAt s i) = atP slot off := place_share (by rw [hca]; exact hcm.1) (by rw [hca]; exact hcm.2)
  have hsh : shareE s i = placeL s slot off := by unfold shareE placeL; rw [hpb]
  have hat : shareAt s i = j := by unfold shareAt; rw [hpb]; exact hij
  have hdz : disturbB n s i = false := by
    rw [dist_clear h.ck hf h.frm.ord hil, hca, h.clear c (List.mem_of_getElem? hi)]; rfl
  rw [dist_ref h.ck hf hil, hsh, hat] at hdz
  have hcl : celL (placeL s slot off) j = c := by unfold celL; rw [List.getD_eq_getElem?_getD, hc]; rfl
  have hg := hf.good c (List.mem_of_getElem? hi)
  have hgn := good_nodes hok hg
  have hle := share_len hok hf i
  rw [hsh] at hle
  have hhe : ∀ (a b node : Int), 0 ≤ findE n a b → hearsE n (mar n (findE n a b).toNat) (distTo n (placeL s slot off) j node (placeL s slot off).length) = heardE n (mar n (findE n a b).toNat) (distTo n (placeL s slot off) j node (placeL s slot off).length) := fun a b node h0 => by
    have h1 := mar_bd hok (find_lt h0)
    have h2 := dist_bd hok (placeL s slot off) j node (placeL s slot off).length
    unfold hearsE
    rw [decide_eq_true h.ck, decide_eq_true (by omega)]
    rfl
  unfold rfaultB at hdz
  unfold pfaultB
  rw [hcl] at hdz ⊢
  rw [use_good h.ck, hhe _ _ _ hgn.2.2.2.1, hhe _ _ _ hgn.2.2.2.2, hdz]
  rfl

/-- The cells of a slot, those of one offset among them. -/
theorem place_at {s : Sch} (slot off : Int) : ((s.cells.filter fun c => decide (c.1 = slot)).filter fun c => decide (c.2.1 = off)) = placeL s slot off := by
  rw [List.filter_filter]
  refine List.filter_congr fun x _ => ?_
  unfold atP
  rw [Bool.decide_and]
  exact Bool.and_comm _ _
/-- Without one of its cells a valid schedule is valid. -/
theorem part_sem {n : Net} {l : List Flw} {s : Sch} (h : Sem n l s) {c : Cel} (hc : c ∈ s.cells) : ∃ t, remE s c = (t, 0) ∧ t.cells.length + 1 = s.cells.length ∧ schE n l t = (-1, 0) := by
  have hf := form_iff.2 h.frm
  refine ⟨⟨s.len, s.off, delC s.cells c⟩, ?_, del_len h.frm.ord hc, ?_⟩
  · unfold remE
    rw [hf, if_neg (by decide), if_pos hc]
  · have hsem := h.sub (t := ⟨s.len, s.off, delC s.cells c⟩) rfl rfl (by
      rw [del_filter h.frm.ord hc]; exact List.filter_sublist)
    have h2 := val_iff.2 (val_sem.2 hsem)
    have h1 := (sch_bd (n := n) (l := l) (s := ⟨s.len, s.off, delC s.cells c⟩)).2.2.2 h2
    exact Prod.ext h1 h2
end Go.Proofs.YtmalhidldgfeoaaGreatDoor

/- An engine for walks, part 29: yield called in the round of another range over a function. -/
namespace Go.Eng
open Go.RowKit
section
variable {P : Program} {B : Nat} {w0 : World} {Q : Exit → Act → World → Prop} {env : Env} {H : List HP} {k : Nat}
end
theorem St.inM {B : Nat} {w0 w : World} {H K : List HP} (hw : St B w0 K w) (hm : Eng.many H ∈ K) : St B w0 H w := by
  obtain ⟨S, h1, h2⟩ := hw.at_ hm
  exact ⟨hw.below, hw.le, sepL_mono h2 h1⟩
theorem Rd.inM {B : Nat} {w0 : World} {H K : List HP} {A : Option Addr} {xs : List Value} (h : Rd B w0 H A xs) (hm : Eng.many H ∈ K) : Rd B w0 K A xs := h.mono fun _ hw => hw.inM hm
theorem Rd.many {B : Nat} {w0 : World} {H L : List HP} {A : Option Addr} {xs : List Value} {e size k cap : Nat} (hX : many L ∈ H) (hm : Eng.sl e size A k cap xs ∈ L) : Rd B w0 H A xs := fun w hw j v hv => by
  obtain ⟨S, _, h2⟩ := hw.at_ hX
  obtain ⟨S', _, h3, _⟩ := sepL_at hm h2
  obtain ⟨g, e1, hc, _⟩ := sl_cell h3 hv
  exact ⟨g, 0, e1, by rw [Nat.zero_add]; exact hc⟩
end Go.Eng

/- Walks: the program's conflict.Good. -/
namespace Go.Proofs.YtmalhidldgfeoaaGreatDoor
open Go.RowKit Go.Eng Go.Nw

theorem NetM.In.inM {B : Nat} {w0 : World} {H K : List HP} {n : NetM} (h : n.In B w0 H) (hm : Eng.many H ∈ K) : n.In B w0 K :=
  ⟨h.pw.inM hm, fun r hr => (h.rw_ r hr).inM hm, h.lk.inM hm, h.mg.inM hm, h.s1, h.s2, h.s3, h.s4⟩
theorem touches_spec (a b : Cel) {B : Nat} {w0 : World} {H : List HP} {w : World} (hw : St B w0 H w) :
    Calls Tryz.prog 176 [celV a, celV b].toArray w (Post B w0 fun v K => v = .bool (touchE a b) ∧ K = H) := by
  refine Calls_of_VC Tryz.func176 Tryz.ntmps176 rfl rfl hw ?_
  have htc : touchE a b = true ↔ (a.2.2.1 = b.2.2.1 ∨ a.2.2.1 = b.2.2.2.1 ∨ a.2.2.2.1 = b.2.2.1 ∨ a.2.2.2.1 = b.2.2.2.1) := by unfold touchE fromC toC; rw [decide_eq_true_eq]
  obtain ⟨z, hz⟩ : ∃ z, touchE a b = z := ⟨_, rfl⟩
  rw [hz] at htc ⊢
  repeat' (first | apply (zs1 ?_) | apply (zs2 ?_) | (apply zg1; first | refine zs3 ?_ | refine zs4 ?_) | (apply zg2; refine zs6 ?_) | (apply zg3; refine zs7 ?_) | (apply zg6; first | refine zs11 ?_ | refine zs12 ?_) | (apply zg7; (refine zs15 ?_ ?_ <;> intro _ <;> try (exfalso; omega))) | (apply zg23; (refine zs52 ?_; intro _)) | apply (zs65 ?_) | apply (zs68 ?_) | apply (zs69 ?_) | apply (zs70 ?_) | apply (zs74 ?_) | fail)
  all_goals (
    apply VQ_st H
    · (intro w hw; refine hw.perm ?_; focus repeat (first | with_reducible exact Perm.refl _ | (with_reducible apply perm_take; focus ((repeat (first | with_reducible exact rem_here | with_reducible apply rem_there)); done)) | with_reducible apply Perm.dropK))
    apply VQ_ret1; exact rfl; exact rfl
    cases z <;> simp at htc <;> first | exact ⟨rfl, rfl⟩ | (exfalso; omega))
def faultGB (_ : Net) (l : List Cel) (i : Nat) (c : Cel) (k : Nat) : Bool := (List.range k).any fun j => decide (j ≠ i) && touchE c (celL l j)
theorem heard1_spec (n : NetM) (l : List Cel) (i : Nat) (gn gl gi : Nat) (A : Option Addr) (cap : Nat) (lk node : Int) (hok : Ok n.net) (hnode : 0 ≤ node ∧ node < n.nodes) (hlk : 0 ≤ lk ∧ lk.toNat < n.net.links.length) (hlen : l.length ≤ 1000) {B : Nat} {w0 : World} {H : List HP} {w : World} (hin : n.In B w0 H) (hr : Rd B w0 H A (l.flatMap celF))
    (h1 : netN gn n ∈ H) (h2 : blk gl (.cells #[.slice A l.length cap] 28 (0, 0)) ∈ H) (h3 : blk gi (.cells #[.int .i64 i] 3 (0, 0)) ∈ H) (hw : St B w0 H w) :
    Calls Tryz.prog 177 [.int .i64 lk, .int .i64 node, .pointer (some ⟨gn, 0, none⟩), .pointer (some ⟨gl, 0, none⟩), .pointer (some ⟨gi, 0, none⟩)].toArray w (Post B w0 fun v K => v = .bool (hearsE n.net (mar n.net lk.toNat) (distTo n.net l i node l.length)) ∧ K = H) := by
  refine Calls_of_VC Tryz.func177 Tryz.ntmps177 rfl rfl hw ?_
  have hmg := hin.mg
  have hs4 := hin.s4
  have hml : n.margin.length = n.net.links.length := hok.k1
  have hm1 : n.margin[lk.toNat]? = some (mar n.net lk.toNat) := by
    unfold mar
    rw [List.getD_eq_getElem?_getD, show n.net.margin = n.margin from rfl, List.getElem?_eq_getElem (by omega)]; rfl
  have p1 := fun {w : World} (hw : St B w0 H w) => disturb_in n l i node hok hnode hlen (cap := cap) hin hr hw
  obtain ⟨d, hd⟩ : ∃ d, distTo n.net l i node l.length = d := ⟨_, rfl⟩
  rw [hd] at p1 ⊢
  have p2 := fun {w : World} (hw : St B w0 H w) => Hears_spec n (mar n.net lk.toNat) d hin hw
  unfold netN at h1
  repeat' (first | apply (zs2 ?_) | apply (zs65 ?_) | apply (zs68 ?_) | apply (zs69 ?_) | apply (zs70 ?_) | fail)
  apply VC_heldA [0, 1, 2, 3, 4, 5, 6, 7, 8, 9, 10, 11, 12] []
  kernel_rfl
  kernel_rfl
  (simp only [pickOps, nthO]; rfl)
  exact rfl
  repeat' (first | apply (zs1 ?_) | (apply zg2; refine zs6 ?_) | (apply zg3; first | refine zs7 ?_ | refine zs8 ?_ | refine zs60 ?_) | (apply zg5; refine zs57 ?_) | apply (zs87 ?_) | fail)
  first | apply VL_callt en175 | apply VL_callq en175
  (repeat (first | exact args_nil | (apply args_cons; exact rfl)))
  exact rfl
  exact fun _ hw => (p1 hw)
  repeat' (first | apply (zs65 ?_) | apply (zs87 ?_) | (apply VQ_heldq; (repeat (first | with_reducible exact pull_nil | (with_reducible apply pull_cons; (repeat (first | with_reducible exact rem_here | with_reducible apply rem_there)))))) | fail)
  · show Perm H (H ++ [])
    rw [List.append_nil]; exact Perm.refl _
  repeat' (first | fail)
  first | apply VL_callt en115 | apply VL_callq en115
  (repeat (first | exact args_nil | (apply args_cons; exact rfl)))
  exact rfl
  exact fun _ hw => (p2 hw)
  repeat' (first | apply (zs2 ?_) | apply (zs65 ?_) | (apply VL_nilh; (repeat (first | with_reducible exact app_nil | with_reducible apply app_cons | exact app_niln _))) | apply (zs68 ?_) | apply (zs74 ?_) | (apply VQ_heldq; (repeat (first | with_reducible exact pull_nil | (with_reducible apply pull_cons; (repeat (first | with_reducible exact rem_here | with_reducible apply rem_there)))))) | apply (zs93 ?_) | apply (zs94 ?_) | fail)
  · show Perm H (H ++ [])
    rw [List.append_nil]; exact Perm.refl _
  repeat' (first | fail)
  apply VQ_ret1; exact rfl; exact rfl; exact ⟨rfl, rfl⟩
set_option maxRecDepth 10000 in
set_option maxHeartbeats 4000000 in
theorem faulty_spec (n : NetM) (l : List Cel) (i : Nat) (hck : checkE n.net = 0) (hi : i < l.length) (hlen : l.length ≤ 1000) {A : Option Addr} {cap B : Nat} {w0 : World} {H : List HP} {w : World} (hin : n.In B w0 H) (hr : Rd B w0 H A (l.flatMap celF)) (hw : St B w0 H w) :
    Calls Tryz.prog 119 [n.val, .slice A l.length cap, .int .i64 i].toArray w (Post B w0 fun v K => v = .bool (pfaultB n.net l i) ∧ K = H) := by
  refine Calls_of_VC Tryz.func119 Tryz.ntmps119 rfl rfl hw ?_
  have hok := check_ok hck
  have hget : l[i]? = some (celL l i) := by unfold celL; rw [List.getD_eq_getElem?_getD, List.getElem?_eq_getElem hi]; rfl
  obtain ⟨c, hc⟩ : ∃ c, celL l i = c := ⟨_, rfl⟩
  rw [hc] at hget
  have p1 := fun {H' : List HP} {w : World} (hin : n.In B w0 H') (hw : St B w0 H' w) => index_spec n c.2.2.1 c.2.2.2.1 hin hw
  have p2 := fun {H' : List HP} {w : World} (hin : n.In B w0 H') (hw : St B w0 H' w) => index_spec n c.2.2.2.1 c.2.2.1 hin hw
  have hix : ∀ u v : Int, indexE n.net u v = findE n.net u v := fun u v => by unfold indexE; rw [if_neg (by omega)]
  have hus := use_good hck c.2.2.1 c.2.2.2.1
  have p3 := fun {H' : List HP} {w : World} (hin : n.In B w0 H') (hw : St B w0 H' w) => Usable_spec n (indexE n.net c.2.2.1 c.2.2.2.1) hin hw
  rw [hus] at p3
  have hP : pfaultB n.net l i = (!(goodE n.net c.2.2.1 c.2.2.2.1) || faultGB n.net l i c l.length || (!(hearsE n.net (mar n.net (findE n.net c.2.2.1 c.2.2.2.1).toNat) (distTo n.net l i c.2.2.2.1 l.length)) || !(hearsE n.net (mar n.net (findE n.net c.2.2.2.1 c.2.2.1).toNat) (distTo n.net l i c.2.2.1 l.length)))) := by
    unfold pfaultB faultGB
    rw [hc, show UsableE n.net (indexE n.net (fromC c) (toC c)) = goodE n.net c.2.2.1 c.2.2.2.1 from hus]
    rfl
  rw [hP]
  by_cases hg : goodE n.net c.2.2.1 c.2.2.2.1 = true
  rotate_left
  · have hg : goodE n.net c.2.2.1 c.2.2.2.1 = false := by simpa using hg
    rw [hg] at p3 ⊢
    repeat' (first | apply (zs2 ?_) | (apply zg3; first | refine zs7 ?_ | refine zs61 ?_) | (apply zg5; refine zs57 ?_) | (apply zg22; refine zs51 ?_) | (apply zg23; first | (refine zs52 ?_; intro _) | (refine zs53 ?_; intro _)) | (apply zg24; (refine zs54 ?_; intro _)) | apply (zs65 ?_) | apply (zs68 ?_) | apply (zs69 ?_) | apply (zs70 ?_) | fail)
    rename_i gn gl gi gc
    apply VC_held [0, 1, 2, 3, 4, 6, 7, 8, 9, 10, 5, 11, 12, 13] [] [true, false, false, true]
    kernel_rfl
    kernel_rfl
    (repeat (first | with_reducible exact split_nil | with_reducible apply split_t | with_reducible apply split_f))
    (simp only [pickOps, nthO]; rfl)
    exact rfl
    repeat' (first | (apply zg2; refine zs6 ?_) | (apply zg3; first | refine zs7 ?_ | refine zs8 ?_) | apply (zs87 ?_) | fail)
    first | apply VL_callt en95 | apply VL_callq en95
    (repeat (first | exact args_nil | (apply args_cons; exact rfl)))
    exact rfl
    exact fun _ hw => (p1 (by repeat (first | exact hin | apply NetM.In.cons)) hw)
    repeat' (first | apply (zs65 ?_) | apply (zs87 ?_) | (apply VQ_heldq; (repeat (first | with_reducible exact pull_nil | (with_reducible apply pull_cons; (repeat (first | with_reducible exact rem_here | with_reducible apply rem_there)))))) | fail)
    first | apply VL_callt en95 | apply VL_callq en95
    (repeat (first | exact args_nil | (apply args_cons; exact rfl)))
    exact rfl
    exact fun _ hw => (p2 (by repeat (first | exact hin | apply NetM.In.cons)) hw)
    repeat' (first | apply (zs1 ?_) | apply (zs2 ?_) | (apply zg3; refine zs8 ?_) | apply (zs65 ?_) | (apply VL_nilh; (repeat (first | with_reducible exact app_nil | with_reducible apply app_cons | exact app_niln _))) | apply (zs68 ?_) | apply (zs69 ?_) | apply (zs70 ?_) | (apply VQ_heldq; (repeat (first | with_reducible exact pull_nil | (with_reducible apply pull_cons; (repeat (first | with_reducible exact rem_here | with_reducible apply rem_there)))))) | apply (zs93 ?_) | apply (zs94 ?_) | fail)
    first | apply VL_callt en113 | apply VL_callq en113
    (repeat (first | exact args_nil | (apply args_cons; exact rfl)))
    exact rfl
    exact fun _ hw => (p3 (by repeat (first | exact hin | apply NetM.In.cons)) hw)
    repeat' (first | apply (zs2 ?_) | (apply zg20; refine zs48 ?_) | apply (zs65 ?_) | apply (zs68 ?_) | apply (zs69 ?_) | apply (zs70 ?_) | (apply zg27; refine zs71 ?_) | apply (zs74 ?_) | apply (zs77 ?_) | fail)
    apply VQ_st H
    · (intro w hw; refine hw.perm ?_; focus repeat (first | with_reducible exact Perm.refl _ | (with_reducible apply perm_take; focus ((repeat (first | with_reducible exact rem_here | with_reducible apply rem_there)); done)) | with_reducible apply Perm.dropK))
    apply VQ_ret1; exact rfl; exact rfl; exact ⟨rfl, rfl⟩
  rw [hg] at p3 ⊢
  obtain ⟨⟨f0, f1⟩, ⟨t0, t1⟩, _, k1, k2⟩ : (0 ≤ c.2.2.1 ∧ c.2.2.1 < n.net.nodes) ∧ (0 ≤ c.2.2.2.1 ∧ c.2.2.2.1 < n.net.nodes) ∧ c.2.2.1 ≠ c.2.2.2.1 ∧ 0 ≤ findE n.net c.2.2.1 c.2.2.2.1 ∧ 0 ≤ findE n.net c.2.2.2.1 c.2.2.1 := good_nodes hok hg
  have x1 := find_lt k1
  have x2 := find_lt k2
  rw [hix] at p1 p2 p3
  obtain ⟨i1, hi1⟩ : ∃ z, findE n.net c.2.2.1 c.2.2.2.1 = z := ⟨_, rfl⟩
  obtain ⟨i2, hi2⟩ : ∃ z, findE n.net c.2.2.2.1 c.2.2.1 = z := ⟨_, rfl⟩
  rw [hi1] at p1 p3 k1 x1 ⊢
  rw [hi2] at p2 k2 x2 ⊢
  have q1 := fun {H' : List HP} {w : World} (gn gl gi : Nat) (hin : n.In B w0 H') (hr : Rd B w0 H' A (l.flatMap celF)) (h1 : netN gn n ∈ H') (h2 : blk gl (.cells #[.slice A l.length cap] 28 (0, 0)) ∈ H') (h3 : blk gi (.cells #[.int .i64 i] 3 (0, 0)) ∈ H') (hw : St B w0 H' w) => heard1_spec n l i gn gl gi A cap i1 c.2.2.2.1 hok ⟨t0, t1⟩ ⟨k1, x1⟩ hlen hin hr h1 h2 h3 hw
  have q2 := fun {H' : List HP} {w : World} (gn gl gi : Nat) (hin : n.In B w0 H') (hr : Rd B w0 H' A (l.flatMap celF)) (h1 : netN gn n ∈ H') (h2 : blk gl (.cells #[.slice A l.length cap] 28 (0, 0)) ∈ H') (h3 : blk gi (.cells #[.int .i64 i] 3 (0, 0)) ∈ H') (hw : St B w0 H' w) => heard1_spec n l i gn gl gi A cap i2 c.2.2.1 hok ⟨f0, f1⟩ ⟨k2, x2⟩ hlen hin hr h1 h2 h3 hw
  obtain ⟨b1, hb1⟩ : ∃ b, hearsE n.net (mar n.net i1.toNat) (distTo n.net l i c.2.2.2.1 l.length) = b := ⟨_, rfl⟩
  obtain ⟨b2, hb2⟩ : ∃ b, hearsE n.net (mar n.net i2.toNat) (distTo n.net l i c.2.2.1 l.length) = b := ⟨_, rfl⟩
  rw [hb1] at q1 ⊢
  rw [hb2] at q2 ⊢
  repeat' (first | apply (zs2 ?_) | (apply zg3; first | refine zs7 ?_ | refine zs61 ?_) | (apply zg5; refine zs57 ?_) | (apply zg22; refine zs51 ?_) | (apply zg23; first | (refine zs52 ?_; intro _) | (refine zs53 ?_; intro _)) | (apply zg24; (refine zs54 ?_; intro _)) | apply (zs65 ?_) | apply (zs68 ?_) | apply (zs69 ?_) | apply (zs70 ?_) | fail)
  rename_i gn gl gi gc
  apply VC_held [0, 1, 2, 3, 4, 6, 7, 8, 9, 10, 5, 11, 12, 13] [] [true, false, false, true]
  kernel_rfl
  kernel_rfl
  (repeat (first | with_reducible exact split_nil | with_reducible apply split_t | with_reducible apply split_f))
  (simp only [pickOps, nthO]; rfl)
  exact rfl
  repeat' (first | (apply zg2; refine zs6 ?_) | (apply zg3; first | refine zs7 ?_ | refine zs8 ?_) | apply (zs87 ?_) | fail)
  first | apply VL_callt en95 | apply VL_callq en95
  (repeat (first | exact args_nil | (apply args_cons; exact rfl)))
  exact rfl
  exact fun _ hw => (p1 (by repeat (first | exact hin | apply NetM.In.cons)) hw)
  repeat' (first | apply (zs65 ?_) | apply (zs87 ?_) | (apply VQ_heldq; (repeat (first | with_reducible exact pull_nil | (with_reducible apply pull_cons; (repeat (first | with_reducible exact rem_here | with_reducible apply rem_there)))))) | fail)
  first | apply VL_callt en95 | apply VL_callq en95
  (repeat (first | exact args_nil | (apply args_cons; exact rfl)))
  exact rfl
  exact fun _ hw => (p2 (by repeat (first | exact hin | apply NetM.In.cons)) hw)
  repeat' (first | apply (zs1 ?_) | apply (zs2 ?_) | (apply zg3; refine zs8 ?_) | apply (zs65 ?_) | (apply VL_nilh; (repeat (first | with_reducible exact app_nil | with_reducible apply app_cons | exact app_niln _))) | apply (zs68 ?_) | apply (zs69 ?_) | apply (zs70 ?_) | (apply VQ_heldq; (repeat (first | with_reducible exact pull_nil | (with_reducible apply pull_cons; (repeat (first | with_reducible exact rem_here | with_reducible apply rem_there)))))) | apply (zs93 ?_) | apply (zs94 ?_) | fail)
  first | apply VL_callt en113 | apply VL_callq en113
  (repeat (first | exact args_nil | (apply args_cons; exact rfl)))
  exact rfl
  exact fun _ hw => (p3 (by repeat (first | exact hin | apply NetM.In.cons)) hw)
  repeat' (first | apply (zs1 ?_) | (apply zg3; refine zs7 ?_) | (apply zg4; refine zs9 ?_) | (apply zg20; refine zs47 ?_) | apply (zs65 ?_) | apply (zs68 ?_) | apply (zs69 ?_) | apply (zs70 ?_) | (apply zg27; refine zs72 ?_) | apply (zs73 ?_) | apply (zs76 ?_) | fail)
  refine VC_loop1 (fun (k : Nat) => [(35, .int .i64 k), (34, .int .i64 l.length), (33, .slice A l.length cap), (3, .pointer (some ⟨gn, 0, none⟩)), (4, .pointer (some ⟨gl, 0, none⟩)), (5, .pointer (some ⟨gi, 0, none⟩)), (7, .pointer (some ⟨gc, 0, none⟩)), (8, .int .i64 i1), (9, .int .i64 i2)])
    (fun _ => blk gc (.cells #[.int .i64 c.1, .int .i64 c.2.1, .int .i64 c.2.2.1, .int .i64 c.2.2.2.1, .int .i64 c.2.2.2.2] 40 (0, 0)) :: blk gi (.cells #[.int .i64 i] 3 (0, 0)) :: blk gl (.cells #[.slice A l.length cap] 28 (0, 0)) :: netN gn n :: H) (fun k => k ≤ l.length ∧ faultGB n.net l i c k = false) (fun k => l.length - k) 0 ⟨Nat.zero_le _, rfl⟩ ?_ ?_ ?_
  · (repeat (first | exact sub_nil _ | (apply sub_cons; first | exact rfl | exact congrArg (fun z : Int => some (Value.int .i64 z)) (by omega))))
  · unfold netN
    (intro w hw; refine hw.perm ?_; focus repeat (first | with_reducible exact Perm.refl _ | (with_reducible apply perm_take; focus ((repeat (first | with_reducible exact rem_here | with_reducible apply rem_there)); done)) | with_reducible apply Perm.dropK))
  rintro k ⟨hk, hno⟩ K hK
  have hrc : Rd B w0 (blk gc (.cells #[.int .i64 c.1, .int .i64 c.2.1, .int .i64 c.2.2.1, .int .i64 c.2.2.2.1, .int .i64 c.2.2.2.2] 40 (0, 0)) :: blk gi (.cells #[.int .i64 i] 3 (0, 0)) :: blk gl (.cells #[.slice A l.length cap] 28 (0, 0)) :: netN gn n :: H) A (l.flatMap celF) := hr.cons.cons.cons.cons
  by_cases hlt : k < l.length
  · have hgk : l[k]? = some (celL l k) := by unfold celL; rw [List.getD_eq_getElem?_getD, List.getElem?_eq_getElem hlt]; rfl
    have hst : faultGB n.net l i c (k + 1) = (faultGB n.net l i c k || (decide (k ≠ i) && touchE c (celL l k))) := by
      unfold faultGB
      rw [List.range_succ, List.any_append]
      simp
    obtain ⟨d, hd⟩ : ∃ d, celL l k = d := ⟨_, rfl⟩
    rw [hd] at hgk hst
    have p4 := fun {H' : List HP} {w : World} (hw : St B w0 H' w) => touches_spec c d hw
    unfold netN at hrc ⊢
    obtain ⟨t, ht⟩ : ∃ t, touchE c d = t := ⟨_, rfl⟩
    rw [ht] at p4 hst
    rw [hno, Bool.false_or] at hst
    by_cases hki : k = i
    · rw [decide_eq_false (fun h => h hki), Bool.false_and] at hst
      repeat' (first | apply (zs1 ?_) | apply (zs2 ?_) | (apply zg1; refine zs3 ?_) | (apply zg3; first | refine zs7 ?_ | refine zs61 ?_) | (apply zg5; refine zs57 ?_) | (apply zg6; refine zs12 ?_) | (apply zg8; (refine zs16 ?_ ?_ <;> intro _ <;> try (exfalso; omega))) | (apply (zs17 ?_ ?_) <;> intro _ <;> try (exfalso; omega)) | (apply zg13; refine zs30 ?_) | (apply zg22; refine zs51 ?_) | (apply zg24; (refine zs54 ?_; intro _)) | apply (zs65 ?_) | apply (zs68 ?_) | apply (zs69 ?_) | apply (zs70 ?_) | (apply zg27; first | refine zs71 ?_ | refine zs72 ?_) | apply (zs73 ?_) | apply (zs76 ?_) | apply (zs79 ?_) | fail)
      apply hK (k + 1)
      · exact ⟨by omega, hst⟩
      · omega
      · (repeat (first | exact sub_nil _ | (apply sub_cons; first | exact rfl | exact congrArg (fun z : Int => some (Value.int .i64 z)) (by omega))))
      · unfold netN
        (intro w hw; refine hw.perm ?_; focus repeat (first | with_reducible exact Perm.refl _ | (with_reducible apply perm_take; focus ((repeat (first | with_reducible exact rem_here | with_reducible apply rem_there)); done)) | with_reducible apply Perm.dropK))
    rw [decide_eq_true hki, Bool.true_and] at hst
    cases t with
    | false =>
      repeat' (first | ((first | apply VL_callt en176 | apply VL_callq en176); (repeat (first | exact args_nil | (apply args_cons; exact rfl))); exact rfl; exact fun _ hw => (p4 hw)) | apply (zs1 ?_) | apply (zs2 ?_) | (apply zg1; refine zs4 ?_) | (apply zg3; first | refine zs7 ?_ | refine zs8 ?_ | refine zs61 ?_) | (apply zg5; refine zs57 ?_) | (apply zg6; refine zs11 ?_) | (apply zg8; (refine zs16 ?_ ?_ <;> intro _ <;> try (exfalso; omega))) | (apply (zs17 ?_ ?_) <;> intro _ <;> try (exfalso; omega)) | (apply zg13; refine zs30 ?_) | (apply zg22; refine zs51 ?_) | (apply zg24; (refine zs54 ?_; intro _)) | apply (zs65 ?_) | apply (zs68 ?_) | apply (zs69 ?_) | apply (zs70 ?_) | (apply zg27; first | refine zs71 ?_ | refine zs72 ?_) | apply (zs73 ?_) | apply (zs76 ?_) | apply (zs79 ?_) | fail)
      apply hK (k + 1)
      · exact ⟨by omega, hst⟩
      · omega
      · (repeat (first | exact sub_nil _ | (apply sub_cons; first | exact rfl | exact congrArg (fun z : Int => some (Value.int .i64 z)) (by omega))))
      · unfold netN
        (intro w hw; refine hw.perm ?_; focus repeat (first | with_reducible exact Perm.refl _ | (with_reducible apply perm_take; focus ((repeat (first | with_reducible exact rem_here | with_reducible apply rem_there)); done)) | with_reducible apply Perm.dropK))
    | true =>
      have hfa : faultGB n.net l i c l.length = true := by
        unfold faultGB
        rw [List.any_eq_true]
        exact ⟨k, List.mem_range.2 hlt, by rw [hd, ht, decide_eq_true hki]; rfl⟩
      rw [hfa]
      repeat' (first | ((first | apply VL_callt en176 | apply VL_callq en176); (repeat (first | exact args_nil | (apply args_cons; exact rfl))); exact rfl; exact fun _ hw => (p4 hw)) | apply (zs1 ?_) | apply (zs2 ?_) | (apply zg1; refine zs4 ?_) | (apply zg3; first | refine zs7 ?_ | refine zs8 ?_ | refine zs61 ?_) | (apply zg5; refine zs57 ?_) | (apply zg6; refine zs11 ?_) | (apply zg8; (refine zs16 ?_ ?_ <;> intro _ <;> try (exfalso; omega))) | (apply (zs17 ?_ ?_) <;> intro _ <;> try (exfalso; omega)) | (apply zg22; refine zs51 ?_) | (apply zg24; (refine zs54 ?_; intro _)) | apply (zs65 ?_) | apply (zs68 ?_) | apply (zs69 ?_) | apply (zs70 ?_) | (apply zg27; refine zs71 ?_) | apply (zs73 ?_) | apply (zs74 ?_) | apply (zs76 ?_) | apply (zs77 ?_) | apply (zs78 ?_) | fail)
      apply VQ_st H
      · (intro w hw; refine hw.perm ?_; focus repeat (first | with_reducible exact Perm.refl _ | (with_reducible apply perm_take; focus ((repeat (first | with_reducible exact rem_here | with_reducible apply rem_there)); done)) | with_reducible apply Perm.dropK))
      apply VQ_ret1; exact rfl; exact rfl; exact ⟨rfl, rfl⟩
  · obtain rfl : k = l.length := by omega
    rw [hno]
    clear hK
    unfold netN at hrc q1 q2 ⊢
    cases b1 with
    | false =>
      repeat' (first | apply (zs1 ?_) | apply (zs2 ?_) | (apply zg2; refine zs6 ?_) | (apply zg3; refine zs7 ?_) | (apply (zs17 ?_ ?_) <;> intro _ <;> try (exfalso; omega)) | apply (zs65 ?_) | apply (zs68 ?_) | apply (zs69 ?_) | apply (zs70 ?_) | (apply zg27; refine zs72 ?_) | apply (zs75 ?_) | apply (zs80 ?_) | apply (zs81 ?_) | (apply zg29; (apply VL_makeFunc; (repeat (first | exact args_nil | (apply args_cons; exact rfl))) ; exact rfl)) | fail)
      first | apply VL_callvt (cs := [.pointer (some ⟨gn, 0, none⟩), .pointer (some ⟨gl, 0, none⟩), .pointer (some ⟨gi, 0, none⟩)]) | apply VL_callvq (cs := [.pointer (some ⟨gn, 0, none⟩), .pointer (some ⟨gl, 0, none⟩), .pointer (some ⟨gi, 0, none⟩)])
      exact rfl
      exact en177
      (repeat (first | exact args_nil | (apply args_cons; exact rfl)))
      exact rfl
      exact fun _ hw => q1 gn gl gi (by repeat (first | exact hin | apply NetM.In.cons)) hrc (by (focus repeat (first | with_reducible exact List.mem_cons_self | with_reducible apply List.mem_cons_of_mem | assumption))) (by (focus repeat (first | with_reducible exact List.mem_cons_self | with_reducible apply List.mem_cons_of_mem | assumption))) (by (focus repeat (first | with_reducible exact List.mem_cons_self | with_reducible apply List.mem_cons_of_mem | assumption))) hw
      repeat' (first | apply (zs1 ?_) | apply (zs2 ?_) | (apply zg1; refine zs3 ?_) | (apply zg6; refine zs11 ?_) | (apply zg20; refine zs48 ?_) | apply (zs65 ?_) | apply (zs68 ?_) | apply (zs74 ?_) | fail)
      apply VQ_st H
      · (intro w hw; refine hw.perm ?_; focus repeat (first | with_reducible exact Perm.refl _ | (with_reducible apply perm_take; focus ((repeat (first | with_reducible exact rem_here | with_reducible apply rem_there)); done)) | with_reducible apply Perm.dropK))
      apply VQ_ret1; exact rfl; exact rfl; exact ⟨rfl, rfl⟩
    | true =>
      cases b2 <;> (
        repeat' (first | apply (zs1 ?_) | apply (zs2 ?_) | (apply zg2; refine zs6 ?_) | (apply zg3; refine zs7 ?_) | (apply (zs17 ?_ ?_) <;> intro _ <;> try (exfalso; omega)) | apply (zs65 ?_) | apply (zs68 ?_) | apply (zs69 ?_) | apply (zs70 ?_) | (apply zg27; refine zs72 ?_) | apply (zs75 ?_) | apply (zs80 ?_) | apply (zs81 ?_) | (apply zg29; (apply VL_makeFunc; (repeat (first | exact args_nil | (apply args_cons; exact rfl))) ; exact rfl)) | fail)
        first | apply VL_callvt (cs := [.pointer (some ⟨gn, 0, none⟩), .pointer (some ⟨gl, 0, none⟩), .pointer (some ⟨gi, 0, none⟩)]) | apply VL_callvq (cs := [.pointer (some ⟨gn, 0, none⟩), .pointer (some ⟨gl, 0, none⟩), .pointer (some ⟨gi, 0, none⟩)])
        exact rfl
        exact en177
        (repeat (first | exact args_nil | (apply args_cons; exact rfl)))
        exact rfl
        exact fun _ hw => q1 gn gl gi (by repeat (first | exact hin | apply NetM.In.cons)) hrc (by (focus repeat (first | with_reducible exact List.mem_cons_self | with_reducible apply List.mem_cons_of_mem | assumption))) (by (focus repeat (first | with_reducible exact List.mem_cons_self | with_reducible apply List.mem_cons_of_mem | assumption))) (by (focus repeat (first | with_reducible exact List.mem_cons_self | with_reducible apply List.mem_cons_of_mem | assumption))) hw
        repeat' (first | apply (zs1 ?_) | (apply zg1; refine zs4 ?_) | (apply zg2; refine zs6 ?_) | (apply zg3; refine zs7 ?_) | (apply zg20; refine zs47 ?_) | fail)
        first | apply VL_callvt (cs := [.pointer (some ⟨gn, 0, none⟩), .pointer (some ⟨gl, 0, none⟩), .pointer (some ⟨gi, 0, none⟩)]) | apply VL_callvq (cs := [.pointer (some ⟨gn, 0, none⟩), .pointer (some ⟨gl, 0, none⟩), .pointer (some ⟨gi, 0, none⟩)])
        exact rfl
        exact en177
        (repeat (first | exact args_nil | (apply args_cons; exact rfl)))
        exact rfl
        exact fun _ hw => q2 gn gl gi (by repeat (first | exact hin | apply NetM.In.cons)) hrc (by (focus repeat (first | with_reducible exact List.mem_cons_self | with_reducible apply List.mem_cons_of_mem | assumption))) (by (focus repeat (first | with_reducible exact List.mem_cons_self | with_reducible apply List.mem_cons_of_mem | assumption))) (by (focus repeat (first | with_reducible exact List.mem_cons_self | with_reducible apply List.mem_cons_of_mem | assumption))) hw
        repeat' (first | apply (zs2 ?_) | (apply zg1; refine zs4 ?_) | (apply zg6; refine zs12 ?_) | (apply zg20; first | refine zs47 ?_ | refine zs48 ?_) | apply (zs65 ?_) | apply (zs68 ?_) | apply (zs74 ?_) | fail)
        apply VQ_st H
        · (intro w hw; refine hw.perm ?_; focus repeat (first | with_reducible exact Perm.refl _ | (with_reducible apply perm_take; focus ((repeat (first | with_reducible exact rem_here | with_reducible apply rem_there)); done)) | with_reducible apply Perm.dropK))
        apply VQ_ret1; exact rfl; exact rfl; exact ⟨rfl, rfl⟩)
def firstFB (n : Net) (l : List Cel) (k : Nat) : Bool := (List.range k).any (pfaultB n l)
set_option maxHeartbeats 1000000 in
theorem first_specC (n : NetM) (l : List Cel) (hck : checkE n.net = 0) (hlen : l.length ≤ 1000) {A : Option Addr} {cap B : Nat} {w0 : World} {H : List HP} {w : World} (hin : n.In B w0 H) (hr : Rd B w0 H A (l.flatMap celF)) (hw : St B w0 H w) :
    Calls Tryz.prog 60 [n.val, .slice A l.length cap].toArray w (Post B w0 fun v K => ∃ i : Int, v = .tuple #[.int .i64 i, .bool (firstFB n.net l l.length)] ∧ K = H) := by
  refine Calls_of_VC Tryz.func60 Tryz.ntmps60 rfl rfl hw ?_
  have p1 := fun {H' : List HP} {w : World} (hin : n.In B w0 H') (hw : St B w0 H' w) => check_spec n hin hw
  rw [hck] at p1
  (apply VC_seq; apply VC_region; apply VL_box_agg; exact rfl; exact rfl; intro g)
  repeat' (first | ((first | apply VL_callt en50 | apply VL_callq en50); (repeat (first | exact args_nil | (apply args_cons; exact rfl))); exact rfl; exact fun _ hw => (p1 hin.cons hw)) | apply (zs1 ?_) | apply (zs2 ?_) | (apply zg3; refine zs8 ?_) | (apply zg4; refine zs9 ?_) | (apply zg8; (refine zs16 ?_ ?_ <;> intro _ <;> try (exfalso; omega))) | apply (zs65 ?_) | apply (zs68 ?_) | apply (zs69 ?_) | apply (zs70 ?_) | (apply zg27; refine zs72 ?_) | apply (zs73 ?_) | apply (zs76 ?_) | fail)
  refine VC_loop1 (fun (k : Nat) => [(12, .int .i64 k), (11, .int .i64 l.length), (1, .slice A l.length cap), (2, .pointer (some ⟨g, 0, none⟩))]) (fun _ => netN g n :: H) (fun k => k ≤ l.length ∧ firstFB n.net l k = false) (fun k => l.length - k) 0 ⟨Nat.zero_le _, rfl⟩ ?_ (fun w hw => hw) ?_
  · (repeat (first | exact sub_nil _ | (apply sub_cons; first | exact rfl | exact congrArg (fun z : Int => some (Value.int .i64 z)) (by omega))))
  rintro k ⟨hk, hno⟩ K hK
  unfold netN
  by_cases hlt : k < l.length
  · have p2 := fun {H' : List HP} {w : World} (hin : n.In B w0 H') (hr : Rd B w0 H' A (l.flatMap celF)) (hw : St B w0 H' w) => faulty_spec n l k hck hlt hlen (cap := cap) hin hr hw
    have hst : firstFB n.net l (k + 1) = (firstFB n.net l k || pfaultB n.net l k) := by
      unfold firstFB
      rw [List.range_succ, List.any_append]
      simp
    rw [hno, Bool.false_or] at hst
    cases hp : pfaultB n.net l k with
    | false =>
      rw [hp] at p2 hst
      repeat' (first | ((first | apply VL_callt en119 | apply VL_callq en119); (repeat (first | exact args_nil | (apply args_cons; exact rfl))); exact rfl; exact fun _ hw => (p2 hin.cons hr.cons hw)) | apply (zs1 ?_) | apply (zs2 ?_) | (apply zg3; refine zs8 ?_) | (apply (zs17 ?_ ?_) <;> intro _ <;> try (exfalso; omega)) | (apply zg13; refine zs30 ?_) | apply (zs65 ?_) | apply (zs68 ?_) | apply (zs69 ?_) | apply (zs70 ?_) | (apply zg27; first | refine zs71 ?_ | refine zs72 ?_) | apply (zs73 ?_) | apply (zs76 ?_) | apply (zs79 ?_) | fail)
      apply hK (k + 1)
      · exact ⟨by omega, hst⟩
      · omega
      · (repeat (first | exact sub_nil _ | (apply sub_cons; first | exact rfl | exact congrArg (fun z : Int => some (Value.int .i64 z)) (by omega))))
      · unfold netN
        (intro w hw; refine hw.perm ?_; focus repeat (first | with_reducible exact Perm.refl _ | (with_reducible apply perm_take; focus ((repeat (first | with_reducible exact rem_here | with_reducible apply rem_there)); done)) | with_reducible apply Perm.dropK))
    | true =>
      rw [hp] at p2
      have hfa : firstFB n.net l l.length = true := by
        unfold firstFB
        rw [List.any_eq_true]
        exact ⟨k, List.mem_range.2 hlt, hp⟩
      rw [hfa]
      repeat' (first | ((first | apply VL_callt en119 | apply VL_callq en119); (repeat (first | exact args_nil | (apply args_cons; exact rfl))); exact rfl; exact fun _ hw => (p2 hin.cons hr.cons hw)) | apply (zs1 ?_) | apply (zs2 ?_) | (apply zg3; refine zs8 ?_) | (apply (zs17 ?_ ?_) <;> intro _ <;> try (exfalso; omega)) | apply (zs65 ?_) | apply (zs68 ?_) | apply (zs69 ?_) | apply (zs70 ?_) | (apply zg27; refine zs71 ?_) | apply (zs73 ?_) | apply (zs74 ?_) | apply (zs76 ?_) | apply (zs77 ?_) | apply (zs78 ?_) | fail)
      apply VQ_st H
      · (intro w hw; refine hw.perm ?_; focus repeat (first | with_reducible exact Perm.refl _ | (with_reducible apply perm_take; focus ((repeat (first | with_reducible exact rem_here | with_reducible apply rem_there)); done)) | with_reducible apply Perm.dropK))
      apply VQ_ret2; exact rfl; exact rfl; exact rfl; exact ⟨_, rfl, rfl⟩
  · obtain rfl : k = l.length := by omega
    rw [hno]
    repeat' (first | apply (zs2 ?_) | (apply (zs17 ?_ ?_) <;> intro _ <;> try (exfalso; omega)) | apply (zs65 ?_) | apply (zs68 ?_) | apply (zs69 ?_) | apply (zs70 ?_) | (apply zg27; refine zs72 ?_) | apply (zs74 ?_) | apply (zs75 ?_) | apply (zs80 ?_) | apply (zs81 ?_) | fail)
    apply VQ_st H
    · (intro w hw; refine hw.perm ?_; focus repeat (first | with_reducible exact Perm.refl _ | (with_reducible apply perm_take; focus ((repeat (first | with_reducible exact rem_here | with_reducible apply rem_there)); done)) | with_reducible apply Perm.dropK))
    apply VQ_ret2; exact rfl; exact rfl; exact rfl; exact ⟨_, rfl, rfl⟩
theorem goodL_first {n : Net} {l : List Cel} (hck : checkE n = 0) : goodL n l = !(firstFB n l l.length) := by
  unfold goodL firstFB
  rw [decide_eq_true hck, Bool.true_and, List.not_any_eq_all_not]
set_option maxHeartbeats 1000000 in
theorem good_specC (n : NetM) (l : List Cel) (hck : checkE n.net = 0) (hlen : l.length ≤ 1000) {A : Option Addr} {cap B : Nat} {w0 : World} {H : List HP} {w : World} (hin : n.In B w0 H) (hr : Rd B w0 H A (l.flatMap celF)) (hw : St B w0 H w) :
    Calls Tryz.prog 15 [n.val, .slice A l.length cap].toArray w (Post B w0 fun v K => v = .bool (goodL n.net l) ∧ K = H) := by
  refine Calls_of_VC Tryz.func15 Tryz.ntmps15 rfl rfl hw ?_
  have p1 := fun {H' : List HP} {w : World} (hin : n.In B w0 H') (hw : St B w0 H' w) => check_spec n hin hw
  rw [hck] at p1
  rw [goodL_first hck]
  repeat' (first | apply (zs1 ?_) | apply (zs2 ?_) | (apply zg3; refine zs8 ?_) | (apply zg23; (refine zs52 ?_; intro _)) | apply (zs65 ?_) | apply (zs68 ?_) | apply (zs69 ?_) | apply (zs70 ?_) | fail)
  apply VL_call _ en60
  (repeat (first | exact args_nil | (apply args_cons; exact rfl)))
  exact rfl
  exact fun _ hw => (first_specC n l hck hlen hin.cons hr.cons (hw))
  rintro _ _ ⟨i, rfl, rfl⟩
  cases firstFB n.net l l.length <;> (
    repeat' (first | ((first | apply VL_callt en50 | apply VL_callq en50); (repeat (first | exact args_nil | (apply args_cons; exact rfl))); exact rfl; exact fun _ hw => (p1 hin.cons hw)) | apply (zs1 ?_) | apply (zs2 ?_) | (apply zg1; refine zs4 ?_) | (apply zg3; refine zs8 ?_) | (apply zg6; refine zs11 ?_) | apply (zs13 ?_) | (apply zg7; (refine zs15 ?_ ?_ <;> intro _ <;> try (exfalso; omega))) | (apply zg20; first | refine zs47 ?_ | refine zs48 ?_) | apply (zs65 ?_) | apply (zs68 ?_) | apply (zs69 ?_) | apply (zs70 ?_) | apply (zs74 ?_) | fail)
    apply VQ_st H
    · (intro w hw; refine hw.perm ?_; focus repeat (first | with_reducible exact Perm.refl _ | (with_reducible apply perm_take; focus ((repeat (first | with_reducible exact rem_here | with_reducible apply rem_there)); done)) | with_reducible apply Perm.dropK))
    apply VQ_ret1; exact rfl; exact rfl; exact ⟨rfl, rfl⟩)
end Go.Proofs.YtmalhidldgfeoaaGreatDoor

/- Walks: the example of the chapter, and awake. -/
namespace Go.Proofs.YtmalhidldgfeoaaGreatDoor
open Go.RowKit Go.Eng Go.Nw

def zeroN : NetM := ⟨0, none, 0, [], 0, 0, none, 0, [], none, 0, []⟩
theorem zeroN_in {B : Nat} {w0 : World} {K : List HP} : zeroN.In B w0 K := ⟨Rd.nil, fun _ h => (by cases h), Rd.nil, Rd.nil, by simp [zeroN], fun _ h => (by cases h), by simp [zeroN], by simp [zeroN]⟩
theorem zeroN_bad : checkE zeroN.net ≠ 0 := by decide
theorem check_arg (n : NetM) (l : Value) (s : SchM) (h : checkE n.net ≠ 0) {B : Nat} {w0 : World} {H : List HP} {w : World} (hin : n.In B w0 H) (hw : St B w0 H w) :
    Calls Tryz.prog 13 [n.val, l, s.val].toArray w (Post B w0 fun v K => v = .tuple #[.int .i64 (-1), .int .i64 1] ∧ K = H) := by
  refine Calls_of_VC Tryz.func13 Tryz.ntmps13 rfl rfl hw ?_
  repeat' (first | ((first | apply VL_callt en50 | apply VL_callq en50); (repeat (first | exact args_nil | (apply args_cons; exact rfl))); exact rfl; exact fun _ hw => (check_spec n hin.cons.cons hw)) | apply (zs2 ?_) | (apply zg3; refine zs8 ?_) | (apply zg8; (refine zs16 ?_ ?_ <;> intro _ <;> try (exfalso; omega))) | (apply zg23; (refine zs52 ?_; intro _)) | apply (zs65 ?_) | apply (zs68 ?_) | apply (zs69 ?_) | apply (zs70 ?_) | (apply zg27; refine zs71 ?_) | apply (zs74 ?_) | apply (zs77 ?_) | fail)
  apply VQ_st H
  · (intro w hw; refine hw.perm ?_; focus repeat (first | with_reducible exact Perm.refl _ | (with_reducible apply perm_take; focus ((repeat (first | with_reducible exact rem_here | with_reducible apply rem_there)); done)) | with_reducible apply Perm.dropK))
  apply VQ_ret2; exact rfl; exact rfl; exact rfl; exact ⟨rfl, rfl⟩

def exC : List Cel := [(0, 0, 0, 1, 5), (2, 1, 1, 2, 5)]
def exS (A : Option Addr) (cap : Nat) : SchM := ⟨4, 2, A, cap, exC⟩
def exE : Sch := ⟨4, 2, exC⟩
def exT : List UInt8 := [115, 99, 104, 101, 100, 117, 108, 101, 32, 52, 32, 50, 10, 99, 101, 108, 108, 32, 48, 32, 48, 32, 48, 32, 49, 32, 53, 10, 99, 101, 108, 108, 32, 50, 32, 49, 32, 49, 32, 50, 32, 53, 10]
theorem ex_form : formE exE = true := by decide
theorem itoa_one {n : Int} (h : 0 ≤ n ∧ n < 10) : Lib.itoa n = [UInt8.ofNat (48 + n.toNat)] := by
  rw [itoa_nat h.1, Lib.decDigits_one (by omega)]
theorem ex_text : textE exE = exT := by
  unfold textE lineB bodyB exE exC nums
  simp only [List.flatMap_cons, List.flatMap_nil]
  repeat rw [itoa_one (by omega)]
  rfl
theorem ex_at : atE exE 6 = [(2, 1, 1, 2, 5)] := by decide
theorem exa_spec {B : Nat} {w0 : World} {H : List HP} {w : World} (hw : St B w0 H w) :
    Calls Tryz.prog 46 [].toArray w (Post B w0 fun v K => ∃ A cap, v = .agg #[.int .i64 4, .int .i64 2, .slice A exC.length cap] ∧ K = cels A cap exC :: H) := by
  refine Calls_of_VC Tryz.func46 Tryz.ntmps46 rfl rfl hw ?_
  repeat' (first | (apply zg22; refine zs51 ?_) | (apply zg24; (refine zs54 ?_; intro _)) | (apply zg25; refine zs55 ?_) | (apply zg26; (refine zs56 ?_; intro _)) | apply (zs65 ?_) | apply (zs68 ?_) | apply (zs69 ?_) | apply (zs70 ?_) | apply (zs74 ?_) | fail)
  rename_i g1 g2
  apply VQ_retc1 T (H2 := cels (some ⟨g2, 0, none⟩) 2 exC :: H); exact rfl; exact rfl; (focus repeat (first | with_reducible exact List.mem_cons_self | with_reducible apply List.mem_cons_of_mem | assumption)); exact rfl; exact rfl
  · intro w hw
    have h2 := St.blk_sl (e := 40) (size := 5) (len := 2) (cs := exC.flatMap celF) hw rfl (by decide)
    exact (h2.perm (.swap _ _ _)).tail
  · exact ⟨some ⟨g2, 0, none⟩, 2, rfl, rfl⟩
set_option maxRecDepth 10000 in
set_option maxHeartbeats 2000000 in
theorem wake_spec {B : Nat} {w0 : World} {H : List HP} {w : World} (ht : TabsB B w0) (hw : St B w0 H w) :
    Calls Tryz.prog 11 [].toArray w (Post B w0 fun v K => v = .bool true ∧ K = H) := by
  refine Calls_of_VC Tryz.func11 Tryz.ntmps11 rfl rfl hw ?_
  have hpr : printE exE = (exT, 0) := by unfold printE; rw [ex_form, if_neg (by decide), ex_text]
  have hpa : parseE exT = (exE, (-1, 0)) := by rw [← ex_text]; exact parse_print ex_form
  repeat' (first | apply (zs2 ?_) | apply (zs65 ?_) | apply (zs68 ?_) | apply (zs69 ?_) | apply (zs70 ?_) | fail)
  apply VL_call _ en46
  (repeat (first | exact args_nil | (apply args_cons; exact rfl)))
  exact rfl
  exact fun _ hw => (exa_spec (hw))
  rintro _ _ ⟨A, cap, rfl, rfl⟩
  repeat' (first | (apply zg3; refine zs8 ?_) | (apply zg22; refine zs51 ?_) | (apply zg24; (refine zs54 ?_; intro _)) | apply (zs65 ?_) | apply (zs68 ?_) | apply (zs69 ?_) | apply (zs70 ?_) | fail)
  rename_i g1
  have hlc : (exS A cap).cells.length ≤ 1000000000000 := by show 2 ≤ _; omega
  have hrA : ∀ {L : List HP}, cels A cap exC ∈ L → Rd B w0 L A (exC.flatMap celF) := fun h => Rd.cels h
  have hp : ∀ {H' : List HP} {w : World}, Rd B w0 H' A (exC.flatMap celF) → St B w0 H' w → Calls Tryz.prog 47 [.agg #[.int .i64 4, .int .i64 2, .slice A exC.length cap]].toArray w (Post B w0 fun v K => v = .tuple #[strV exT, .int .i64 0] ∧ K = H') := fun hr hw => by
    have h := print_spec (exS A cap) ht hr hlc hw
    rw [show (exS A cap).sch = exE from rfl, hpr] at h
    exact h
  have hq : ∀ {H' : List HP} {w : World}, St B w0 H' w → Calls Tryz.prog 48 [strV exT].toArray w (Post B w0 fun v K => ∃ A cap, v = .tuple #[.agg #[.int .i64 4, .int .i64 2, .slice A exC.length cap], .int .i64 (-1), .int .i64 0] ∧ K = cels A cap exC :: H') := fun hw => by
    have h := parse_spec exT (by decide) ht hw
    rw [hpa] at h
    exact h
  have ha : ∀ {H' : List HP} {w : World}, Rd B w0 H' A (exC.flatMap celF) → St B w0 H' w → Calls Tryz.prog 14 [.agg #[.int .i64 4, .int .i64 2, .slice A exC.length cap], .int .i64 6].toArray w (Post B w0 fun v K => ∃ A cap, v = .slice A [((2, 1, 1, 2, 5) : Cel)].length cap ∧ K = cels A cap [(2, 1, 1, 2, 5)] :: H') := fun hr hw => by
    have h := at_spec (exS A cap) 6 hr hlc hw
    rw [show (exS A cap).sch = exE from rfl, ex_at] at h
    exact h
  first | apply VL_callt en47 | apply VL_callq en47
  (repeat (first | exact args_nil | (apply args_cons; exact rfl)))
  exact rfl
  exact fun _ hw => (hp (hrA (by (focus repeat (first | with_reducible exact List.mem_cons_self | with_reducible apply List.mem_cons_of_mem | assumption)))) hw)
  repeat' (first | apply (zs1 ?_) | apply (zs2 ?_) | apply (zs13 ?_) | apply (zs65 ?_) | apply (zs68 ?_) | apply (zs69 ?_) | apply (zs70 ?_) | fail)
  apply VL_call _ en48
  (repeat (first | exact args_nil | (apply args_cons; exact rfl)))
  exact rfl
  exact fun _ hw => (hq (hw))
  rintro _ _ ⟨A2, cap2, rfl, rfl⟩
  repeat' (first | apply (zs1 ?_) | apply (zs2 ?_) | (apply zg3; refine zs8 ?_) | apply (zs13 ?_) | (apply zg22; refine zs51 ?_) | (apply zg24; (refine zs54 ?_; intro _)) | apply (zs65 ?_) | apply (zs68 ?_) | apply (zs69 ?_) | apply (zs70 ?_) | fail)
  apply VL_call _ en14
  (repeat (first | exact args_nil | (apply args_cons; exact rfl)))
  exact rfl
  exact fun _ hw => (ha (hrA (by (focus repeat (first | with_reducible exact List.mem_cons_self | with_reducible apply List.mem_cons_of_mem | assumption)))) (hw))
  rintro _ _ ⟨A3, cap3, rfl, rfl⟩
  repeat' (first | apply (zs2 ?_) | (apply zg3; refine zs8 ?_) | (apply zg25; refine zs55 ?_) | apply (zs65 ?_) | apply (zs68 ?_) | apply (zs69 ?_) | apply (zs70 ?_) | fail)
  first | apply VL_callt en13 | apply VL_callq en13
  (repeat (first | exact args_nil | (apply args_cons; exact rfl)))
  exact rfl
  exact fun _ hw => (check_arg zeroN _ (exS A cap) zeroN_bad zeroN_in hw)
  have hg0 : [((2, 1, 1, 2, 5) : Cel)][(0 : Int).toNat]? = some (2, 1, 1, 2, 5) := rfl
  have hg1 : exC[(1 : Int).toNat]? = some (2, 1, 1, 2, 5) := rfl
  have hlx : exC.length = 2 := rfl
  have hl1 : [((2, 1, 1, 2, 5) : Cel)].length = 1 := rfl
  have hsm : ∀ {H' : List HP} {w : World}, Rd B w0 H' A (exC.flatMap celF) → Rd B w0 H' A2 (exC.flatMap celF) → St B w0 H' w → Calls Tryz.prog 49 [.agg #[.int .i64 4, .int .i64 2, .slice A exC.length cap], .agg #[.int .i64 4, .int .i64 2, .slice A2 exC.length cap2]].toArray w (Post B w0 fun v K => v = .bool true ∧ K = H') := fun hr hr2 hw => by
    have h := rsame_spec (exS A cap) (exS A2 cap2) hlc hlc hr hr2 hw
    rw [decide_eq_true ⟨rfl, rfl, rfl⟩] at h
    exact h
  unfold cels
  repeat' (first | (apply VL_seql; exact rfl; exact rfl; exact rfl; all_goals (intro hE; try (exact absurd rfl hE))) | ((first | apply VL_callt en49 | apply VL_callq en49); (repeat (first | exact args_nil | (apply args_cons; exact rfl))); exact rfl; exact fun _ hw => (hsm (Rd.sl (by (focus repeat (first | with_reducible exact List.mem_cons_self | with_reducible apply List.mem_cons_of_mem | assumption)))) (Rd.sl (by (focus repeat (first | with_reducible exact List.mem_cons_self | with_reducible apply List.mem_cons_of_mem | assumption)))) hw)) | (apply VL_ceql (2, 1, 1, 2, 5) (2, 1, 1, 2, 5); exact rfl; exact rfl; exact rfl; all_goals (intro hE; try (exact absurd rfl hE))) | apply (zs1 ?_) | apply (zs2 ?_) | (apply zg1; refine zs4 ?_) | (apply zg2; refine zs6 ?_) | (apply zg3; first | refine zs7 ?_ | refine zs8 ?_ | refine zs61 ?_) | (apply zg4; refine zs9 ?_) | (apply zg5; refine zs10 ?_) | (apply zg6; refine zs11 ?_) | apply (zs13 ?_) | (apply zg7; (refine zs15 ?_ ?_ <;> intro _ <;> try (exfalso; omega))) | apply (zs65 ?_) | apply (zs66 ?_) | apply (zs68 ?_) | apply (zs69 ?_) | apply (zs74 ?_) | (apply zg28; refine zs84 ?_) | fail)
  apply VQ_st H
  · (intro w hw; refine hw.perm ?_; focus repeat (first | with_reducible exact Perm.refl _ | (with_reducible apply perm_take; focus ((repeat (first | with_reducible exact rem_here | with_reducible apply rem_there)); done)) | with_reducible apply Perm.dropK))
  apply VQ_ret1; exact rfl; exact rfl
  exact ⟨rfl, rfl⟩
end Go.Proofs.YtmalhidldgfeoaaGreatDoor

/- Walks: the program's Check. -/
namespace Go.Proofs.YtmalhidldgfeoaaGreatDoor
open Go.RowKit Go.Eng Go.Nw

theorem cells_good {n : Net} {l : List Flw} {s : Sch} (h1 : (cellsF n l s).2 = 0) : ∀ c ∈ s.cells, goodE n (fromC c) (toC c) = true := by
  have k1 := firstF_ok.1 h1
  intro c hc
  obtain ⟨i, hi⟩ := List.mem_iff_getElem?.1 hc
  have hl := (List.getElem?_eq_some_iff.1 hi).1
  have := k1 i (Nat.zero_le _) (by omega)
  unfold cellF at this
  rw [celAt_get hi] at this
  cases hg : goodE n (fromC c) (toC c) with
  | true => rfl
  | false =>
    rw [hg] at this
    split at this
    · omega
    · rw [if_pos (.inl rfl)] at this; omega
theorem flows_few {nodes : Int} {l : List Flw} (h : (flowsE nodes l).2 = 0) : l.length ≤ 16 := by
  unfold flowsE at h
  split at h
  · cases h
  split at h
  · cases h
  · omega
set_option maxRecDepth 10000 in
set_option maxHeartbeats 4000000 in
theorem schCheck_spec (n : NetM) (l : List Flw) (s : SchM) (hlf : l.length ≤ 9223372036854775807) (hl : s.cells.length ≤ 1000000000000) {A : Option Addr} {cap B : Nat} {w0 : World} {H : List HP} {w : World} (hin : n.In B w0 H) (hrf : Rd B w0 H A (l.flatMap flwF)) (hr : Rd B w0 H s.A (s.cells.flatMap celF)) (hw : St B w0 H w) :
    Calls Tryz.prog 13 [n.val, .slice A l.length cap, s.val].toArray w (Post B w0 fun v K => v = .tuple #[.int .i64 (schE n.net l s.sch).1, .int .i64 (schE n.net l s.sch).2] ∧ K = H) := by
  refine Calls_of_VC Tryz.func13 Tryz.ntmps13 rfl rfl hw ?_
  have e4 : s.sch.cells.length = s.cells.length := rfl
  have e5 : s.sch.len = s.len := rfl
  have hchk := fun {H' : List HP} {w : World} (hin : n.In B w0 H') (hw : St B w0 H' w) => check_spec n hin hw
  have hsz := fun {H' : List HP} {w : World} (hw : St B w0 H' w) => sized_spec s hw
  by_cases h1 : checkE n.net = 0
  rotate_left
  · have hS : schE n.net l s.sch = (-1, 1) := by
      have hw1 : wholeE n.net l s.sch = 1 := by unfold wholeE; rw [if_pos h1]
      unfold schE; rw [hw1]; rfl
    rw [hS]
    repeat' (first | ((first | apply VL_callt en50 | apply VL_callq en50); (repeat (first | exact args_nil | (apply args_cons; exact rfl))); exact rfl; exact fun _ hw => (hchk hin.cons.cons hw)) | apply (zs2 ?_) | (apply zg3; refine zs8 ?_) | (apply zg8; (refine zs16 ?_ ?_ <;> intro _ <;> try (exfalso; omega))) | (apply zg23; (refine zs52 ?_; intro _)) | apply (zs65 ?_) | apply (zs68 ?_) | apply (zs69 ?_) | apply (zs70 ?_) | (apply zg27; refine zs71 ?_) | apply (zs74 ?_) | apply (zs77 ?_) | fail)
    apply VQ_st H
    · (intro w hw; refine hw.perm ?_; focus repeat (first | with_reducible exact Perm.refl _ | (with_reducible apply perm_take; focus ((repeat (first | with_reducible exact rem_here | with_reducible apply rem_there)); done)) | with_reducible apply Perm.dropK))
    apply VQ_ret2; exact rfl; exact rfl; exact rfl; exact ⟨rfl, rfl⟩
  rw [h1] at hchk
  by_cases h2 : (flowsE n.nodes l).2 = 0
  rotate_left
  · have hS : schE n.net l s.sch = (-1, 1) := by
      have hw1 : wholeE n.net l s.sch = 1 := by unfold wholeE; rw [if_neg (by omega)]; exact if_pos h2
      unfold schE; rw [hw1]; rfl
    rw [hS]
    repeat' (first | ((first | apply VL_callt en50 | apply VL_callq en50); (repeat (first | exact args_nil | (apply args_cons; exact rfl))); exact rfl; exact fun _ hw => (hchk hin.cons.cons hw)) | ((first | apply VL_callt en51 | apply VL_callq en51); (repeat (first | exact args_nil | (apply args_cons; exact rfl))); exact rfl; exact fun _ hw => (fcheckAll_spec n.nodes l hlf hrf.cons.cons hw)) | apply (zs1 ?_) | apply (zs2 ?_) | (apply zg2; refine zs6 ?_) | (apply zg3; first | refine zs7 ?_ | refine zs8 ?_) | apply (zs13 ?_) | (apply zg8; (refine zs16 ?_ ?_ <;> intro _ <;> try (exfalso; omega))) | (apply zg23; (refine zs52 ?_; intro _)) | apply (zs65 ?_) | apply (zs68 ?_) | apply (zs69 ?_) | apply (zs70 ?_) | (apply zg27; first | refine zs71 ?_ | refine zs72 ?_) | apply (zs74 ?_) | apply (zs76 ?_) | apply (zs77 ?_) | fail)
    apply VQ_st H
    · (intro w hw; refine hw.perm ?_; focus repeat (first | with_reducible exact Perm.refl _ | (with_reducible apply perm_take; focus ((repeat (first | with_reducible exact rem_here | with_reducible apply rem_there)); done)) | with_reducible apply Perm.dropK))
    apply VQ_ret2; exact rfl; exact rfl; exact rfl; exact ⟨rfl, rfl⟩
  have hl16 := flows_few h2
  have hper := flows_ids h2
  cases h3 : sizedE s.sch with
  | false =>
    rw [h3] at hsz
    have hS : schE n.net l s.sch = (-1, 2) := by
      have hw1 : wholeE n.net l s.sch = 2 := by unfold wholeE; rw [if_neg (by omega), if_neg (fun h => h h2), if_pos h3]
      unfold schE; rw [hw1]; rfl
    rw [hS]
    repeat' (first | ((first | apply VL_callt en50 | apply VL_callq en50); (repeat (first | exact args_nil | (apply args_cons; exact rfl))); exact rfl; exact fun _ hw => (hchk hin.cons.cons hw)) | ((first | apply VL_callt en51 | apply VL_callq en51); (repeat (first | exact args_nil | (apply args_cons; exact rfl))); exact rfl; exact fun _ hw => (fcheckAll_spec n.nodes l hlf hrf.cons.cons hw)) | ((first | apply VL_callt en52 | apply VL_callq en52); (repeat (first | exact args_nil | (apply args_cons; exact rfl))); exact rfl; exact fun _ hw => (hsz hw)) | apply (zs1 ?_) | apply (zs2 ?_) | (apply zg2; refine zs6 ?_) | (apply zg3; first | refine zs7 ?_ | refine zs8 ?_) | apply (zs13 ?_) | (apply zg8; (refine zs16 ?_ ?_ <;> intro _ <;> try (exfalso; omega))) | (apply zg20; refine zs48 ?_) | (apply zg23; (refine zs52 ?_; intro _)) | apply (zs65 ?_) | apply (zs68 ?_) | apply (zs69 ?_) | apply (zs70 ?_) | (apply zg27; first | refine zs71 ?_ | refine zs72 ?_) | apply (zs73 ?_) | apply (zs74 ?_) | apply (zs76 ?_) | apply (zs77 ?_) | apply (zs78 ?_) | fail)
    apply VQ_st H
    · (intro w hw; refine hw.perm ?_; focus repeat (first | with_reducible exact Perm.refl _ | (with_reducible apply perm_take; focus ((repeat (first | with_reducible exact rem_here | with_reducible apply rem_there)); done)) | with_reducible apply Perm.dropK))
    apply VQ_ret2; exact rfl; exact rfl; exact rfl; exact ⟨rfl, rfl⟩
  | true =>
  rw [h3] at hsz
  have hsl : 1 ≤ s.len ∧ s.len ≤ 512 := by
    have := of_decide_eq_true h3
    exact ⟨this.1, this.2.1⟩
  obtain ⟨b, hb⟩ : ∃ b, (l.any fun f => decide (s.len.tmod f.2.2.2.1 ≠ 0)) = b := ⟨_, rfl⟩
  have hw0 : wholeE n.net l s.sch = if b = true then 11 else if 512 < s.cells.length then 8 else 0 := by
    unfold wholeE
    rw [if_neg (by omega), if_neg (fun h => h h2), h3, if_neg (by decide), e5, hb]
    rfl
  have hcf := fun {H' : List HP} {w : World} (gs : Nat) (hm : blk gs (.cells #[.int .i64 s.len, .int .i64 s.off, .slice s.A s.cells.length s.cap] 30 (0, 0)) ∈ H') (hr : Rd B w0 H' A (l.flatMap flwF)) (hw : St B w0 H' w) => containsF_spec (fun f => decide (s.len.tmod f.2.2.2.1 ≠ 0)) l 54 [.pointer (some ⟨gs, 0, none⟩)] en54 (by omega) (cap := cap) hr (fun f hf w hw => period1_spec s f gs hsl ⟨(hper f hf).2.2.1, (hper f hf).2.2.2⟩ hm hw) hw
  rw [hb] at hcf
  cases b with
  | true =>
    rw [if_pos rfl] at hw0
    have hS : schE n.net l s.sch = (-1, 11) := by unfold schE; rw [hw0]; rfl
    rw [hS]
    repeat' (first | ((first | apply VL_callt en50 | apply VL_callq en50); (repeat (first | exact args_nil | (apply args_cons; exact rfl))); exact rfl; exact fun _ hw => (hchk hin.cons.cons hw)) | ((first | apply VL_callt en51 | apply VL_callq en51); (repeat (first | exact args_nil | (apply args_cons; exact rfl))); exact rfl; exact fun _ hw => (fcheckAll_spec n.nodes l hlf hrf.cons.cons hw)) | ((first | apply VL_callt en52 | apply VL_callq en52); (repeat (first | exact args_nil | (apply args_cons; exact rfl))); exact rfl; exact fun _ hw => (hsz hw)) | ((first | apply VL_callt en53 | apply VL_callq en53); (repeat (first | exact args_nil | (apply args_cons; exact rfl))); exact rfl; exact fun _ hw => (hcf _ (by (focus repeat (first | with_reducible exact List.mem_cons_self | with_reducible apply List.mem_cons_of_mem | assumption))) hrf.cons.cons hw)) | apply (zs1 ?_) | apply (zs2 ?_) | (apply zg2; refine zs6 ?_) | (apply zg3; first | refine zs7 ?_ | refine zs8 ?_) | apply (zs13 ?_) | (apply zg8; (refine zs16 ?_ ?_ <;> intro _ <;> try (exfalso; omega))) | (apply zg20; refine zs47 ?_) | (apply zg23; (refine zs52 ?_; intro _)) | apply (zs65 ?_) | apply (zs68 ?_) | apply (zs69 ?_) | apply (zs70 ?_) | (apply zg27; first | refine zs71 ?_ | refine zs72 ?_) | apply (zs73 ?_) | apply (zs74 ?_) | apply (zs76 ?_) | apply (zs77 ?_) | apply (zs78 ?_) | (apply zg29; (apply VL_makeFunc; (repeat (first | exact args_nil | (apply args_cons; exact rfl))) ; exact rfl)) | fail)
    apply VQ_st H
    · (intro w hw; refine hw.perm ?_; focus repeat (first | with_reducible exact Perm.refl _ | (with_reducible apply perm_take; focus ((repeat (first | with_reducible exact rem_here | with_reducible apply rem_there)); done)) | with_reducible apply Perm.dropK))
    apply VQ_ret2; exact rfl; exact rfl; exact rfl; exact ⟨rfl, rfl⟩
  | false =>
  rw [if_neg (by decide)] at hw0
  by_cases h5 : 512 < s.cells.length
  · rw [if_pos h5] at hw0
    have hS : schE n.net l s.sch = (-1, 8) := by unfold schE; rw [hw0]; rfl
    rw [hS]
    repeat' (first | ((first | apply VL_callt en50 | apply VL_callq en50); (repeat (first | exact args_nil | (apply args_cons; exact rfl))); exact rfl; exact fun _ hw => (hchk hin.cons.cons hw)) | ((first | apply VL_callt en51 | apply VL_callq en51); (repeat (first | exact args_nil | (apply args_cons; exact rfl))); exact rfl; exact fun _ hw => (fcheckAll_spec n.nodes l hlf hrf.cons.cons hw)) | ((first | apply VL_callt en52 | apply VL_callq en52); (repeat (first | exact args_nil | (apply args_cons; exact rfl))); exact rfl; exact fun _ hw => (hsz hw)) | ((first | apply VL_callt en53 | apply VL_callq en53); (repeat (first | exact args_nil | (apply args_cons; exact rfl))); exact rfl; exact fun _ hw => (hcf _ (by (focus repeat (first | with_reducible exact List.mem_cons_self | with_reducible apply List.mem_cons_of_mem | assumption))) hrf.cons.cons hw)) | apply (zs1 ?_) | apply (zs2 ?_) | (apply zg2; refine zs6 ?_) | (apply zg3; first | refine zs7 ?_ | refine zs8 ?_) | (apply zg4; refine zs9 ?_) | apply (zs13 ?_) | (apply zg8; (refine zs16 ?_ ?_ <;> intro _ <;> try (exfalso; omega))) | (apply (zs19 ?_ ?_) <;> intro _ <;> try (exfalso; omega)) | (apply zg20; refine zs47 ?_) | (apply zg23; (refine zs52 ?_; intro _)) | apply (zs65 ?_) | apply (zs68 ?_) | apply (zs69 ?_) | apply (zs70 ?_) | (apply zg27; first | refine zs71 ?_ | refine zs72 ?_) | apply (zs73 ?_) | apply (zs74 ?_) | apply (zs76 ?_) | apply (zs77 ?_) | apply (zs78 ?_) | (apply zg29; (apply VL_makeFunc; (repeat (first | exact args_nil | (apply args_cons; exact rfl))) ; exact rfl)) | fail)
    apply VQ_st H
    · (intro w hw; refine hw.perm ?_; focus repeat (first | with_reducible exact Perm.refl _ | (with_reducible apply perm_take; focus ((repeat (first | with_reducible exact rem_here | with_reducible apply rem_there)); done)) | with_reducible apply Perm.dropK))
    apply VQ_ret2; exact rfl; exact rfl; exact rfl; exact ⟨rfl, rfl⟩
  rw [if_neg h5] at hw0
  have hS : schE n.net l s.sch = if (cellsF n.net l s.sch).2 ≠ 0 then cellsF n.net l s.sch else if (twiceF s.sch).2 ≠ 0 then twiceF s.sch else distF n.net s.sch := by
    unfold schE; rw [hw0]; rfl
  rw [hS]
  have hcc := fun {H' : List HP} {w : World} (hin : n.In B w0 H') (hrf : Rd B w0 H' A (l.flatMap flwF)) (hr : Rd B w0 H' s.A (s.cells.flatMap celF)) (hw : St B w0 H' w) => checkCells_spec n l s h1 (by omega) hl (cap := cap) hin hrf hr hw
  obtain ⟨⟨c1, c2⟩, hcv⟩ : ∃ R, cellsF n.net l s.sch = R := ⟨_, rfl⟩
  rw [hcv] at hcc ⊢
  dsimp only at hcc ⊢
  by_cases h6 : c2 ≠ 0
  · rw [if_pos h6]
    repeat' (first | ((first | apply VL_callt en50 | apply VL_callq en50); (repeat (first | exact args_nil | (apply args_cons; exact rfl))); exact rfl; exact fun _ hw => (hchk hin.cons.cons hw)) | ((first | apply VL_callt en51 | apply VL_callq en51); (repeat (first | exact args_nil | (apply args_cons; exact rfl))); exact rfl; exact fun _ hw => (fcheckAll_spec n.nodes l hlf hrf.cons.cons hw)) | ((first | apply VL_callt en52 | apply VL_callq en52); (repeat (first | exact args_nil | (apply args_cons; exact rfl))); exact rfl; exact fun _ hw => (hsz hw)) | ((first | apply VL_callt en53 | apply VL_callq en53); (repeat (first | exact args_nil | (apply args_cons; exact rfl))); exact rfl; exact fun _ hw => (hcf _ (by (focus repeat (first | with_reducible exact List.mem_cons_self | with_reducible apply List.mem_cons_of_mem | assumption))) hrf.cons.cons hw)) | ((first | apply VL_callt en55 | apply VL_callq en55); (repeat (first | exact args_nil | (apply args_cons; exact rfl))); exact rfl; exact fun _ hw => (hcc hin.cons.cons hrf.cons.cons hr.cons.cons hw)) | apply (zs1 ?_) | apply (zs2 ?_) | (apply zg2; refine zs6 ?_) | (apply zg3; first | refine zs7 ?_ | refine zs8 ?_) | (apply zg4; refine zs9 ?_) | apply (zs13 ?_) | (apply zg8; (refine zs16 ?_ ?_ <;> intro _ <;> try (exfalso; omega))) | (apply (zs19 ?_ ?_) <;> intro _ <;> try (exfalso; omega)) | (apply zg20; refine zs47 ?_) | (apply zg23; (refine zs52 ?_; intro _)) | apply (zs65 ?_) | apply (zs68 ?_) | apply (zs69 ?_) | apply (zs70 ?_) | (apply zg27; first | refine zs71 ?_ | refine zs72 ?_) | apply (zs73 ?_) | apply (zs74 ?_) | apply (zs76 ?_) | apply (zs77 ?_) | apply (zs79 ?_) | (apply zg29; (apply VL_makeFunc; (repeat (first | exact args_nil | (apply args_cons; exact rfl))) ; exact rfl)) | fail)
    apply VQ_st H
    · (intro w hw; refine hw.perm ?_; focus repeat (first | with_reducible exact Perm.refl _ | (with_reducible apply perm_take; focus ((repeat (first | with_reducible exact rem_here | with_reducible apply rem_there)); done)) | with_reducible apply Perm.dropK))
    apply VQ_ret2; exact rfl; exact rfl; exact rfl; exact ⟨rfl, rfl⟩
  obtain rfl : c2 = 0 := Decidable.not_not.1 h6
  rw [if_neg h6]
  have hgood := cells_good (n := n.net) (l := l) (s := s.sch) (by rw [hcv])
  repeat' (first | ((first | apply VL_callt en50 | apply VL_callq en50); (repeat (first | exact args_nil | (apply args_cons; exact rfl))); exact rfl; exact fun _ hw => (hchk hin.cons.cons hw)) | ((first | apply VL_callt en51 | apply VL_callq en51); (repeat (first | exact args_nil | (apply args_cons; exact rfl))); exact rfl; exact fun _ hw => (fcheckAll_spec n.nodes l hlf hrf.cons.cons hw)) | ((first | apply VL_callt en52 | apply VL_callq en52); (repeat (first | exact args_nil | (apply args_cons; exact rfl))); exact rfl; exact fun _ hw => (hsz hw)) | ((first | apply VL_callt en53 | apply VL_callq en53); (repeat (first | exact args_nil | (apply args_cons; exact rfl))); exact rfl; exact fun _ hw => (hcf _ (by (focus repeat (first | with_reducible exact List.mem_cons_self | with_reducible apply List.mem_cons_of_mem | assumption))) hrf.cons.cons hw)) | ((first | apply VL_callt en55 | apply VL_callq en55); (repeat (first | exact args_nil | (apply args_cons; exact rfl))); exact rfl; exact fun _ hw => (hcc hin.cons.cons hrf.cons.cons hr.cons.cons hw)) | apply (zs1 ?_) | apply (zs2 ?_) | (apply zg2; refine zs6 ?_) | (apply zg3; first | refine zs7 ?_ | refine zs8 ?_) | (apply zg4; refine zs9 ?_) | apply (zs13 ?_) | (apply zg8; (refine zs16 ?_ ?_ <;> intro _ <;> try (exfalso; omega))) | (apply (zs19 ?_ ?_) <;> intro _ <;> try (exfalso; omega)) | (apply zg20; refine zs47 ?_) | (apply zg23; (refine zs52 ?_; intro _)) | apply (zs65 ?_) | apply (zs68 ?_) | apply (zs69 ?_) | apply (zs70 ?_) | (apply zg27; refine zs72 ?_) | apply (zs73 ?_) | apply (zs76 ?_) | apply (zs79 ?_) | (apply zg29; (apply VL_makeFunc; (repeat (first | exact args_nil | (apply args_cons; exact rfl))) ; exact rfl)) | fail)
  first | (rename_i gn gs; guard_hyp gn : Nat; guard_hyp gs : Nat) | (rename_i gn gs _; guard_hyp gn : Nat; guard_hyp gs : Nat) | (rename_i gn gs _ _; guard_hyp gn : Nat; guard_hyp gs : Nat) | (rename_i gn gs _ _ _; guard_hyp gn : Nat; guard_hyp gs : Nat) | (rename_i gn gs _ _ _ _; guard_hyp gn : Nat; guard_hyp gs : Nat) | (rename_i gn gs _ _ _ _ _; guard_hyp gn : Nat; guard_hyp gs : Nat) | (rename_i gn gs _ _ _ _ _ _; guard_hyp gn : Nat; guard_hyp gs : Nat)
  refine VC_loop1 (fun (k : Nat) => [(53, .int .i64 k), (52, .int .i64 s.cells.length), (51, .slice s.A s.cells.length s.cap), (3, .pointer (some ⟨gn, 0, none⟩)), (5, .pointer (some ⟨gs, 0, none⟩))]) (fun _ => blk gs (.cells #[.int .i64 s.len, .int .i64 s.off, .slice s.A s.cells.length s.cap] 30 (0, 0)) :: netN gn n :: H) (fun k => k ≤ s.cells.length ∧ ∀ j, j < k → twiceB s.sch j = false) (fun k => s.cells.length - k) 0 ⟨Nat.zero_le _, fun j hj => absurd hj (Nat.not_lt_zero _)⟩ ?_ (fun w hw => hw) ?_
  · (repeat (first | exact sub_nil _ | (apply sub_cons; first | exact rfl | exact congrArg (fun z : Int => some (Value.int .i64 z)) (by omega))))
  rintro k ⟨hk, hall⟩ K hK
  have hF : twiceF s.sch = firstF (fun i => if twiceB s.sch i = true then 6 else 0) s.cells.length 0 := rfl
  unfold netN
  by_cases hlt : k < s.cells.length
  · have htc := fun {H' : List HP} {w : World} (hr : Rd B w0 H' s.A (s.cells.flatMap celF)) (hw : St B w0 H' w) => twice_spec s k hlt (by omega) hr hw
    cases htw : twiceB s.sch k with
    | true =>
      rw [htw] at htc
      have hT : twiceF s.sch = ((k : Int), 6) := by
        rw [hF, firstF_at (i := k) (fun j _ hj => by simp only [hall j hj]; rfl) (Nat.zero_le _) (by omega) (by simp only [htw]; decide)]
        simp [htw]
      rw [hT, if_pos (show (6 : Int) ≠ 0 by decide)]
      repeat' (first | ((first | apply VL_callt en56 | apply VL_callq en56); (repeat (first | exact args_nil | (apply args_cons; exact rfl))); exact rfl; exact fun _ hw => (htc hr.cons.cons hw)) | apply (zs1 ?_) | apply (zs2 ?_) | (apply zg3; refine zs8 ?_) | (apply (zs17 ?_ ?_) <;> intro _ <;> try (exfalso; omega)) | apply (zs65 ?_) | apply (zs68 ?_) | apply (zs69 ?_) | apply (zs70 ?_) | (apply zg27; refine zs71 ?_) | apply (zs73 ?_) | apply (zs74 ?_) | apply (zs76 ?_) | apply (zs77 ?_) | apply (zs78 ?_) | fail)
      apply VQ_st H
      · (intro w hw; refine hw.perm ?_; focus repeat (first | with_reducible exact Perm.refl _ | (with_reducible apply perm_take; focus ((repeat (first | with_reducible exact rem_here | with_reducible apply rem_there)); done)) | with_reducible apply Perm.dropK))
      apply VQ_ret2; exact rfl; exact rfl; exact rfl; exact ⟨rfl, rfl⟩
    | false =>
      rw [htw] at htc
      repeat' (first | ((first | apply VL_callt en56 | apply VL_callq en56); (repeat (first | exact args_nil | (apply args_cons; exact rfl))); exact rfl; exact fun _ hw => (htc hr.cons.cons hw)) | apply (zs1 ?_) | apply (zs2 ?_) | (apply zg3; refine zs8 ?_) | (apply (zs17 ?_ ?_) <;> intro _ <;> try (exfalso; omega)) | (apply zg13; refine zs30 ?_) | apply (zs65 ?_) | apply (zs68 ?_) | apply (zs69 ?_) | apply (zs70 ?_) | (apply zg27; first | refine zs71 ?_ | refine zs72 ?_) | apply (zs73 ?_) | apply (zs76 ?_) | apply (zs79 ?_) | fail)
      apply hK (k + 1)
      · refine ⟨by omega, fun j hj => ?_⟩
        by_cases e : j = k
        · rw [e]; exact htw
        · exact hall j (by omega)
      · omega
      · (repeat (first | exact sub_nil _ | (apply sub_cons; first | exact rfl | exact congrArg (fun z : Int => some (Value.int .i64 z)) (by omega))))
      · unfold netN
        (intro w hw; refine hw.perm ?_; focus repeat (first | with_reducible exact Perm.refl _ | (with_reducible apply perm_take; focus ((repeat (first | with_reducible exact rem_here | with_reducible apply rem_there)); done)) | with_reducible apply Perm.dropK))
  have hT : (twiceF s.sch).2 = 0 := by
    rw [hF, firstF_ok]
    intro j _ hj
    simp only [hall j (by omega)]
    rfl
  rw [if_neg (fun h => h hT)]
  clear hK
  repeat' (first | apply (zs1 ?_) | (apply zg2; refine zs6 ?_) | (apply zg3; refine zs7 ?_) | (apply zg4; refine zs9 ?_) | (apply (zs17 ?_ ?_) <;> intro _ <;> try (exfalso; omega)) | apply (zs65 ?_) | apply (zs68 ?_) | apply (zs69 ?_) | apply (zs70 ?_) | (apply zg27; refine zs72 ?_) | apply (zs73 ?_) | apply (zs75 ?_) | apply (zs80 ?_) | apply (zs81 ?_) | fail)
  refine VC_loop1 (fun (k : Nat) => [(64, .int .i64 k), (63, .int .i64 s.cells.length), (62, .slice s.A s.cells.length s.cap), (3, .pointer (some ⟨gn, 0, none⟩)), (5, .pointer (some ⟨gs, 0, none⟩))]) (fun _ => blk gs (.cells #[.int .i64 s.len, .int .i64 s.off, .slice s.A s.cells.length s.cap] 30 (0, 0)) :: netN gn n :: H) (fun k => k ≤ s.cells.length ∧ ∀ j, j < k → disturbB n.net s.sch j = false) (fun k => s.cells.length - k) 0 ⟨Nat.zero_le _, fun j hj => absurd hj (Nat.not_lt_zero _)⟩ ?_ (fun w hw => hw) ?_
  · (repeat (first | exact sub_nil _ | (apply sub_cons; first | exact rfl | exact congrArg (fun z : Int => some (Value.int .i64 z)) (by omega))))
  rintro k ⟨hk, hall⟩ K2 hK
  have hF : distF n.net s.sch = firstF (fun i => if disturbB n.net s.sch i = true then 16 else 0) s.cells.length 0 := rfl
  unfold netN
  by_cases hlt : k < s.cells.length
  · have htc := fun {H' : List HP} {w : World} (hin : n.In B w0 H') (hr : Rd B w0 H' s.A (s.cells.flatMap celF)) (hw : St B w0 H' w) => disturbed_spec n s k h1 hgood hlt (by omega) hin hr hw
    cases htw : disturbB n.net s.sch k with
    | true =>
      rw [htw] at htc
      have hT : distF n.net s.sch = ((k : Int), 16) := by
        rw [hF, firstF_at (i := k) (fun j _ hj => by simp only [hall j hj]; rfl) (Nat.zero_le _) (by omega) (by simp only [htw]; decide)]
        simp [htw]
      rw [hT]
      repeat' (first | ((first | apply VL_callt en57 | apply VL_callq en57); (repeat (first | exact args_nil | (apply args_cons; exact rfl))); exact rfl; exact fun _ hw => (htc hin.cons.cons hr.cons.cons hw)) | apply (zs1 ?_) | apply (zs2 ?_) | (apply zg3; refine zs8 ?_) | (apply (zs17 ?_ ?_) <;> intro _ <;> try (exfalso; omega)) | apply (zs65 ?_) | apply (zs68 ?_) | apply (zs69 ?_) | apply (zs70 ?_) | (apply zg27; refine zs71 ?_) | apply (zs73 ?_) | apply (zs74 ?_) | apply (zs76 ?_) | apply (zs77 ?_) | apply (zs78 ?_) | fail)
      apply VQ_st H
      · (intro w hw; refine hw.perm ?_; focus repeat (first | with_reducible exact Perm.refl _ | (with_reducible apply perm_take; focus ((repeat (first | with_reducible exact rem_here | with_reducible apply rem_there)); done)) | with_reducible apply Perm.dropK))
      apply VQ_ret2; exact rfl; exact rfl; exact rfl; exact ⟨rfl, rfl⟩
    | false =>
      rw [htw] at htc
      repeat' (first | ((first | apply VL_callt en57 | apply VL_callq en57); (repeat (first | exact args_nil | (apply args_cons; exact rfl))); exact rfl; exact fun _ hw => (htc hin.cons.cons hr.cons.cons hw)) | apply (zs1 ?_) | apply (zs2 ?_) | (apply zg3; refine zs8 ?_) | (apply (zs17 ?_ ?_) <;> intro _ <;> try (exfalso; omega)) | (apply zg13; refine zs30 ?_) | apply (zs65 ?_) | apply (zs68 ?_) | apply (zs69 ?_) | apply (zs70 ?_) | (apply zg27; first | refine zs71 ?_ | refine zs72 ?_) | apply (zs73 ?_) | apply (zs76 ?_) | apply (zs79 ?_) | fail)
      apply hK (k + 1)
      · refine ⟨by omega, fun j hj => ?_⟩
        by_cases e : j = k
        · rw [e]; exact htw
        · exact hall j (by omega)
      · omega
      · (repeat (first | exact sub_nil _ | (apply sub_cons; first | exact rfl | exact congrArg (fun z : Int => some (Value.int .i64 z)) (by omega))))
      · unfold netN
        (intro w hw; refine hw.perm ?_; focus repeat (first | with_reducible exact Perm.refl _ | (with_reducible apply perm_take; focus ((repeat (first | with_reducible exact rem_here | with_reducible apply rem_there)); done)) | with_reducible apply Perm.dropK))
  · have hT : distF n.net s.sch = (-1, 0) := by
      rw [hF]
      exact firstF_no fun j _ hj => by simp only [hall j (by omega)]; rfl
    rw [hT]
    repeat' (first | apply (zs2 ?_) | (apply (zs17 ?_ ?_) <;> intro _ <;> try (exfalso; omega)) | apply (zs65 ?_) | apply (zs68 ?_) | apply (zs69 ?_) | apply (zs70 ?_) | (apply zg27; refine zs72 ?_) | apply (zs74 ?_) | apply (zs75 ?_) | apply (zs80 ?_) | apply (zs81 ?_) | fail)
    apply VQ_st H
    · (intro w hw; refine hw.perm ?_; focus repeat (first | with_reducible exact Perm.refl _ | (with_reducible apply perm_take; focus ((repeat (first | with_reducible exact rem_here | with_reducible apply rem_there)); done)) | with_reducible apply Perm.dropK))
    apply VQ_ret2; exact rfl; exact rfl; exact rfl; exact ⟨rfl, rfl⟩
end Go.Proofs.YtmalhidldgfeoaaGreatDoor

/- Walks: the bound on networks. -/
namespace Go.Proofs.YtmalhidldgfeoaaGreatDoor
open Go.RowKit Go.Eng Go.Nw

def fewN35 (n : Net) : Bool := decide ((∀ r ∈ n.power, r.length ≤ 40) ∧ n.power.length ≤ 8 ∧ n.links.length ≤ 60 ∧ n.margin.length ≤ 60)
theorem few31_spec (n : NetM) {B : Nat} {w0 : World} {H : List HP} {w : World} (hin : n.In B w0 H) (hw : St B w0 H w) :
    Calls Tryz.prog 12 [n.val].toArray w (Post B w0 fun v K => v = .bool (fewN35 n.net) ∧ K = H) := by
  refine Calls_of_VC Tryz.func12 Tryz.ntmps12 rfl rfl hw ?_
  obtain ⟨hpw, hrw, hlk, hmg, hs1, hs2, hs3, hs4⟩ := id hin
  have e1 : (∀ r ∈ n.net.power, r.length ≤ 40) ↔ ∀ r ∈ n.rows, r.xs.length ≤ 40 := by simp [NetM.net]
  have e2 : n.net.power.length = n.rows.length := by simp [NetM.net]
  have e3 : n.net.links = n.links := rfl
  have e4 : n.net.margin = n.margin := rfl
  unfold fewN35
  rw [e2, e3, e4]
  (apply VC_seq; apply VC_region; apply VL_box_agg; exact rfl; exact rfl; intro g)
  repeat' (first | apply (zs2 ?_) | apply (zs65 ?_) | apply (zs68 ?_) | apply (zs69 ?_) | apply (zs70 ?_) | apply (zs73 ?_) | fail)
  refine VC_loop1 (fun (a : Nat) => [(3, .int .i64 a), (1, .pointer (some ⟨g, 0, none⟩))]) (fun _ => netN g n :: H) (fun a => a ≤ n.rows.length ∧ ∀ j r, j < a → n.rows[j]? = some r → r.xs.length ≤ 40) (fun a => n.rows.length - a) 0 ⟨Nat.zero_le _, by intro j r hj; omega⟩ ?_ (fun w hw => hw) ?_
  · (repeat (first | exact sub_nil _ | (apply sub_cons; first | exact rfl | exact congrArg (fun z : Int => some (Value.int .i64 z)) (by omega))))
  rintro a ⟨ha, hai⟩ K hK
  unfold netN
  by_cases hlt : a < n.rows.length
  · obtain ⟨r, hr⟩ : ∃ r, n.rows[a]? = some r := ⟨_, List.getElem?_eq_getElem hlt⟩
    have hs2r := hs2 r (List.mem_of_getElem? hr)
    repeat' (first | apply (zs1 ?_) | apply (zs2 ?_) | (apply zg2; refine zs6 ?_) | (apply zg3; first | refine zs7 ?_ | refine zs60 ?_) | (apply zg4; refine zs9 ?_) | (apply zg5; refine zs57 ?_) | (apply (zs17 ?_ ?_) <;> intro _ <;> try (exfalso; omega)) | (apply (zs19 ?_ ?_) <;> intro _ <;> try (exfalso; omega)) | (apply zg13; refine zs30 ?_) | apply (zs65 ?_) | apply (zs68 ?_) | apply (zs69 ?_) | apply (zs70 ?_) | (apply zg27; first | refine zs71 ?_ | refine zs72 ?_) | apply (zs73 ?_) | apply (zs74 ?_) | apply (zs76 ?_) | apply (zs77 ?_) | apply (zs78 ?_) | apply (zs79 ?_) | fail)
    · rename_i h
      apply VQ_tail; apply VQ_ret1; exact rfl; exact rfl
      exact ⟨by rw [decide_eq_false fun hc => by have := e1.1 hc.1 r (List.mem_of_getElem? hr); omega], rfl⟩
    · rename_i h
      apply hK (a + 1)
      · refine ⟨by omega, fun j q hj hq => ?_⟩
        by_cases e : j = a
        · subst e; rw [hr] at hq; rw [← Option.some.inj hq]; omega
        · exact hai j q (by omega) hq
      · omega
      · (repeat (first | exact sub_nil _ | (apply sub_cons; first | exact rfl | exact congrArg (fun z : Int => some (Value.int .i64 z)) (by omega))))
      · exact fun w hw => hw
  obtain rfl : a = n.rows.length := by omega
  have hall : ∀ r ∈ n.rows, r.xs.length ≤ 40 := fun r hr => by
    obtain ⟨j, hj⟩ := List.getElem?_of_mem hr
    exact hai j r (List.getElem?_eq_some_iff.1 hj).1 hj
  repeat' (first | apply (zs1 ?_) | apply (zs2 ?_) | (apply zg1; first | refine zs3 ?_ | refine zs4 ?_) | (apply zg2; refine zs6 ?_) | (apply zg3; refine zs7 ?_) | (apply zg4; refine zs9 ?_) | (apply zg6; first | refine zs11 ?_ | refine zs12 ?_) | (apply (zs17 ?_ ?_) <;> intro _ <;> try (exfalso; omega)) | (apply (zs18 ?_ ?_) <;> intro _ <;> try (exfalso; omega)) | apply (zs65 ?_) | apply (zs68 ?_) | apply (zs69 ?_) | apply (zs70 ?_) | (apply zg27; refine zs72 ?_) | apply (zs74 ?_) | apply (zs75 ?_) | apply (zs80 ?_) | apply (zs81 ?_) | fail)
  · apply VQ_tail; apply VQ_ret1; exact rfl; exact rfl
    exact ⟨by rw [decide_eq_true ⟨e1.2 hall, by omega, by omega, by omega⟩], rfl⟩
  all_goals (apply VQ_tail; apply VQ_ret1; exact rfl; exact rfl; exact ⟨by rw [decide_eq_false fun hc => by omega], rfl⟩)
end Go.Proofs.YtmalhidldgfeoaaGreatDoor
