/- The law ScheduleReturns returns true at every input, and its arguments read behind the call as they read before: the statement Rows.ScheduleReturnsCardSaid. Condition: the listed package-level variables start as the program's text lays them, to which the card ties them. -/
import Derived.Lib.Builder
import Derived.Lib.AtoiAllCases
import Derived.ProofKit
import Derived.Below
import Derived.ChangeSame
import Derived.Carry
import Derived.Test.YtnkpfpgmbpnbgaaGreatDoorRows
import Derived.Lib.LaidU8
import Derived.LaidMore
import Derived.Deep.DeepLaidRun
import Derived.Stop.Joined
import Derived.Deep.Slices
import Derived.Lib.SmallJoins
import Derived.OpenShut
import Derived.Test.YtnkpfpgmbpnbgaaGreatDoorCards
import Derived.Test.YtnkpfpgmbpnbgaaGreatDoorTie
import Derived.SevenTiedAt
import Derived.Test.YtnkpfpgmbpnbgaaGreatDoorQ2

/- Walks: strings.Builder; a line of a text; Print. -/
namespace Go.Proofs.YtnkpfpgmbpnbgaaGreatDoor
open Go.RowKit Go.Eng Go.Nw

section
variable {m : Eng.Mode} {n : Shp} {B d : Nat} {w0 : World} {ops : Array Oper} {Q : Exit → Act → World → Prop} {rest : List Oper} {env : Env} {H : List HP} {ty : TypeId} {pos : String} {after : Array Edge} {x y : Operand}
theorem VL_cat (a b : List UInt8) (hx : evo env x = some (strV a)) (hy : evo env y = some (strV b)) (hn : Nat.ble (d + 1) n.k = true) (hb : a.length + b.length ≤ 1000000) (h : VL Tryz.prog m n B w0 ops Q rest ((d, strV (a ++ b)) :: env) H) :
    VL Tryz.prog m n B w0 ops Q (⟨some d, .binOp .add 9 x y 9, ty, pos, after, none⟩ :: rest) env H := by
  have hs : ∀ l : List UInt8, (⟨l.toArray⟩ : ByteArray).size = l.length := fun l => by simp [ByteArray.size]
  refine VL_scat hx hy hn (by rw [hs, hs]; omega) ?_
  have e : (⟨a.toArray⟩ : ByteArray) ++ ⟨b.toArray⟩ = ⟨(a ++ b).toArray⟩ := by
    apply ByteArray.ext
    simp
  rw [e]
  exact h
theorem VL_toUns {g : Nat} {cs : Array Value} {fr : Nat × Nat} (hx : evo env x = some (.pointer (some ⟨g, 0, none⟩))) (hm : blk g (.cells cs 83 fr) ∈ H) (hc : cs.size = 2) (hn : Nat.ble (d + 1) n.k = true)
    (h : VL Tryz.prog none n B w0 ops Q rest ((d, .pointer (some ⟨g, 0, none⟩)) :: env) H) : VL Tryz.prog none n B w0 ops Q (⟨some d, .convert 80 138 x, ty, pos, after, none⟩ :: rest) env H := by
  refine VL_opE (fun v K' => v = .pointer (some ⟨g, 0, none⟩) ∧ K' = H) rfl rfl hn (fun a w ha hw => ?_) (by rintro _ _ ⟨rfl, rfl⟩; exact h)
  have hb := (hw.blk hm).1
  obtain ⟨j, hj, hjs⟩ := Option.map_eq_some_iff.1 (show (Tryz.prog.info? 83).map (·.size) = some 2 by kernel_rfl)
  have hr := Lib.run_to_unsafe (P := Tryz.prog) w ⟨g, 0, none⟩ Tryz.underlying80 Tryz.underlying138 hj (by rw [hjs]; decide) (show w.shape? g = some (83, 2) by simp [World.shape?, hb, hc]) (Nat.zero_lt_succ 1)
  exact ⟨_, H, w, by simp [execOp, ha.eval hx, hr], hw, rfl, rfl⟩
theorem VL_ofUns {g : Nat} {cs : Array Value} {fr : Nat × Nat} (hx : evo env x = some (.pointer (some ⟨g, 0, none⟩))) (hm : blk g (.cells cs 83 fr) ∈ H) (hc : cs.size = 2) (hn : Nat.ble (d + 1) n.k = true)
    (h : VL Tryz.prog none n B w0 ops Q rest ((d, .pointer (some ⟨g, 0, none⟩)) :: env) H) : VL Tryz.prog none n B w0 ops Q (⟨some d, .convert 138 80 x, ty, pos, after, none⟩ :: rest) env H := by
  refine VL_opE (fun v K' => v = .pointer (some ⟨g, 0, none⟩) ∧ K' = H) rfl rfl hn (fun a w ha hw => ?_) (by rintro _ _ ⟨rfl, rfl⟩; exact h)
  have hb := (hw.blk hm).1
  obtain ⟨j, hj, hjs⟩ := Option.map_eq_some_iff.1 (show (Tryz.prog.info? 83).map (·.size) = some 2 by kernel_rfl)
  have hr := Lib.run_from_unsafe (P := Tryz.prog) w ⟨g, 0, none⟩ Tryz.underlying138 Tryz.underlying80 hj (show w.shape? g = some (83, 2) by simp [World.shape?, hb, hc]) (by kernel_rfl)
  exact ⟨_, H, w, by simp [execOp, ha.eval hx, hr], hw, rfl, rfl⟩
theorem VL_noEsc {v : Value} {tys : Array TypeId} (hx : evo env x = some v) (hn : Nat.ble (d + 1) n.k = true) (h : VL Tryz.prog none n B w0 ops Q rest ((d, v) :: env) H) :
    VL Tryz.prog none n B w0 ops Q (⟨some d, .call ⟨.value (.func 132), #[x], tys⟩, ty, pos, after, none⟩ :: rest) env H := by
  refine VL_opE (fun u K' => u = v ∧ K' = H) rfl rfl hn (fun a w ha hw => ⟨v, H, w, ?_, hw, rfl, rfl⟩) (by rintro _ _ ⟨rfl, rfl⟩; exact h)
  have hr := run_callFunc_extern (P := Tryz.prog) Tryz.func132 (by kernel_rfl) (by kernel_rfl) (by kernel_rfl) (e := Extern.AbiNoEscape.same) (by kernel_rfl) #[v] w
  have he : a.eval (.func 132) = .func (.func 132) #[] #[] := rfl
  simp [execOp, resolve, invoke, ha.eval hx, he, Deferred.ofValue, hr, Lib.run_noEscape, Result.andThen]
theorem VL_pneqs {g : Addr} (hx : evo env x = some (.pointer (some g))) (hy : evo env y = some (.pointer (some g))) (hn : Nat.ble (d + 1) n.k = true) (h : VL Tryz.prog m n B w0 ops Q rest ((d, .bool false) :: env) H) :
    VL Tryz.prog m n B w0 ops Q (⟨some d, .binOp .neq 80 x y 80, ty, pos, after, none⟩ :: rest) env H := by
  obtain ⟨j, hj, hjs⟩ := Option.map_eq_some_iff.1 (show (Tryz.prog.info? 83).map (·.size) = some 2 by kernel_rfl)
  exact VL_bin hx hy hn (fun _ => rfl) (fun w => Lib.run_neq_ptr_same w g Tryz.underlying80 hj) h
end
set_option maxRecDepth 10000 in
theorem copyCheck_spec (b : Nat) (p v : Value) (hp : p = .pointer none ∨ p = .pointer (some ⟨b, 0, none⟩)) {B : Nat} {w0 : World} {H : List HP} {w : World} (hw : St B w0 (blk b (.cells #[p, v] 83 (0, 0)) :: H) w) :
    Calls Tryz.prog 95 [.pointer (some ⟨b, 0, none⟩)].toArray w (Post B w0 fun u K => u = .tuple #[] ∧ K = blk b (.cells #[.pointer (some ⟨b, 0, none⟩), v] 83 (0, 0)) :: H) := by
  refine Calls_of_VC Tryz.func95 Tryz.ntmps95 rfl rfl hw ?_
  rcases hp with rfl | rfl
  · skip
    repeat' (first | (apply VL_peql0; exact rfl; exact rfl; kernel_rfl) | (apply VL_toUns; exact rfl; (focus repeat (first | with_reducible exact List.mem_cons_self | with_reducible apply List.mem_cons_of_mem | assumption)); exact rfl; exact rfl) | (apply VL_ofUns; exact rfl; (focus repeat (first | with_reducible exact List.mem_cons_self | with_reducible apply List.mem_cons_of_mem | assumption)); exact rfl; exact rfl) | (apply VL_noEsc; exact rfl; exact rfl) | (apply VL_pneqs; exact rfl; exact rfl; exact rfl) | apply (zs1 ?_) | apply (zs5 ?_) | (apply zg2; refine zs6 ?_) | (apply zg3; refine zs7 ?_) | (apply zg22; refine zs50 ?_) | apply (zs65 ?_) | apply (zs68 ?_) | apply (zs69 ?_) | apply (zs70 ?_) | (apply zg27; refine zs71 ?_) | fail)
    apply VQ_end0; exact rfl; exact ⟨rfl, rfl⟩
  · skip
    repeat' (first | (apply VL_peql0; exact rfl; exact rfl; kernel_rfl) | (apply VL_pneqs; exact rfl; exact rfl; exact rfl) | apply (zs1 ?_) | apply (zs5 ?_) | (apply zg2; refine zs6 ?_) | (apply zg3; refine zs7 ?_) | apply (zs65 ?_) | apply (zs68 ?_) | apply (zs69 ?_) | apply (zs70 ?_) | (apply zg27; refine zs72 ?_) | apply (zs76 ?_) | fail)
    apply VQ_end0; exact rfl; exact ⟨rfl, rfl⟩
def bdP (b : Nat) (p : Value) (A : Option Addr) (cap : Nat) (l : List UInt8) (H : List HP) : List HP := blk b (.cells #[p, .slice A l.length cap] 83 (0, 0)) :: sl 5 1 A l.length cap (Lib.byteCells l) :: H
set_option maxRecDepth 10000 in
theorem write_spec (b : Nat) (p : Value) (hp : p = .pointer none ∨ p = .pointer (some ⟨b, 0, none⟩)) (A : Option Addr) (cap : Nat) (l s : List UInt8) (hl : l.length + s.length ≤ 1000000) {B : Nat} {w0 : World} {H : List HP} {w : World} (hw : St B w0 (bdP b p A cap l H) w) :
    Calls Tryz.prog 54 [.pointer (some ⟨b, 0, none⟩), strV s].toArray w (Post B w0 fun u K => u = .tuple #[.int .i64 s.length, .nilIface] ∧ ∃ A' cap', K = bdP b (.pointer (some ⟨b, 0, none⟩)) A' cap' (l ++ s) H) := by
  have hs : (⟨s.toArray⟩ : ByteArray).size = s.length := by simp [ByteArray.size]
  refine Calls_of_VC Tryz.func54 Tryz.ntmps54 rfl rfl hw ?_
  unfold bdP
  repeat' (first | apply (zs1 ?_) | apply (zs2 ?_) | apply (zs65 ?_) | apply (zs68 ?_) | apply (zs69 ?_) | apply (zs70 ?_) | fail)
  apply VL_call _ en95
  (repeat (first | exact args_nil | (apply args_cons; exact rfl)))
  exact rfl
  exact fun _ hw => (copyCheck_spec b p _ hp (hw))
  rintro _ _ ⟨rfl, rfl⟩
  repeat' (first | (apply VL_appendStr T (e := 5); exact rfl; exact rfl; exact rfl; kernel_rfl; exact rfl; exact rfl; (intro _ _; (repeat (first | with_reducible exact Upd.here _ | with_reducible apply Upd.there))); (rw [hs]; omega); intro A' cap') | apply (zs1 ?_) | apply (zs2 ?_) | apply (zs5 ?_) | (apply zg2; refine zs6 ?_) | (apply zg3; refine zs7 ?_) | (apply zg4; refine zs14 ?_) | (apply zg22; refine zs50 ?_) | apply (zs65 ?_) | apply (zs68 ?_) | apply (zs69 ?_) | apply (zs70 ?_) | apply (zs74 ?_) | fail)
  have e1 : Lib.byteCells l ++ Lib.strCells ⟨s.toArray⟩ = Lib.byteCells (l ++ s) := by
    unfold Lib.byteCells Lib.strCells
    rw [List.map_append]
  have e2 : l.length + (⟨s.toArray⟩ : ByteArray).size = (l ++ s).length := by rw [hs, List.length_append]
  apply VQ_ret2; exact rfl; exact rfl; exact rfl
  refine ⟨by rw [hs], A', cap', ?_⟩
  rw [e1, e2]
theorem bdP_is {b : Nat} {p : Value} {A : Option Addr} {cap : Nat} {l : List UInt8} {B : Nat} {w0 w : World} {H : List HP} (hp : p = .pointer none ∨ p = .pointer (some ⟨b, 0, none⟩)) (hw : St B w0 (bdP b p A cap l H) w) : Lib.IsBuilder 83 5 B b (Lib.byteCells l) w := by
  obtain ⟨_, _, S1, S2, k1, k2, k3, ⟨k4, k5⟩, S3, S4, j1, j2, j3, ⟨⟨j4, j5⟩, j6⟩, j7⟩ := hw
  have hl : (Lib.byteCells l).length = l.length := by unfold Lib.byteCells; rw [List.length_map]
  have hat : Lib.BuilderAt 83 5 B b p (Lib.byteCells l) w := by
    refine ⟨(k1 b k4).1, .slice A l.length cap, k5, ⟨by rw [hl]; omega, ?_⟩, ?_⟩
    · rw [hl]
      rcases j5 with j5 | ⟨g, c, cur, e1, e2, e3⟩
      · exact .inl j5
      · refine .inr ⟨g, c, cur, e1, ?_, e3⟩
        injection e1 with e1
        exact (k2 g (j1 g (j6 _ e1))).1
    · intro e
      cases A with
      | none => cases e
      | some a =>
        simp only [Value.ownBlock, Option.some.injEq] at e
        have := j6 a rfl
        rw [e] at this
        exact k3 b k4 (j1 b this)
  rcases hp with rfl | rfl
  · exact .inl hat
  · exact .inr hat
theorem string_spec {b : Nat} {p : Value} {A : Option Addr} {cap : Nat} {l : List UInt8} {B : Nat} {w0 w : World} {H : List HP} (hp : p = .pointer none ∨ p = .pointer (some ⟨b, 0, none⟩)) (hw : St B w0 (bdP b p A cap l H) w) :
    Calls Tryz.prog 57 [.pointer (some ⟨b, 0, none⟩)].toArray w (Post B w0 fun v K => v = strV l ∧ K = []) := by
  refine (Tryz.Builder_String_any B b l w (bdP_is hp hw) hw.le).mono ?_
  rintro e w' ⟨rfl, hb⟩
  exact ⟨_, [], rfl, ⟨hw.below.trans hb, Nat.le_trans hw.le hb.size, trivial⟩, rfl, rfl⟩
theorem itoa_len {n : Int} (h : 0 ≤ n ∧ n < 10000) : (Lib.itoa n).length ≤ 4 := by
  rw [itoa_nat h.1]; exact dec_len (by omega)
theorem body_len {w : List UInt8} : ∀ {l : List Int}, (∀ n ∈ l, 0 ≤ n ∧ n < 10000) → (bodyB w l).length ≤ w.length + 5 * l.length
  | [], _ => by simp [bodyB]
  | n :: l, h => by
    have ih := body_len (w := w) (l := l) fun m hm => h m (List.mem_cons_of_mem _ hm)
    have h1 := itoa_len (h n List.mem_cons_self)
    unfold bodyB at ih ⊢
    simp only [List.flatMap_cons, List.length_append, List.length_cons] at ih ⊢
    omega
theorem body_snoc (w : List UInt8) (l : List Int) (n : Int) : bodyB w (l ++ [n]) = bodyB w l ++ ([32] ++ Lib.itoa n) := by
  unfold bodyB; simp
set_option maxRecDepth 10000 in
theorem line_spec (word : List UInt8) (l : List Int) (h : ∀ n ∈ l, 0 ≤ n ∧ n < 10000) (h5 : l.length ≤ 100) (hwd : word.length ≤ 100) {A : Option Addr} {cap B : Nat} {w0 : World} {H : List HP} {w : World} (ht : TabsB B w0) (hr : Rd B w0 H A (l.flatMap numF)) (hw : St B w0 H w) :
    Calls Tryz.prog 55 [strV word, .slice A l.length cap].toArray w (Post B w0 fun v K => v = strV (lineB word l) ∧ K = H) := by
  refine Calls_of_VC Tryz.func55 Tryz.ntmps55 rfl rfl hw ?_
  repeat' (first | apply (zs1 ?_) | apply (zs2 ?_) | (apply zg4; refine zs9 ?_) | apply (zs65 ?_) | apply (zs68 ?_) | apply (zs69 ?_) | apply (zs70 ?_) | apply (zs73 ?_) | fail)
  refine VC_loop1 (fun (i : Nat) => [(9, .int .i64 i), (8, .int .i64 l.length), (7, .slice A l.length cap), (0, strV (bodyB word (l.take i)))]) (fun _ => H) (fun i => i ≤ l.length) (fun i => l.length - i) 0 (Nat.zero_le _) ?_ (fun w hw => hw) ?_
  · have e0 : bodyB word (l.take 0) = word := by simp [bodyB]
    rw [e0]
    (repeat (first | exact sub_nil _ | (apply sub_cons; first | exact rfl | exact congrArg (fun z : Int => some (Value.int .i64 z)) (by omega))))
  intro i hi K hK
  have hbl := body_len (w := word) (l := l.take i) fun n hn => h n (List.mem_of_mem_take hn)
  have hlt0 : (l.take i).length ≤ 100 := by rw [List.length_take]; omega
  by_cases hlt : i < l.length
  · obtain ⟨n, hn⟩ : ∃ n, l[i]? = some n := ⟨_, List.getElem?_eq_getElem hlt⟩
    have hnb := h n (List.mem_of_getElem? hn)
    have hil := itoa_len hnb
    repeat' (first | ((first | apply VL_callt en96 | apply VL_callq en96); (repeat (first | exact args_nil | (apply args_cons; exact rfl))); exact rfl; exact fun _ hw => (itoa_spec n (by omega) (by omega) ht hw)) | (apply VL_cat [32] (Lib.itoa n); exact rfl; exact rfl; exact rfl; (show 1 + _ ≤ _; omega)) | (apply VL_cat (bodyB word (l.take i)) ([32] ++ Lib.itoa n); exact rfl; exact rfl; exact rfl; (rw [List.length_append]; show _ + (1 + _) ≤ _; omega)) | apply (zs1 ?_) | apply (zs2 ?_) | (apply zg3; refine zs60 ?_) | (apply zg5; refine zs57 ?_) | (apply (zs17 ?_ ?_) <;> intro _ <;> try (exfalso; omega)) | (apply zg13; refine zs30 ?_) | apply (zs65 ?_) | apply (zs68 ?_) | apply (zs69 ?_) | apply (zs70 ?_) | (apply zg27; refine zs71 ?_) | apply (zs73 ?_) | apply (zs76 ?_) | apply (zs79 ?_) | fail)
    apply hK (i + 1)
    · show i + 1 ≤ l.length
      omega
    · omega
    · rw [List.take_add_one, hn, Option.toList_some, body_snoc]
      (repeat (first | exact sub_nil _ | (apply sub_cons; first | exact rfl | exact congrArg (fun z : Int => some (Value.int .i64 z)) (by omega))))
    · exact fun w hw => hw
  · skip
    repeat' (first | (apply VL_cat (bodyB word (l.take i)) [10]; exact rfl; exact rfl; exact rfl; (show _ + 1 ≤ _; omega)) | apply (zs1 ?_) | apply (zs2 ?_) | (apply (zs17 ?_ ?_) <;> intro _ <;> try (exfalso; omega)) | apply (zs65 ?_) | apply (zs68 ?_) | apply (zs69 ?_) | apply (zs70 ?_) | (apply zg27; refine zs72 ?_) | apply (zs74 ?_) | apply (zs75 ?_) | apply (zs80 ?_) | apply (zs81 ?_) | fail)
    apply VQ_ret1; exact rfl; exact rfl
    rw [show i = l.length by omega, List.take_length]
    exact ⟨rfl, rfl⟩

def textTo (s : Sch) (i : Nat) : List UInt8 := lineB wordS [s.len, s.off] ++ (s.cells.take i).flatMap fun c => lineB wordC (nums c)
theorem textTo_step {s : Sch} {i : Nat} (h : i < s.cells.length) : textTo s (i + 1) = textTo s i ++ lineB wordC (nums (celAt s i)) := by
  unfold textTo
  rw [List.take_add_one, celAt_some h, Option.toList_some, List.flatMap_append, List.append_assoc]
  simp
theorem line_len {w : List UInt8} {l : List Int} (h : ∀ n ∈ l, 0 ≤ n ∧ n < 10000) : (lineB w l).length ≤ w.length + 5 * l.length + 1 := by
  unfold lineB
  have := body_len (w := w) h
  rw [List.length_append]
  show _ + 1 ≤ _
  omega
theorem textTo_len {s : Sch} (h : Frm s) : ∀ i, i ≤ s.cells.length → (textTo s i).length ≤ 100 + 40 * i
  | 0, _ => by
    have h1 := line_len (w := wordS) (form_nums h).1
    unfold textTo
    simp only [List.take_zero, List.flatMap_nil, List.append_nil]
    have : wordS.length = 8 := rfl
    simp only [List.length_cons, List.length_nil] at h1
    omega
  | i + 1, hi => by
    have ih := textTo_len h i (by omega)
    have h1 := line_len (w := wordC) ((form_nums h).2 _ (celAt_mem (s := s) (i := i) (by omega)))
    rw [textTo_step (by omega), List.length_append]
    have : wordC.length = 4 := rfl
    have h2 : (nums (celAt s i)).length = 5 := rfl
    omega
set_option maxRecDepth 10000 in
set_option maxHeartbeats 1000000 in
theorem print_in (s : SchM) {B : Nat} {w0 : World} {w : World} (ht : TabsB B w0) (hr : Rd B w0 [] s.A (s.cells.flatMap celF)) (hl : s.cells.length ≤ 1000000000000) (hw : St B w0 [] w) :
    Calls Tryz.prog 16 [s.val].toArray w (Post B w0 fun v _ => v = .tuple #[strV (printE s.sch).1, .int .i64 (printE s.sch).2]) := by
  refine Calls_of_VC Tryz.func16 Tryz.ntmps16 rfl rfl hw ?_
  have e1 : s.sch.cells = s.cells := rfl
  cases hf : formE s.sch with
  | false =>
    repeat' (first | ((first | apply VL_callt en53 | apply VL_callq en53); (repeat (first | exact args_nil | (apply args_cons; exact rfl))); exact rfl; exact fun _ hw => (calls_val (congrArg Value.bool hf) (fun _ hw => form_spec s hr.cons hl hw) hw)) | apply (zs2 ?_) | (apply zg3; refine zs8 ?_) | (apply zg20; refine zs48 ?_) | (apply zg23; (refine zs52 ?_; intro _)) | apply (zs65 ?_) | apply (zs68 ?_) | apply (zs69 ?_) | apply (zs70 ?_) | (apply zg27; refine zs71 ?_) | apply (zs74 ?_) | apply (zs77 ?_) | fail)
    apply VQ_ret2; exact rfl; exact rfl; exact rfl
    rw [printE, if_pos hf]
  | true =>
    have hfr := form_iff.1 hf
    have hle : s.cells.length ≤ 512 := hfr.few
    have hnm := form_nums hfr
    have hln1 := line_len (w := wordS) hnm.1
    repeat' (first | ((first | apply VL_callt en53 | apply VL_callq en53); (repeat (first | exact args_nil | (apply args_cons; exact rfl))); exact rfl; exact fun _ hw => (calls_val (congrArg Value.bool hf) (fun _ hw => form_spec s hr.cons hl hw) hw)) | apply (zs2 ?_) | (apply zg2; refine zs6 ?_) | (apply zg3; first | refine zs7 ?_ | refine zs8 ?_) | (apply zg20; refine zs47 ?_) | (apply zg23; (refine zs52 ?_; intro _)) | (apply zg24; (refine zs54 ?_; intro _)) | (apply zg26; (refine zs56 ?_; intro _)) | apply (zs65 ?_) | apply (zs68 ?_) | apply (zs69 ?_) | apply (zs70 ?_) | (apply zg27; refine zs72 ?_) | apply (zs76 ?_) | fail)
    rename_i gs gb gl
    have hrl : Rd B w0 [blk gl (.cells #[.int .i64 s.len, .int .i64 s.off] 3 (0, 0)), blk gb (.cells (Value.agg #[.pointer none, .slice none 0 0]).cells 83 (0, 0)), blk gs (.cells #[.int .i64 s.len, .int .i64 s.off, .slice s.A s.cells.length s.cap] 30 (0, 0))] (some ⟨gl, 0, none⟩) ([s.sch.len, s.sch.off].flatMap numF) := Rd.blk (cs := #[.int .i64 s.len, .int .i64 s.off]) (.head _)
    first | apply VL_callt en55 | apply VL_callq en55
    (repeat (first | exact args_nil | (apply args_cons; exact rfl)))
    exact rfl
    exact fun _ hw => (line_spec wordS [s.sch.len, s.sch.off] hnm.1 (by show 2 ≤ 100; decide) (by decide) ht hrl hw)
    apply VL_st (bdP gb (.pointer none) none 0 [] [blk gs (.cells #[.int .i64 s.len, .int .i64 s.off, .slice s.A s.cells.length s.cap] 30 (0, 0))])
    · unfold bdP
      intro w hw
      have h5 : St B w0 [blk gb (.cells (Value.agg #[.pointer none, .slice none 0 0]).cells 83 (0, 0)), blk gs (.cells #[.int .i64 s.len, .int .i64 s.off, .slice s.A s.cells.length s.cap] 30 (0, 0))] w := by
        revert w
        (intro w hw; refine hw.perm ?_; focus repeat (first | with_reducible exact Perm.refl _ | (with_reducible apply perm_take; focus ((repeat (first | with_reducible exact rem_here | with_reducible apply rem_there)); done)) | with_reducible apply Perm.dropK))
      exact (h5.nilSlice _ _).perm (.swap _ _ _)
    apply VL_call _ en54
    (repeat (first | exact args_nil | (apply args_cons; exact rfl)))
    exact rfl
    exact fun _ hw => (write_spec gb _ (.inl rfl) none 0 [] (lineB wordS [s.sch.len, s.sch.off]) (by simp only [List.length_nil]; have : wordS.length = 8 := rfl; simp only [List.length_cons, List.length_nil] at hln1; omega) (hw))
    rintro _ _ ⟨rfl, A1, cap1, rfl⟩
    unfold bdP
    repeat' (first | apply (zs1 ?_) | (apply zg2; refine zs6 ?_) | (apply zg3; refine zs7 ?_) | (apply zg4; refine zs9 ?_) | apply (zs65 ?_) | apply (zs68 ?_) | apply (zs69 ?_) | apply (zs70 ?_) | apply (zs73 ?_) | fail)
    refine VC_loop1 (fun (z : Nat × Option Addr × Nat) => [(21, .int .i64 z.1), (20, .int .i64 s.cells.length), (19, .slice s.A s.cells.length s.cap), (4, .pointer (some ⟨gb, 0, none⟩))]) (fun z => bdP gb (.pointer (some ⟨gb, 0, none⟩)) z.2.1 z.2.2 (textTo s.sch z.1) [blk gs (.cells #[.int .i64 s.len, .int .i64 s.off, .slice s.A s.cells.length s.cap] 30 (0, 0))]) (fun z => z.1 ≤ s.cells.length) (fun z => s.cells.length - z.1) (0, A1, cap1) (Nat.zero_le _) ?_ ?_ ?_
    · (repeat (first | exact sub_nil _ | (apply sub_cons; first | exact rfl | exact congrArg (fun z : Int => some (Value.int .i64 z)) (by omega))))
    · have e0 : textTo s.sch 0 = [] ++ lineB wordS [s.sch.len, s.sch.off] := by unfold textTo; simp
      rw [e0]
      unfold bdP
      exact fun w hw => hw
    rintro ⟨i, A2, cap2⟩ hi K hK
    dsimp only at hi ⊢
    have htl := textTo_len hfr i hi
    by_cases hlt : i < s.cells.length
    · have hget : s.cells[i]? = some (celAt s.sch i) := celAt_some (s := s.sch) hlt
      have hnc := hnm.2 _ (celAt_mem (s := s.sch) hlt)
      have hln := line_len (w := wordC) hnc
      have hr' : Rd B w0 (bdP gb (.pointer (some ⟨gb, 0, none⟩)) A2 cap2 (textTo s.sch i) [blk gs (.cells #[.int .i64 s.len, .int .i64 s.off, .slice s.A s.cells.length s.cap] 30 (0, 0))]) s.A (s.cells.flatMap celF) := hr.cons.cons.cons
      repeat' (first | ((first | apply VL_callt en56 | apply VL_callq en56); (repeat (first | exact args_nil | (apply args_cons; exact rfl))); exact rfl; exact fun _ hw => (numbers_spec _ hw)) | (apply VL_slice_all T (e := 3); exact rfl; exact rfl; exact rfl) | (apply zg3; first | refine zs8 ?_ | refine zs61 ?_) | (apply zg5; refine zs57 ?_) | (apply (zs17 ?_ ?_) <;> intro _ <;> try (exfalso; omega)) | (apply zg22; refine zs51 ?_) | (apply zg24; (refine zs54 ?_; intro _)) | apply (zs65 ?_) | apply (zs68 ?_) | apply (zs69 ?_) | apply (zs70 ?_) | (apply zg27; refine zs71 ?_) | apply (zs73 ?_) | apply (zs76 ?_) | fail)
      rename_i gc ga
      have hra : ∀ X, Rd B w0 (blk ga (.cells (celF (celAt s.sch i)).toArray 89 (0, 0)) :: X) (some ⟨ga, 0, none⟩) ((nums (celAt s.sch i)).flatMap numF) := fun X => Rd.blk (cs := (celF (celAt s.sch i)).toArray) (.head _)
      first | apply VL_callt en55 | apply VL_callq en55
      (repeat (first | exact args_nil | (apply args_cons; exact rfl)))
      exact rfl
      exact fun _ hw => (line_spec wordC (nums (celAt s.sch i)) hnc (by show 5 ≤ 100; decide) (by decide) ht (hra _) hw)
      apply VL_st (bdP gb (.pointer (some ⟨gb, 0, none⟩)) A2 cap2 (textTo s.sch i) [blk gs (.cells #[.int .i64 s.len, .int .i64 s.off, .slice s.A s.cells.length s.cap] 30 (0, 0))])
      · exact fun w hw => hw.tail.tail
      have h5n : (nums (celAt s.sch i)).length = 5 := rfl
      have h4w : wordC.length = 4 := rfl
      apply VL_call _ en54
      (repeat (first | exact args_nil | (apply args_cons; exact rfl)))
      exact rfl
      exact fun _ hw => (write_spec gb _ (.inr rfl) A2 cap2 (textTo s.sch i) (lineB wordC (nums (celAt s.sch i))) (by omega) (hw))
      rintro _ _ ⟨rfl, A3, cap3, rfl⟩
      rw [← textTo_step hlt]
      repeat' (first | apply (zs1 ?_) | (apply zg13; refine zs30 ?_) | apply (zs65 ?_) | apply (zs68 ?_) | apply (zs70 ?_) | apply (zs79 ?_) | fail)
      apply hK (i + 1, A3, cap3)
      · show i + 1 ≤ s.cells.length
        omega
      · dsimp only; omega
      · (repeat (first | exact sub_nil _ | (apply sub_cons; first | exact rfl | exact congrArg (fun z : Int => some (Value.int .i64 z)) (by omega))))
      · exact fun w hw => hw
    · repeat' (first | (apply (zs17 ?_ ?_) <;> intro _ <;> try (exfalso; omega)) | apply (zs65 ?_) | apply (zs68 ?_) | apply (zs69 ?_) | apply (zs70 ?_) | (apply zg27; refine zs72 ?_) | apply (zs75 ?_) | apply (zs80 ?_) | apply (zs81 ?_) | fail)
      apply VL_call _ en57
      (repeat (first | exact args_nil | (apply args_cons; exact rfl)))
      exact rfl
      exact fun _ hw => (string_spec (l := textTo s.sch i) (.inr rfl) (hw))
      rintro _ _ ⟨rfl, rfl⟩
      repeat' (first | apply (zs2 ?_) | apply (zs65 ?_) | apply (zs68 ?_) | apply (zs74 ?_) | fail)
      apply VQ_ret2; exact rfl; exact rfl; exact rfl
      rw [printE, if_neg (by simp [hf])]
      rw [show i = s.sch.cells.length from (by have : s.sch.cells.length = s.cells.length := rfl; omega), show textTo s.sch s.sch.cells.length = textE s.sch from (by unfold textTo textE; rw [List.take_length])]
theorem print_spec (s : SchM) {B : Nat} {w0 : World} {H : List HP} {w : World} (ht : TabsB B w0) (hr : Rd B w0 H s.A (s.cells.flatMap celF)) (hl : s.cells.length ≤ 1000000000000) (hw : St B w0 H w) :
    Calls Tryz.prog 16 [s.val].toArray w (Post B w0 fun v K => v = .tuple #[strV (printE s.sch).1, .int .i64 (printE s.sch).2] ∧ K = H) :=
  calls_inner hw (print_in s (ht.here hw) (hr.here hw) hl (St.start w))
end Go.Proofs.YtnkpfpgmbpnbgaaGreatDoor

/- Walks: the numbers of a line; Parse. -/
namespace Go.Proofs.YtnkpfpgmbpnbgaaGreatDoor
open Go.RowKit Go.Eng Go.Nw

section
variable {m : Eng.Mode} {n : Shp} {B d : Nat} {w0 : World} {ops : Array Oper} {Q : Exit → Act → World → Prop} {rest : List Oper} {env : Env} {H : List HP} {ty : TypeId} {pos : String} {after : Array Edge} {x y : Operand}
theorem strV_inj {a b : List UInt8} : (⟨a.toArray⟩ : ByteArray) = ⟨b.toArray⟩ ↔ a = b := by
  constructor
  · intro h
    have h1 := congrArg (fun s : ByteArray => s.data.toList) h
    simpa using h1
  · rintro rfl; rfl
theorem VL_wneq (a b : List UInt8) (hx : evo env x = some (strV a)) (hy : evo env y = some (strV b)) (hn : Nat.ble (d + 1) n.k = true) (h1 : a ≠ b → VL Tryz.prog m n B w0 ops Q rest ((d, .bool true) :: env) H) (h2 : a = b → VL Tryz.prog m n B w0 ops Q rest ((d, .bool false) :: env) H) :
    VL Tryz.prog m n B w0 ops Q (⟨some d, .binOp .neq 9 x y 9, ty, pos, after, none⟩ :: rest) env H :=
  VL_sneq hx hy hn (fun h => h1 fun e => h (strV_inj.2 e)) (fun h => h2 (strV_inj.1 h))
theorem VL_errN (hx : evo env x = some .nilIface) (hn : Nat.ble (d + 1) n.k = true) (h : VL Tryz.prog m n B w0 ops Q rest ((d, .bool false) :: env) H) :
    VL Tryz.prog m n B w0 ops Q (⟨some d, .binOp .neq 85 x (.const .nilIface) 85, ty, pos, after, none⟩ :: rest) env H :=
  VL_bin (y := .const .nilIface) hx rfl hn (fun w => by simp [eqGuard]) (fun w => run_neq_nil_nil (P := Tryz.prog) (w := w) 85 (by kernel_rfl)) h
theorem VL_errS {t : TypeId} {p : Value} (hx : evo env x = some (.iface t p)) (hn : Nat.ble (d + 1) n.k = true) (h : VL Tryz.prog m n B w0 ops Q rest ((d, .bool true) :: env) H) :
    VL Tryz.prog m n B w0 ops Q (⟨some d, .binOp .neq 85 x (.const .nilIface) 85, ty, pos, after, none⟩ :: rest) env H :=
  VL_bin (y := .const .nilIface) hx rfl hn (fun w => by simp [eqGuard]) (fun w => run_neq_held_nil (P := Tryz.prog) (w := w) 85 t p (by kernel_rfl)) h
end
abbrev nrs (A : Option Addr) (cap : Nat) (l : List Int) : HP := sl 3 1 A l.length cap (l.flatMap numF)
theorem nrs_snoc (A : Option Addr) (cap : Nat) (l : List Int) (z : Int) : sl 3 1 A (l.length + 1) cap (l.flatMap numF ++ #[Value.int .i64 z].toList) = nrs A cap (l ++ [z]) := by simp [nrs, List.flatMap_append, numF]
theorem strs_flat (ps : List (List UInt8)) : (ps.map strV) = ps.flatMap strL := by induction ps with | nil => rfl | cons a l ih => simp [strL, List.flatMap_cons, ih]
theorem nums_some {ws : List (List UInt8)} (h : ∀ w ∈ ws, 0 ≤ numW w) : numsW ws = some (ws.map numW) := by
  unfold numsW
  rw [if_neg]
  rw [Bool.not_eq_true, List.any_eq_false]
  intro w hw
  have := h w hw
  simp; omega
theorem nums_none {ws : List (List UInt8)} {w : List UInt8} (hw : w ∈ ws) (h : numW w < 0) : numsW ws = none := by
  unfold numsW
  rw [if_pos]
  rw [List.any_eq_true]
  exact ⟨w, hw, by simpa using h⟩
theorem cut_len {c : UInt8} : ∀ {l : List UInt8}, ∀ p ∈ cutC c l, p.length ≤ l.length
  | [], p, hp => by
    simp only [cutC, List.mem_singleton] at hp
    subst hp; simp
  | x :: l, p, hp => by
    have ih := cut_len (c := c) (l := l)
    unfold cutC at hp
    split at hp
    · rcases List.mem_cons.1 hp with rfl | hp
      · simp
      · have := ih p hp; simp only [List.length_cons]; omega
    · cases hc : cutC c l with
      | nil => rw [hc] at hp; simp at hp; subst hp; simp
      | cons q qs =>
        rw [hc] at hp ih
        simp only [List.mem_cons] at hp ih
        rcases hp with rfl | hp
        · have := ih q (.inl rfl); simp only [List.length_cons]; omega
        · have := ih p (.inr hp); simp only [List.length_cons]; omega
def OutR (H : List HP) (r : Option (List Int)) (v : Value) (K : List HP) : Prop :=
  match r with
  | none => v = .tuple #[.slice none 0 0, .bool false] ∧ K = H
  | some x => ∃ A cap, v = .tuple #[.slice A x.length cap, .bool true] ∧ K = nrs A cap x :: H
set_option maxRecDepth 10000 in
set_option maxHeartbeats 2000000 in
theorem read_spec (line word : List UInt8) (many : Nat) (hl : line.length ≤ 100000) (hm : 1 ≤ many ∧ many ≤ 100) {B : Nat} {w0 : World} {H : List HP} {w : World} (ht : TabsB B w0) (hw : St B w0 H w) :
    Calls Tryz.prog 62 [strV line, strV word, .int .i64 many].toArray w (Post B w0 (OutR H (readE line word many))) := by
  refine Calls_of_VC Tryz.func62 Tryz.ntmps62 rfl rfl hw ?_
  repeat' (first | apply (zs1 ?_) | apply (zs2 ?_) | apply (zs65 ?_) | apply (zs68 ?_) | apply (zs69 ?_) | apply (zs70 ?_) | fail)
  apply VL_call _ en61
  (repeat (first | exact args_nil | (apply args_cons; exact rfl)))
  exact rfl
  exact fun _ hw => (split_spec line 32 (by omega) ht (hw))
  rintro _ _ ⟨g, rfl, rfl⟩
  obtain ⟨ps, hps⟩ : ∃ ps, cutC 32 line = ps := ⟨_, rfl⟩
  have hrd : readE line word many = if ps.length ≠ many + 1 ∨ ps.headD [] ≠ word then none else numsW ps.tail := by unfold readE; rw [hps]
  have hne : ps ≠ [] := hps ▸ cut_ne 32 line
  have hp0 : 1 ≤ ps.length := List.length_pos_iff.2 hne
  have hrp : Rd B w0 (blk g (.cells (ps.map strV).toArray 9 (0, 0)) :: H) (some ⟨g, 0, none⟩) (ps.flatMap strL) := by
    rw [← strs_flat]
    exact Rd.blk (cs := (ps.map strV).toArray) (.head _)
  have h0 : ps[0]? = some (ps.headD []) := by
    cases ps with
    | nil => exact absurd rfl hne
    | cons p ps => rfl
  rw [hps]
  repeat' (first | (apply VL_wneq (ps.headD []) word; exact rfl; exact rfl; exact rfl; all_goals intro hwd) | apply (zs1 ?_) | apply (zs2 ?_) | (apply zg1; first | refine zs3 ?_ | refine zs4 ?_) | (apply zg3; refine zs60 ?_) | (apply zg4; refine zs9 ?_) | (apply zg5; refine zs57 ?_) | (apply zg6; first | refine zs11 ?_ | refine zs12 ?_) | (apply zg8; (refine zs16 ?_ ?_ <;> intro _ <;> try (exfalso; omega))) | (apply zg13; refine zs30 ?_) | apply (zs65 ?_) | apply (zs68 ?_) | apply (zs69 ?_) | apply (zs70 ?_) | (apply zg27; first | refine zs71 ?_ | refine zs72 ?_) | apply (zs74 ?_) | apply (zs76 ?_) | apply (zs77 ?_) | fail)
  · rw [hrd, if_pos (.inl (by omega))]
    apply VQ_tail; apply VQ_ret2; exact rfl; exact rfl; exact rfl; exact ⟨rfl, rfl⟩
  · rw [hrd, if_pos (.inr hwd)]
    apply VQ_tail; apply VQ_ret2; exact rfl; exact rfl; exact rfl; exact ⟨rfl, rfl⟩
  have hpl : ps.length = many + 1 := by omega
  rw [hrd, if_neg (by rintro (h | h); exact h hpl; exact h hwd)]
  obtain ⟨ws, hws⟩ : ∃ ws, ps.tail = ws := ⟨_, rfl⟩
  have hwl : ws.length = many := by rw [← hws, List.length_tail]; omega
  have hwm : ∀ p ∈ ws, p.length ≤ 100000 := fun p hp => by
    have h1 := cut_len (c := 32) (l := line) p (by rw [hps]; exact List.mem_of_mem_tail (hws ▸ hp))
    omega
  rw [hws]
  apply VL_slice_lo T (n' := ws.length); exact rfl; exact rfl; exact rfl; exact rfl; omega; (rw [hwl]; show ps.length - 1 = many; omega)
  have hrw : Rd B w0 (blk g (.cells (ps.map strV).toArray 9 (0, 0)) :: H) (subA (some ⟨g, 0, none⟩) 1 ps.length 1) (ws.flatMap strL) := by
    have h1 := Rd.sub (q := 1) (o := 1) (k := ws.length) (cap := ps.length) (fun _ => rfl) hrp (Nat.le_refl _)
    rw [List.drop_one, hws, List.take_length] at h1
    exact h1
  rw [show (1 : Int).toNat = 1 from rfl]
  obtain ⟨A0, hA0⟩ : ∃ A0, subA (some ⟨g, 0, none⟩) 1 ps.length 1 = A0 := ⟨_, rfl⟩
  rw [hA0] at hrw ⊢
  repeat' (first | apply (zs1 ?_) | (apply zg4; refine zs9 ?_) | apply (zs65 ?_) | apply (zs68 ?_) | apply (zs73 ?_) | fail)
  have hnone : ∀ {p : List UInt8}, p ∈ ws → numW p < 0 → numsW ws = none := fun hp hn => nums_none hp hn
  refine VC_loop1 (fun (z : Nat × Option Addr × Nat) => [(31, .int .i64 z.1), (30, .int .i64 ws.length), (29, .slice A0 ws.length (ps.length - 1)), (9, .slice z.2.1 ((ws.take z.1).map numW).length z.2.2)]) (fun z => nrs z.2.1 z.2.2 ((ws.take z.1).map numW) :: blk g (.cells (ps.map strV).toArray 9 (0, 0)) :: H) (fun z => z.1 ≤ ws.length ∧ ∀ p ∈ ws.take z.1, 0 ≤ numW p) (fun z => ws.length - z.1) (0, none, 0) ⟨Nat.zero_le _, by simp⟩ ?_ (fun w hw => hw.nilSlice _ _) ?_
  · (repeat (first | exact sub_nil _ | (apply sub_cons; first | exact rfl | exact congrArg (fun z : Int => some (Value.int .i64 z)) (by omega))))
  rintro ⟨i, A, cap⟩ ⟨hi, hall⟩ K hK
  dsimp only at hi hall ⊢
  have hlen : ((ws.take i).map numW).length = i := by rw [List.length_map, List.length_take]; omega
  have hrw' := hrw.cons (X := nrs A cap ((ws.take i).map numW))
  by_cases hlt : i < ws.length
  · obtain ⟨p, hp⟩ : ∃ p, ws[i]? = some p := ⟨_, List.getElem?_eq_getElem hlt⟩
    have hpm := List.mem_of_getElem? hp
    have hpl := hwm p hpm
    have hs : (⟨p.toArray⟩ : ByteArray).size = p.length := by simp [ByteArray.size]
    by_cases hv : ∃ v, Lib.atoiAll p = .ok v
    · obtain ⟨v, hv⟩ := hv
      have hvb := Lib.atoiAll_bounds hv
      obtain ⟨q1, q2⟩ := prog_num hv
      repeat' (first | ((first | apply VL_callt en99 | apply VL_callq en99); (repeat (first | exact args_nil | (apply args_cons; exact rfl))); exact rfl; exact fun _ hw => (atoi_ok p (by omega) v hv hw)) | ((first | apply VL_callt en96 | apply VL_callq en96); (repeat (first | exact args_nil | (apply args_cons; exact rfl))); exact rfl; exact fun _ hw => (itoa_spec v hvb.1 hvb.2 ht hw)) | (apply VL_errN; exact rfl; exact rfl) | (apply VL_wneq (Lib.itoa v) p; exact rfl; exact rfl; exact rfl; all_goals intro hwd2) | apply (zs1 ?_) | apply (zs2 ?_) | (apply zg1; first | refine zs3 ?_ | refine zs4 ?_) | (apply zg3; refine zs60 ?_) | (apply zg4; refine zs14 ?_) | (apply zg5; refine zs57 ?_) | (apply zg6; first | refine zs11 ?_ | refine zs12 ?_) | apply (zs13 ?_) | (apply (zs17 ?_ ?_) <;> intro _ <;> try (exfalso; omega)) | (apply (zs19 ?_ ?_) <;> intro _ <;> try (exfalso; omega)) | (apply zg13; refine zs30 ?_) | (apply zg21; (refine zs49 ?_; intro _ _)) | (apply zg26; (refine zs56 ?_; intro _)) | apply (zs65 ?_) | apply (zs68 ?_) | apply (zs69 ?_) | apply (zs70 ?_) | (apply zg27; first | refine zs71 ?_ | refine zs72 ?_) | apply (zs73 ?_) | apply (zs74 ?_) | apply (zs76 ?_) | apply (zs77 ?_) | apply (zs78 ?_) | apply (zs79 ?_) | fail)
      all_goals first
        | (apply VQ_st H
           · (intro w hw; refine hw.perm ?_; focus repeat (first | with_reducible exact Perm.refl _ | (with_reducible apply perm_take; focus ((repeat (first | with_reducible exact rem_here | with_reducible apply rem_there)); done)) | with_reducible apply Perm.dropK))
           apply VQ_ret2; exact rfl; exact rfl; exact rfl
           rw [hnone hpm (q2 (by rintro ⟨c1, c2, c3⟩; first | omega | exact hwd2 c2))]
           exact ⟨rfl, rfl⟩)
        | (rename_i xA xcap
           have hq := q1 ⟨by omega, hwd2, by omega⟩
           have e5 : (ws.take i).map numW ++ [v] = (ws.take (i + 1)).map numW := by rw [List.take_add_one, hp, Option.toList_some, List.map_append, List.map_cons, List.map_nil, hq]
           rw [nrs_snoc, e5]
           apply hK (i + 1, xA, xcap)
           · refine ⟨by show i + 1 ≤ _; omega, fun p' hp' => ?_⟩
             dsimp only at hp'
             rw [List.take_add_one, hp, Option.toList_some, List.mem_append, List.mem_singleton] at hp'
             rcases hp' with hp' | rfl
             · exact hall p' hp'
             · omega
           · dsimp only; omega
           · rw [show ((ws.take i).map numW).length + 1 = ((ws.take (i + 1)).map numW).length from (by rw [← e5]; simp)]
             (repeat (first | exact sub_nil _ | (apply sub_cons; first | exact rfl | exact congrArg (fun z : Int => some (Value.int .i64 z)) (by omega))))
           · (intro w hw; refine hw.perm ?_; focus repeat (first | with_reducible exact Perm.refl _ | (with_reducible apply perm_take; focus ((repeat (first | with_reducible exact rem_here | with_reducible apply rem_there)); done)) | with_reducible apply Perm.dropK)))
    · have hbad := prog_bad (fun n hn => hv ⟨n, hn⟩)
      repeat' (first | apply (zs1 ?_) | apply (zs2 ?_) | (apply zg3; refine zs60 ?_) | (apply zg5; refine zs57 ?_) | (apply (zs17 ?_ ?_) <;> intro _ <;> try (exfalso; omega)) | apply (zs65 ?_) | apply (zs68 ?_) | apply (zs69 ?_) | apply (zs70 ?_) | (apply zg27; refine zs71 ?_) | apply (zs73 ?_) | apply (zs76 ?_) | fail)
      apply VL_call _ en99
      (repeat (first | exact args_nil | (apply args_cons; exact rfl)))
      exact rfl
      exact fun _ hw => (atoi_bad p (by omega) (fun n hn => hv ⟨n, hn⟩) ht (hw))
      rintro _ _ ⟨⟨n9, t9, p9, rfl⟩, rfl⟩
      repeat' (first | (apply VL_errS; exact rfl; exact rfl) | apply (zs1 ?_) | apply (zs2 ?_) | (apply zg1; refine zs3 ?_) | (apply zg6; refine zs11 ?_) | apply (zs13 ?_) | apply (zs65 ?_) | apply (zs68 ?_) | apply (zs69 ?_) | apply (zs70 ?_) | (apply zg27; refine zs71 ?_) | apply (zs74 ?_) | apply (zs77 ?_) | apply (zs78 ?_) | fail)
      rw [hnone hpm hbad]
      apply VQ_st H
      · (intro w hw; refine hw.perm ?_; focus repeat (first | with_reducible exact Perm.refl _ | (with_reducible apply perm_take; focus ((repeat (first | with_reducible exact rem_here | with_reducible apply rem_there)); done)) | with_reducible apply Perm.dropK))
      apply VQ_ret2; exact rfl; exact rfl; exact rfl; exact ⟨rfl, rfl⟩
  · have hie : i = ws.length := by omega
    rw [hie, List.take_length] at hall
    rw [nums_some hall]
    repeat' (first | apply (zs1 ?_) | apply (zs2 ?_) | (apply (zs17 ?_ ?_) <;> intro _ <;> try (exfalso; omega)) | apply (zs65 ?_) | apply (zs68 ?_) | apply (zs69 ?_) | apply (zs70 ?_) | (apply zg27; refine zs72 ?_) | apply (zs74 ?_) | apply (zs75 ?_) | apply (zs80 ?_) | apply (zs81 ?_) | fail)
    rw [hie, List.take_length]
    apply VQ_st (nrs A cap (ws.map numW) :: H)
    · (intro w hw; refine hw.perm ?_; focus repeat (first | with_reducible exact Perm.refl _ | (with_reducible apply perm_take; focus ((repeat (first | with_reducible exact rem_here | with_reducible apply rem_there)); done)) | with_reducible apply Perm.dropK))
    apply VQ_ret2; exact rfl; exact rfl; exact rfl
    exact ⟨A, cap, rfl, rfl⟩
end Go.Proofs.YtnkpfpgmbpnbgaaGreatDoor

/- Walks: Parse. -/
namespace Go.Eng
open Go.RowKit
theorem VQ_retc3 {P : Program} {B : Nat} {w0 : World} {env : Env} {H : List HP} {n : Nat} (T : Tab P) {fn : Func} {Φ : Value → List HP → Prop} {p g k u s rt : Nat} {x y : Value} {cs : Array Value} {tt : TypeId} {fr : Nat × Nat} (hr : fn.results = #[.cell p rt, .tmp u, .tmp s]) (hp : get env p = some (.pointer (some ⟨g, 0, none⟩))) (hu : get env u = some x) (hs : get env s = some y)
    (hm : blk g (.cells cs tt fr) ∈ H) (ht : look T.ag rt = some k) (hk : cs.size = k) {H2 : List HP} (hH : ∀ w, St B w0 H w → St B w0 H2 w) (h : Φ (.tuple #[.agg cs, x, y]) H2) : VQ ⟨n, [], none⟩ B w0 (bodyPost P fn (Post B w0 Φ)) .ret env H := by
  refine ⟨fun a w ha hw => bodyPost_ret (v := .tuple #[.agg cs, x, y]) ?_ ha.defers ⟨_, H2, rfl, hH w hw, h⟩⟩
  have hp' := ha.slot p _ hp
  simp [results, hr, Array.getD_eq_getD_getElem?, hp', ha.slot u _ hu, ha.slot s _ hs, asAddr, run_load_blk T (hw.blk hm).1 ht hk]
end Go.Eng
namespace Go.Proofs.YtnkpfpgmbpnbgaaGreatDoor
open Go.RowKit Go.Eng Go.Nw

theorem firstF_at {f : Nat → Int} : ∀ {r i0 i : Nat}, (∀ k, i0 ≤ k → k < i → f k = 0) → i0 ≤ i → i < i0 + r → f i ≠ 0 → firstF f r i0 = ((i : Int), f i)
  | 0, i0, i, _, h1, h2, _ => by omega
  | r + 1, i0, i, h0, h1, h2, h3 => by
    unfold firstF
    by_cases e : i0 = i
    · subst e; rw [if_neg h3]
    · rw [if_pos (h0 i0 (Nat.le_refl _) (by omega))]
      exact firstF_at (fun k hk1 hk2 => h0 k (by omega) hk2) (by omega) (by omega) h3
theorem firstF_no {f : Nat → Int} {r i0 : Nat} (h : ∀ k, i0 ≤ k → k < i0 + r → f k = 0) : firstF f r i0 = (-1, 0) := by
  have h2 := firstF_ok.2 h
  exact Prod.ext (firstF_neg h2) h2
theorem cut_count {c : UInt8} : ∀ l : List UInt8, (cutC c l).length ≤ l.length + 1
  | [] => by simp [cutC]
  | x :: l => by
    have ih := cut_count (c := c) l
    unfold cutC
    split
    · simp only [List.length_cons]; omega
    · split
      · simp
      · rename_i h t he
        rw [he] at ih
        simp only [List.length_cons] at ih ⊢
        omega
theorem schTo_len (ls : List (List UInt8)) : ∀ k, (schTo ls k).cells.length ≤ k
  | 0 => by simp [schTo, zeroS]
  | k + 1 => by
    have ih := schTo_len ls k
    show (stepS k (schTo ls k) _).cells.length ≤ k + 1
    unfold stepS
    split
    · show (schTo ls k).cells.length ≤ k + 1
      omega
    · show ((schTo ls k).cells ++ _).length ≤ k + 1
      simp; omega
def OutP (H : List HP) (R : Sch × (Int × Int)) (v : Value) (K : List HP) : Prop := ∃ A cap, v = .tuple #[.agg #[.int .i64 R.1.len, .int .i64 R.1.off, .slice A R.1.cells.length cap], .int .i64 R.2.1, .int .i64 R.2.2] ∧ K = cels A cap R.1.cells :: H
theorem outP_no {H : List HP} {R : Sch × (Int × Int)} {v : Value} (i e : Int) (hR : R = (zeroS, (i, e))) (hv : v = .tuple #[.agg #[.int .i64 0, .int .i64 0, .slice none 0 0], .int .i64 i, .int .i64 e]) : OutP H R v (cels none 0 [] :: H) := ⟨none, 0, by rw [hR]; exact hv, by rw [hR]; rfl⟩
def schP (g : Nat) (s : Sch) (A : Option Addr) (cap : Nat) : HP := blk g (.cells #[.int .i64 s.len, .int .i64 s.off, .slice A s.cells.length cap] 30 (0, 0))
set_option maxRecDepth 10000 in
set_option maxHeartbeats 4000000 in
theorem parse_spec (text : List UInt8) (hl : text.length ≤ 100000) {B : Nat} {w0 : World} {H : List HP} {w : World} (ht : TabsB B w0) (hw : St B w0 H w) :
    Calls Tryz.prog 18 [strV text].toArray w (Post B w0 (OutP H (parseE text))) := by
  refine Calls_of_VC Tryz.func18 Tryz.ntmps18 rfl rfl hw ?_
  repeat' (first | apply (zs1 ?_) | apply (zs2 ?_) | (apply zg24; (refine zs54 ?_; intro _)) | apply (zs65 ?_) | apply (zs68 ?_) | apply (zs69 ?_) | apply (zs70 ?_) | fail)
  apply VL_call _ en61
  (repeat (first | exact args_nil | (apply args_cons; exact rfl)))
  exact rfl
  exact fun _ hw => (split_spec text 10 (by omega) ht (hw))
  rintro _ _ ⟨g, rfl, rfl⟩
  obtain ⟨ls, hls⟩ : ∃ ls, cutC 10 text = ls := ⟨_, rfl⟩
  have hpe : parseE text = parseL ls := by unfold parseE; rw [hls]
  have hlc : ls.length ≤ 100001 := by have := cut_count (c := 10) text; rw [hls] at this; omega
  have hl1 : 1 ≤ ls.length := List.length_pos_iff.2 (hls ▸ cut_ne 10 text)
  have hll : ∀ p ∈ ls, p.length ≤ 100000 := fun p hp => by have := cut_len (c := 10) (l := text) p (hls ▸ hp); omega
  have hrp : ∀ {L : List HP}, blk g (.cells (ls.map strV).toArray 9 (0, 0)) ∈ L → Rd B w0 L (some ⟨g, 0, none⟩) (ls.flatMap strL) := fun h => by
    rw [← strs_flat]
    exact Rd.blk (cs := (ls.map strV).toArray) h
  rw [hls, hpe]
  repeat' (first | apply (zs1 ?_) | apply (zs2 ?_) | (apply zg4; refine zs9 ?_) | (apply zg14; refine zs31 ?_) | (apply zg24; (refine zs54 ?_; intro _)) | apply (zs65 ?_) | apply (zs68 ?_) | apply (zs69 ?_) | apply (zs70 ?_) | fail)
  rename_i gr gs
  obtain ⟨m, hm⟩ : ∃ m, ls.length = m + 1 := ⟨ls.length - 1, by omega⟩
  rw [show ((ls.length : Nat) : Int) - 1 = (m : Int) by omega]
  apply VL_slice_hi_rd T (l := ls) (n' := (ls.take m).length); exact rfl; exact rfl; exact rfl; exact rfl; omega; exact Nat.le_refl _; (rw [List.length_take]; omega)
  rw [subA_zeroC]
  repeat' (first | apply (zs1 ?_) | (apply zg4; refine zs9 ?_) | apply (zs65 ?_) | apply (zs68 ?_) | apply (zs73 ?_) | fail)
  have hlt : (ls.take m).length = m := by rw [List.length_take]; omega
  have hrt : ∀ {L : List HP}, blk g (.cells (ls.map strV).toArray 9 (0, 0)) ∈ L → Rd B w0 L (some ⟨g, 0, none⟩) ((ls.take m).flatMap strL) := fun h => Rd.take (q := 1) m (fun _ => rfl) (hrp h)
  have hpl : parseL ls = if (firstF (badRow ls) m 0).2 ≠ 0 then (zeroS, firstF (badRow ls) m 0)
    else if m = 0 ∨ lineAt ls m ≠ [] then (zeroS, ((m : Int), 3))
    else if formE (schTo ls m) = false then (zeroS, (-1, 1)) else (schTo ls m, (-1, 0)) := by
    unfold parseL
    rw [show ls.length - 1 = m by omega]
  refine VC_loop1 (fun (z : Nat × Option Addr × Nat) => [(23, .int .i64 z.1), (22, .int .i64 (ls.take m).length), (21, .slice (some ⟨g, 0, none⟩) (ls.take m).length ls.length), (5, .slice (some ⟨g, 0, none⟩) ls.length ls.length), (6, .int .i64 m), (7, .pointer (some ⟨gs, 0, none⟩)), (2, .pointer (some ⟨gr, 0, none⟩))])
    (fun z => schP gs (schTo ls z.1) z.2.1 z.2.2 :: cels z.2.1 z.2.2 (schTo ls z.1).cells :: blk g (.cells (ls.map strV).toArray 9 (0, 0)) :: blk gr (.cells #[.int .i64 0, .int .i64 0, .slice none 0 0] 30 (0, 0)) :: H) (fun z => z.1 ≤ m ∧ ∀ k, k < z.1 → badRow ls k = 0) (fun z => m - z.1) (0, none, 0) ⟨Nat.zero_le _, fun k hk => absurd hk (Nat.not_lt_zero _)⟩ ?_ (fun w hw => ?_) ?_
  · (repeat (first | exact sub_nil _ | (apply sub_cons; first | exact rfl | exact congrArg (fun z : Int => some (Value.int .i64 z)) (by omega))))
  · exact (hw.nilSlice _ _).perm (.swap _ _ _)
  rintro ⟨i, A, cap⟩ ⟨hi, hall⟩ K hK
  dsimp only at hi hall ⊢
  have hcl := schTo_len ls i
  obtain ⟨SC, hSC⟩ : ∃ SC, schTo ls i = SC := ⟨_, rfl⟩
  rw [hSC] at hcl ⊢
  unfold schP
  by_cases hlti : i < m
  · have hrt' : Rd B w0 (blk gs (.cells #[.int .i64 SC.len, .int .i64 SC.off, .slice A SC.cells.length cap] 30 (0, 0)) :: cels A cap SC.cells :: blk g (.cells (ls.map strV).toArray 9 (0, 0)) :: blk gr (.cells #[.int .i64 0, .int .i64 0, .slice none 0 0] 30 (0, 0)) :: H) (some ⟨g, 0, none⟩) ((ls.take m).flatMap strL) := hrt (by (focus repeat (first | with_reducible exact List.mem_cons_self | with_reducible apply List.mem_cons_of_mem | assumption)))
    have hget : (ls.take m)[i]? = some (lineAt ls i) := by
      rw [List.getElem?_take, if_pos hlti]
      unfold lineAt
      rw [List.getD_eq_getElem?_getD, List.getElem?_eq_getElem (by omega)]
      rfl
    have hlm : (lineAt ls i).length ≤ 100000 := hll _ (List.mem_of_mem_take (List.mem_of_getElem? hget))
    rcases Nat.eq_zero_or_pos i with h0 | h0
    · subst h0
      have hsc : SC = zeroS := hSC.symm
      subst hsc
      repeat' (first | apply (zs1 ?_) | apply (zs2 ?_) | (apply zg3; refine zs60 ?_) | (apply zg5; refine zs57 ?_) | (apply zg7; (refine zs15 ?_ ?_ <;> intro _ <;> try (exfalso; omega))) | (apply (zs17 ?_ ?_) <;> intro _ <;> try (exfalso; omega)) | apply (zs65 ?_) | apply (zs68 ?_) | apply (zs69 ?_) | apply (zs70 ?_) | (apply zg27; refine zs71 ?_) | apply (zs73 ?_) | apply (zs76 ?_) | fail)
      apply VL_call _ en62
      (repeat (first | exact args_nil | (apply args_cons; exact rfl)))
      exact rfl
      exact fun _ hw => (read_spec (lineAt ls 0) wordS 2 hlm (by omega) ht (hw))
      intro v9 K9 hr9
      cases hrow : readE (lineAt ls 0) wordS 2 with
      | none =>
        rw [hrow] at hr9
        obtain ⟨rfl, rfl⟩ := hr9
        have hbr : badRow ls 0 = 3 := by unfold badRow; rw [show rowE 0 (lineAt ls 0) = none from hrow]; rfl
        have hfa := firstF_at (f := badRow ls) (r := m) (i0 := 0) (i := 0) (fun k _ hk => absurd hk (Nat.not_lt_zero _)) (Nat.le_refl _) (by omega) (by rw [hbr]; decide)
        repeat' (first | apply (zs1 ?_) | apply (zs2 ?_) | apply (zs13 ?_) | (apply zg20; refine zs48 ?_) | (apply zg22; refine zs51 ?_) | (apply zg25; refine zs55 ?_) | apply (zs65 ?_) | apply (zs68 ?_) | apply (zs69 ?_) | apply (zs70 ?_) | (apply zg27; refine zs71 ?_) | apply (zs73 ?_) | apply (zs74 ?_) | apply (zs77 ?_) | apply (zs78 ?_) | fail)
        apply VQ_retc3 T (H2 := cels none 0 [] :: H); exact rfl; exact rfl; exact rfl; exact rfl; (focus repeat (first | with_reducible exact List.mem_cons_self | with_reducible apply List.mem_cons_of_mem | assumption)); exact rfl; exact rfl; (intro w hw; refine St.nilSlice (H := H) ?_ _ _; revert w; (intro w hw; refine hw.perm ?_; focus repeat (first | with_reducible exact Perm.refl _ | (with_reducible apply perm_take; focus ((repeat (first | with_reducible exact rem_here | with_reducible apply rem_there)); done)) | with_reducible apply Perm.dropK)))
        exact outP_no 0 3 (by rw [hpl, hfa, hbr]; rfl) rfl
      | some x =>
        rw [hrow] at hr9
        obtain ⟨Ax, capx, rfl, rfl⟩ := hr9
        have hbr : badRow ls 0 = 0 := by unfold badRow; rw [show rowE 0 (lineAt ls 0) = some x from hrow]; rfl
        obtain ⟨xa, xb, rfl⟩ : ∃ a b, x = [a, b] := by
          have h2 := (read_some hrow).2.1
          match x, h2 with
          | [a, b], _ => exact ⟨a, b, rfl⟩
        have hst : schTo ls 1 = ⟨xa, xb, []⟩ := by
          show stepS 0 zeroS _ = _
          rw [show rowE 0 (lineAt ls 0) = some [xa, xb] from hrow]; rfl
        unfold nrs
        rw [show ([xa, xb] : List Int).length = 2 from rfl, show ([xa, xb] : List Int).flatMap numF = [.int .i64 xa, .int .i64 xb] from rfl]
        repeat' (first | apply (zs1 ?_) | apply (zs2 ?_) | apply (zs13 ?_) | (apply zg7; (refine zs15 ?_ ?_ <;> intro _ <;> try (exfalso; omega))) | (apply zg20; refine zs47 ?_) | apply (zs65 ?_) | apply (zs68 ?_) | apply (zs69 ?_) | apply (zs70 ?_) | (apply zg27; first | refine zs71 ?_ | refine zs72 ?_) | apply (zs73 ?_) | fail)
        apply VC_heldH [0, 1, 2, 3, 4, 5, 6, 7] [8, 9] [true, false]
        kernel_rfl
        kernel_rfl
        (repeat (first | with_reducible exact split_nil | with_reducible apply split_t | with_reducible apply split_f))
        (simp only [pickOps, nthO]; rfl)
        (simp only [pickOps, nthO]; rfl)
        repeat' (first | (apply VL_load_sl T; exact rfl; (focus repeat (first | with_reducible exact List.mem_cons_self | with_reducible apply List.mem_cons_of_mem | assumption)); exact rfl; exact rfl; exact rfl) | apply (zs1 ?_) | (apply zg2; refine zs6 ?_) | (apply zg5; refine zs10 ?_) | (apply zg13; refine zs30 ?_) | (apply zg22; refine zs50 ?_) | apply (zs65 ?_) | (apply VL_nilh; (repeat (first | with_reducible exact app_nil | with_reducible apply app_cons | exact app_niln _))) | apply (zs68 ?_) | apply (zs70 ?_) | apply (zs79 ?_) | apply (zs87 ?_) | (apply VQ_heldq; (repeat (first | with_reducible exact pull_nil | (with_reducible apply pull_cons; (repeat (first | with_reducible exact rem_here | with_reducible apply rem_there)))))) | apply (zs93 ?_) | apply (zs94 ?_) | fail)
        apply hK (0 + 1, A, cap)
        · refine ⟨by show 0 + 1 ≤ m; omega, fun k hk => ?_⟩
          obtain rfl : k = 0 := by have : k < 0 + 1 := hk; omega
          exact hbr
        · show m - (0 + 1) < m - 0
          omega
        · (repeat (first | exact sub_nil _ | (apply sub_cons; first | exact rfl | exact congrArg (fun z : Int => some (Value.int .i64 z)) (by omega))))
        · intro w hw
          have h5 : St B w0 (blk gs (.cells #[.int .i64 xa, .int .i64 xb, .slice A zeroS.cells.length cap] 30 (0, 0)) :: cels A cap zeroS.cells :: blk g (.cells (ls.map strV).toArray 9 (0, 0)) :: blk gr (.cells #[.int .i64 0, .int .i64 0, .slice none 0 0] 30 (0, 0)) :: H) w := by
            revert w
            (intro w hw; refine hw.perm ?_; focus repeat (first | with_reducible exact Perm.refl _ | (with_reducible apply perm_take; focus ((repeat (first | with_reducible exact rem_here | with_reducible apply rem_there)); done)) | with_reducible apply Perm.dropK))
          dsimp only
          rw [hst]
          exact h5
    · have hb : badRow ls i = 0 ∨ badRow ls i = 3 := by unfold badRow; split <;> simp
      repeat' (first | apply (zs1 ?_) | apply (zs2 ?_) | (apply zg3; refine zs60 ?_) | (apply zg5; refine zs57 ?_) | (apply zg7; (refine zs15 ?_ ?_ <;> intro _ <;> try (exfalso; omega))) | (apply (zs17 ?_ ?_) <;> intro _ <;> try (exfalso; omega)) | apply (zs65 ?_) | apply (zs68 ?_) | apply (zs69 ?_) | apply (zs70 ?_) | (apply zg27; first | refine zs71 ?_ | refine zs72 ?_) | apply (zs73 ?_) | apply (zs76 ?_) | fail)
      apply VL_call _ en62
      (repeat (first | exact args_nil | (apply args_cons; exact rfl)))
      exact rfl
      exact fun _ hw => (read_spec (lineAt ls i) wordC 5 hlm (by omega) ht (hw))
      intro v9 K9 hr9
      have hro : rowE i (lineAt ls i) = readE (lineAt ls i) wordC 5 := by
        unfold rowE wordOf manyOf
        rw [if_neg (by omega), if_neg (by omega)]
      cases hrow : readE (lineAt ls i) wordC 5 with
      | none =>
        rw [hrow] at hr9
        obtain ⟨rfl, rfl⟩ := hr9
        have hbr : badRow ls i = 3 := by unfold badRow; rw [hro, hrow]; rfl
        have hfa := firstF_at (f := badRow ls) (r := m) (i0 := 0) (i := i) (fun k _ hk => hall k hk) (Nat.zero_le _) (by omega) (by rw [hbr]; decide)
        repeat' (first | apply (zs1 ?_) | apply (zs2 ?_) | apply (zs13 ?_) | (apply zg20; refine zs48 ?_) | (apply zg22; refine zs51 ?_) | (apply zg25; refine zs55 ?_) | apply (zs65 ?_) | apply (zs68 ?_) | apply (zs69 ?_) | apply (zs70 ?_) | (apply zg27; refine zs71 ?_) | apply (zs73 ?_) | apply (zs74 ?_) | apply (zs77 ?_) | apply (zs78 ?_) | fail)
        apply VQ_retc3 T (H2 := cels none 0 [] :: H); exact rfl; exact rfl; exact rfl; exact rfl; (focus repeat (first | with_reducible exact List.mem_cons_self | with_reducible apply List.mem_cons_of_mem | assumption)); exact rfl; exact rfl; (intro w hw; refine St.nilSlice (H := H) ?_ _ _; revert w; (intro w hw; refine hw.perm ?_; focus repeat (first | with_reducible exact Perm.refl _ | (with_reducible apply perm_take; focus ((repeat (first | with_reducible exact rem_here | with_reducible apply rem_there)); done)) | with_reducible apply Perm.dropK)))
        exact outP_no i 3 (by rw [hpl, hfa, hbr]; rfl) rfl
      | some x =>
        rw [hrow] at hr9
        obtain ⟨Ax, capx, rfl, rfl⟩ := hr9
        have hbr : badRow ls i = 0 := by unfold badRow; rw [hro, hrow]; rfl
        obtain ⟨x1, x2, x3, x4, x5, rfl⟩ : ∃ a b c d e, x = [a, b, c, d, e] := by
          have h2 := (read_some hrow).2.1
          match x, h2 with
          | [a, b, c, d, e], _ => exact ⟨a, b, c, d, e, rfl⟩
        have hst : schTo ls (i + 1) = ⟨SC.len, SC.off, SC.cells ++ [(x1, x2, x3, x4, x5)]⟩ := by
          show stepS i (schTo ls i) _ = _
          rw [hro, hrow, hSC]
          unfold stepS
          rw [if_neg (by omega)]
          rfl
        unfold nrs cels
        rw [show ([x1, x2, x3, x4, x5] : List Int).length = 5 from rfl, show ([x1, x2, x3, x4, x5] : List Int).flatMap numF = [.int .i64 x1, .int .i64 x2, .int .i64 x3, .int .i64 x4, .int .i64 x5] from rfl]
        repeat' (first | apply (zs1 ?_) | apply (zs2 ?_) | apply (zs13 ?_) | (apply zg7; (refine zs15 ?_ ?_ <;> intro _ <;> try (exfalso; omega))) | (apply zg20; refine zs47 ?_) | apply (zs65 ?_) | apply (zs68 ?_) | apply (zs69 ?_) | apply (zs70 ?_) | (apply zg27; refine zs72 ?_) | apply (zs73 ?_) | fail)
        apply VC_heldH [0, 1, 2, 3, 4, 5, 6, 7, 8, 9, 10, 11, 12, 13, 14, 15, 16, 17, 18] [19, 20, 21] [true, true, false]
        kernel_rfl
        kernel_rfl
        (repeat (first | with_reducible exact split_nil | with_reducible apply split_t | with_reducible apply split_f))
        (simp only [pickOps, nthO]; rfl)
        (simp only [pickOps, nthO]; rfl)
        repeat' (first | (apply VL_load_sl T; exact rfl; (focus repeat (first | with_reducible exact List.mem_cons_self | with_reducible apply List.mem_cons_of_mem | assumption)); exact rfl; exact rfl; exact rfl) | apply (zs1 ?_) | (apply zg2; refine zs6 ?_) | (apply zg3; refine zs7 ?_) | (apply zg5; refine zs10 ?_) | (apply zg13; refine zs30 ?_) | (apply zg21; (refine zs49 ?_; intro _ _)) | (apply zg22; refine zs50 ?_) | (apply zg25; refine zs55 ?_) | (apply zg26; (refine zs56 ?_; intro _)) | apply (zs65 ?_) | (apply VL_nilh; (repeat (first | with_reducible exact app_nil | with_reducible apply app_cons | exact app_niln _))) | apply (zs68 ?_) | apply (zs70 ?_) | apply (zs79 ?_) | apply (zs87 ?_) | (apply VQ_heldq; (repeat (first | with_reducible exact pull_nil | (with_reducible apply pull_cons; (repeat (first | with_reducible exact rem_here | with_reducible apply rem_there)))))) | apply (zs93 ?_) | apply (zs94 ?_) | fail)
        rename_i gq A' cap'
        apply hK (i + 1, A', cap')
        · refine ⟨by show i + 1 ≤ m; omega, fun k hk => ?_⟩
          have hk : k < i + 1 := hk
          by_cases e : k = i
          · rw [e]; exact hbr
          · exact hall k (by omega)
        · show m - (i + 1) < m - i
          omega
        · (repeat (first | exact sub_nil _ | (apply sub_cons; first | exact rfl | exact congrArg (fun z : Int => some (Value.int .i64 z)) (by omega))))
        · intro w hw
          have e6 : sl 51 5 A' (SC.cells.length + 1) cap' (SC.cells.flatMap celF ++ #[Value.int .i64 x1, .int .i64 x2, .int .i64 x3, .int .i64 x4, .int .i64 x5].toList) = cels A' cap' (SC.cells ++ [(x1, x2, x3, x4, x5)]) := cels_snocR A' cap' SC.cells (x1, x2, x3, x4, x5)
          rw [e6, len_snoc SC.cells (x1, x2, x3, x4, x5)] at hw
          dsimp only
          rw [hst]
          unfold schP
          dsimp only
          revert w
          (intro w hw; refine hw.perm ?_; focus repeat (first | with_reducible exact Perm.refl _ | (with_reducible apply perm_take; focus ((repeat (first | with_reducible exact rem_here | with_reducible apply rem_there)); done)) | with_reducible apply Perm.dropK))
  · obtain rfl : i = m := by omega
    have hrp' : Rd B w0 (blk gs (.cells #[.int .i64 SC.len, .int .i64 SC.off, .slice A SC.cells.length cap] 30 (0, 0)) :: cels A cap SC.cells :: blk g (.cells (ls.map strV).toArray 9 (0, 0)) :: blk gr (.cells #[.int .i64 0, .int .i64 0, .slice none 0 0] 30 (0, 0)) :: H) (some ⟨g, 0, none⟩) (ls.flatMap strL) := hrp (by (focus repeat (first | with_reducible exact List.mem_cons_self | with_reducible apply List.mem_cons_of_mem | assumption)))
    have hz : firstF (badRow ls) i 0 = (-1, 0) := firstF_no fun k _ hk => hall k (by omega)
    have hgm : ls[(i : Int).toNat]? = some (lineAt ls i) := by
      unfold lineAt
      rw [List.getD_eq_getElem?_getD, Int.toNat_natCast, List.getElem?_eq_getElem (by omega)]
      rfl
    rw [hpl, hz, if_neg (by simp), hSC]
    repeat' (first | (apply VL_wneq (lineAt ls i) []; exact rfl; exact rfl; exact rfl; all_goals intro hwd) | apply (zs1 ?_) | apply (zs2 ?_) | (apply zg1; first | refine zs3 ?_ | refine zs4 ?_) | (apply zg3; first | refine zs8 ?_ | refine zs60 ?_) | (apply zg5; refine zs57 ?_) | (apply zg6; first | refine zs11 ?_ | refine zs12 ?_) | (apply zg7; (refine zs15 ?_ ?_ <;> intro _ <;> try (exfalso; omega))) | (apply (zs17 ?_ ?_) <;> intro _ <;> try (exfalso; omega)) | (apply zg22; refine zs51 ?_) | (apply zg25; refine zs55 ?_) | apply (zs65 ?_) | apply (zs68 ?_) | apply (zs69 ?_) | apply (zs70 ?_) | (apply zg27; first | refine zs71 ?_ | refine zs72 ?_) | apply (zs74 ?_) | apply (zs75 ?_) | apply (zs76 ?_) | apply (zs77 ?_) | apply (zs80 ?_) | apply (zs81 ?_) | fail)
    · apply VQ_retc3 T (H2 := cels none 0 [] :: H); exact rfl; exact rfl; exact rfl; exact rfl; (focus repeat (first | with_reducible exact List.mem_cons_self | with_reducible apply List.mem_cons_of_mem | assumption)); exact rfl; exact rfl; (intro w hw; refine St.nilSlice (H := H) ?_ _ _; revert w; (intro w hw; refine hw.perm ?_; focus repeat (first | with_reducible exact Perm.refl _ | (with_reducible apply perm_take; focus ((repeat (first | with_reducible exact rem_here | with_reducible apply rem_there)); done)) | with_reducible apply Perm.dropK)))
      exact outP_no i 3 (by rw [if_pos (.inl (by omega))]) rfl
    · apply VQ_retc3 T (H2 := cels none 0 [] :: H); exact rfl; exact rfl; exact rfl; exact rfl; (focus repeat (first | with_reducible exact List.mem_cons_self | with_reducible apply List.mem_cons_of_mem | assumption)); exact rfl; exact rfl; (intro w hw; refine St.nilSlice (H := H) ?_ _ _; revert w; (intro w hw; refine hw.perm ?_; focus repeat (first | with_reducible exact Perm.refl _ | (with_reducible apply perm_take; focus ((repeat (first | with_reducible exact rem_here | with_reducible apply rem_there)); done)) | with_reducible apply Perm.dropK)))
      exact outP_no i 3 (by rw [if_pos (.inr hwd)]) rfl
    have hrc : ∀ X, Rd B w0 (blk gs (.cells #[.int .i64 SC.len, .int .i64 SC.off, .slice A SC.cells.length cap] 30 (0, 0)) :: cels A cap SC.cells :: X) A (SC.cells.flatMap celF) := fun X => Rd.cels (cap := cap) (.tail _ (.head _))
    rw [if_neg (by rintro (h | h); omega; exact h hwd)]
    obtain ⟨SM, hSM⟩ : ∃ SM : SchM, SM = ⟨SC.len, SC.off, A, cap, SC.cells⟩ := ⟨_, rfl⟩
    have hss : SM.sch = SC := by rw [hSM]; rfl
    have hfc := fun {H' : List HP} {w : World} (hr : Rd B w0 H' SM.A (SM.cells.flatMap celF)) (hw : St B w0 H' w) => form_spec SM hr (by rw [hSM]; show SC.cells.length ≤ _; omega) hw
    rw [hss, hSM] at hfc
    cases hf : formE SC with
    | false =>
      rw [hf] at hfc
      repeat' (first | ((first | apply VL_callt en53 | apply VL_callq en53); (repeat (first | exact args_nil | (apply args_cons; exact rfl))); exact rfl; exact fun _ hw => (hfc (hrc _) hw)) | apply (zs2 ?_) | (apply zg20; refine zs48 ?_) | (apply zg22; refine zs51 ?_) | (apply zg25; refine zs55 ?_) | apply (zs65 ?_) | apply (zs68 ?_) | apply (zs69 ?_) | apply (zs70 ?_) | (apply zg27; refine zs71 ?_) | apply (zs74 ?_) | apply (zs77 ?_) | fail)
      apply VQ_retc3 T (H2 := cels none 0 [] :: H); exact rfl; exact rfl; exact rfl; exact rfl; (focus repeat (first | with_reducible exact List.mem_cons_self | with_reducible apply List.mem_cons_of_mem | assumption)); exact rfl; exact rfl; (intro w hw; refine St.nilSlice (H := H) ?_ _ _; revert w; (intro w hw; refine hw.perm ?_; focus repeat (first | with_reducible exact Perm.refl _ | (with_reducible apply perm_take; focus ((repeat (first | with_reducible exact rem_here | with_reducible apply rem_there)); done)) | with_reducible apply Perm.dropK)))
      exact outP_no (-1) 1 (by rw [if_pos rfl]) rfl
    | true =>
      rw [hf] at hfc
      repeat' (first | ((first | apply VL_callt en53 | apply VL_callq en53); (repeat (first | exact args_nil | (apply args_cons; exact rfl))); exact rfl; exact fun _ hw => (hfc (hrc _) hw)) | apply (zs2 ?_) | (apply zg3; refine zs8 ?_) | (apply zg20; refine zs47 ?_) | (apply zg22; refine zs51 ?_) | apply (zs65 ?_) | apply (zs68 ?_) | apply (zs69 ?_) | apply (zs70 ?_) | (apply zg27; refine zs72 ?_) | apply (zs74 ?_) | apply (zs76 ?_) | fail)
      apply VQ_retc3 T (H2 := cels A cap SC.cells :: H); exact rfl; exact rfl; exact rfl; exact rfl; (focus repeat (first | with_reducible exact List.mem_cons_self | with_reducible apply List.mem_cons_of_mem | assumption)); exact rfl; exact rfl; (intro w hw; refine hw.perm ?_; focus repeat (first | with_reducible exact Perm.refl _ | (with_reducible apply perm_take; focus ((repeat (first | with_reducible exact rem_here | with_reducible apply rem_there)); done)) | with_reducible apply Perm.dropK))
      exact ⟨A, cap, rfl, rfl⟩
end Go.Proofs.YtnkpfpgmbpnbgaaGreatDoor

/- Walks: the example of the chapter, and awake. -/
namespace Go.Proofs.YtnkpfpgmbpnbgaaGreatDoor
open Go.RowKit Go.Eng Go.Nw

def zeroN : NetM := ⟨0, none, 0, [], 0, 0, none, 0, [], none, 0, []⟩
theorem zeroN_in {B : Nat} {w0 : World} {K : List HP} : zeroN.In B w0 K := ⟨Rd.nil, fun _ h => (by cases h), Rd.nil, Rd.nil, by simp [zeroN], fun _ h => (by cases h), by simp [zeroN], by simp [zeroN]⟩
theorem zeroN_bad : checkE zeroN.net ≠ 0 := by decide
theorem check_arg (n : NetM) (l : Value) (s : SchM) (h : checkE n.net ≠ 0) {B : Nat} {w0 : World} {H : List HP} {w : World} (hin : n.In B w0 H) (hw : St B w0 H w) :
    Calls Tryz.prog 14 [n.val, l, s.val].toArray w (Post B w0 fun v K => v = .tuple #[.int .i64 (-1), .int .i64 1] ∧ K = H) := by
  refine Calls_of_VC Tryz.func14 Tryz.ntmps14 rfl rfl hw ?_
  repeat' (first | ((first | apply VL_callt en38 | apply VL_callq en38); (repeat (first | exact args_nil | (apply args_cons; exact rfl))); exact rfl; exact fun _ hw => (check_spec n hin.cons.cons hw)) | apply (zs2 ?_) | (apply zg3; refine zs8 ?_) | (apply zg8; (refine zs16 ?_ ?_ <;> intro _ <;> try (exfalso; omega))) | (apply zg23; (refine zs52 ?_; intro _)) | apply (zs65 ?_) | apply (zs68 ?_) | apply (zs69 ?_) | apply (zs70 ?_) | (apply zg27; refine zs71 ?_) | apply (zs74 ?_) | apply (zs77 ?_) | fail)
  apply VQ_st H
  · (intro w hw; refine hw.perm ?_; focus repeat (first | with_reducible exact Perm.refl _ | (with_reducible apply perm_take; focus ((repeat (first | with_reducible exact rem_here | with_reducible apply rem_there)); done)) | with_reducible apply Perm.dropK))
  apply VQ_ret2; exact rfl; exact rfl; exact rfl; exact ⟨rfl, rfl⟩

def exC : List Cel := [(0, 0, 0, 1, 5), (2, 1, 1, 2, 5)]
def exS (A : Option Addr) (cap : Nat) : SchM := ⟨4, 2, A, cap, exC⟩
def exE : Sch := ⟨4, 2, exC⟩
def exT : List UInt8 := [115, 99, 104, 101, 100, 117, 108, 101, 32, 52, 32, 50, 10, 99, 101, 108, 108, 32, 48, 32, 48, 32, 48, 32, 49, 32, 53, 10, 99, 101, 108, 108, 32, 50, 32, 49, 32, 49, 32, 50, 32, 53, 10]
theorem ex_form : formE exE = true := by decide
theorem itoa_one {n : Int} (h : 0 ≤ n ∧ n < 10) : Lib.itoa n = [UInt8.ofNat (48 + n.toNat)] := by
  rw [itoa_nat h.1, Lib.decDigits_one (by omega)]
theorem ex_text : textE exE = exT := by
  unfold textE lineB bodyB exE exC nums
  simp only [List.flatMap_cons, List.flatMap_nil]
  repeat rw [itoa_one (by omega)]
  rfl
theorem ex_at : atE exE 6 = [(2, 1, 1, 2, 5)] := by decide
theorem exa_spec {B : Nat} {w0 : World} {H : List HP} {w : World} (hw : St B w0 H w) :
    Calls Tryz.prog 37 [].toArray w (Post B w0 fun v K => ∃ A cap, v = .agg #[.int .i64 4, .int .i64 2, .slice A exC.length cap] ∧ K = cels A cap exC :: H) := by
  refine Calls_of_VC Tryz.func37 Tryz.ntmps37 rfl rfl hw ?_
  repeat' (first | (apply zg22; refine zs51 ?_) | (apply zg24; (refine zs54 ?_; intro _)) | (apply zg25; refine zs55 ?_) | (apply zg26; (refine zs56 ?_; intro _)) | apply (zs65 ?_) | apply (zs68 ?_) | apply (zs69 ?_) | apply (zs70 ?_) | apply (zs74 ?_) | fail)
  rename_i g1 g2
  apply VQ_retc1 T (H2 := cels (some ⟨g2, 0, none⟩) 2 exC :: H); exact rfl; exact rfl; (focus repeat (first | with_reducible exact List.mem_cons_self | with_reducible apply List.mem_cons_of_mem | assumption)); exact rfl; exact rfl
  · intro w hw
    have h2 := St.blk_sl (e := 51) (size := 5) (len := 2) (cs := exC.flatMap celF) hw rfl (by decide)
    exact (h2.perm (.swap _ _ _)).tail
  · exact ⟨some ⟨g2, 0, none⟩, 2, rfl, rfl⟩
set_option maxRecDepth 10000 in
set_option maxHeartbeats 2000000 in
theorem wake_spec {B : Nat} {w0 : World} {H : List HP} {w : World} (ht : TabsB B w0) (hw : St B w0 H w) :
    Calls Tryz.prog 11 [].toArray w (Post B w0 fun v K => v = .bool true ∧ K = H) := by
  refine Calls_of_VC Tryz.func11 Tryz.ntmps11 rfl rfl hw ?_
  have hpr : printE exE = (exT, 0) := by unfold printE; rw [ex_form, if_neg (by decide), ex_text]
  have hpa : parseE exT = (exE, (-1, 0)) := by rw [← ex_text]; exact parse_print ex_form
  repeat' (first | apply (zs2 ?_) | apply (zs65 ?_) | apply (zs68 ?_) | apply (zs69 ?_) | apply (zs70 ?_) | fail)
  apply VL_call _ en37
  (repeat (first | exact args_nil | (apply args_cons; exact rfl)))
  exact rfl
  exact fun _ hw => (exa_spec (hw))
  rintro _ _ ⟨A, cap, rfl, rfl⟩
  repeat' (first | (apply zg3; refine zs8 ?_) | (apply zg22; refine zs51 ?_) | (apply zg24; (refine zs54 ?_; intro _)) | apply (zs65 ?_) | apply (zs68 ?_) | apply (zs69 ?_) | apply (zs70 ?_) | fail)
  rename_i g1
  have hlc : (exS A cap).cells.length ≤ 1000000000000 := by show 2 ≤ _; omega
  have hrA : ∀ {L : List HP}, cels A cap exC ∈ L → Rd B w0 L A (exC.flatMap celF) := fun h => Rd.cels h
  have hp : ∀ {H' : List HP} {w : World}, Rd B w0 H' A (exC.flatMap celF) → St B w0 H' w → Calls Tryz.prog 16 [.agg #[.int .i64 4, .int .i64 2, .slice A exC.length cap]].toArray w (Post B w0 fun v K => v = .tuple #[strV exT, .int .i64 0] ∧ K = H') := fun hr hw => by
    have h := print_spec (exS A cap) ht hr hlc hw
    rw [show (exS A cap).sch = exE from rfl, hpr] at h
    exact h
  have hq : ∀ {H' : List HP} {w : World}, St B w0 H' w → Calls Tryz.prog 18 [strV exT].toArray w (Post B w0 fun v K => ∃ A cap, v = .tuple #[.agg #[.int .i64 4, .int .i64 2, .slice A exC.length cap], .int .i64 (-1), .int .i64 0] ∧ K = cels A cap exC :: H') := fun hw => by
    have h := parse_spec exT (by decide) ht hw
    rw [hpa] at h
    exact h
  have ha : ∀ {H' : List HP} {w : World}, Rd B w0 H' A (exC.flatMap celF) → St B w0 H' w → Calls Tryz.prog 23 [.agg #[.int .i64 4, .int .i64 2, .slice A exC.length cap], .int .i64 6].toArray w (Post B w0 fun v K => ∃ A cap, v = .slice A [((2, 1, 1, 2, 5) : Cel)].length cap ∧ K = cels A cap [(2, 1, 1, 2, 5)] :: H') := fun hr hw => by
    have h := at_spec (exS A cap) 6 hr hlc hw
    rw [show (exS A cap).sch = exE from rfl, ex_at] at h
    exact h
  first | apply VL_callt en16 | apply VL_callq en16
  (repeat (first | exact args_nil | (apply args_cons; exact rfl)))
  exact rfl
  exact fun _ hw => (hp (hrA (by (focus repeat (first | with_reducible exact List.mem_cons_self | with_reducible apply List.mem_cons_of_mem | assumption)))) hw)
  repeat' (first | apply (zs1 ?_) | apply (zs2 ?_) | apply (zs13 ?_) | apply (zs65 ?_) | apply (zs68 ?_) | apply (zs69 ?_) | apply (zs70 ?_) | fail)
  apply VL_call _ en18
  (repeat (first | exact args_nil | (apply args_cons; exact rfl)))
  exact rfl
  exact fun _ hw => (hq (hw))
  rintro _ _ ⟨A2, cap2, rfl, rfl⟩
  repeat' (first | apply (zs1 ?_) | apply (zs2 ?_) | (apply zg3; refine zs8 ?_) | apply (zs13 ?_) | (apply zg22; refine zs51 ?_) | (apply zg24; (refine zs54 ?_; intro _)) | apply (zs65 ?_) | apply (zs68 ?_) | apply (zs69 ?_) | apply (zs70 ?_) | fail)
  apply VL_call _ en23
  (repeat (first | exact args_nil | (apply args_cons; exact rfl)))
  exact rfl
  exact fun _ hw => (ha (hrA (by (focus repeat (first | with_reducible exact List.mem_cons_self | with_reducible apply List.mem_cons_of_mem | assumption)))) (hw))
  rintro _ _ ⟨A3, cap3, rfl, rfl⟩
  repeat' (first | apply (zs2 ?_) | (apply zg3; refine zs8 ?_) | (apply zg25; refine zs55 ?_) | apply (zs65 ?_) | apply (zs68 ?_) | apply (zs69 ?_) | apply (zs70 ?_) | fail)
  first | apply VL_callt en14 | apply VL_callq en14
  (repeat (first | exact args_nil | (apply args_cons; exact rfl)))
  exact rfl
  exact fun _ hw => (check_arg zeroN _ (exS A cap) zeroN_bad zeroN_in hw)
  have hg0 : [((2, 1, 1, 2, 5) : Cel)][(0 : Int).toNat]? = some (2, 1, 1, 2, 5) := rfl
  have hg1 : exC[(1 : Int).toNat]? = some (2, 1, 1, 2, 5) := rfl
  have hlx : exC.length = 2 := rfl
  have hl1 : [((2, 1, 1, 2, 5) : Cel)].length = 1 := rfl
  have hsm : ∀ {H' : List HP} {w : World}, Rd B w0 H' A (exC.flatMap celF) → Rd B w0 H' A2 (exC.flatMap celF) → St B w0 H' w → Calls Tryz.prog 20 [.agg #[.int .i64 4, .int .i64 2, .slice A exC.length cap], .agg #[.int .i64 4, .int .i64 2, .slice A2 exC.length cap2]].toArray w (Post B w0 fun v K => v = .bool true ∧ K = H') := fun hr hr2 hw => by
    have h := rsame_spec (exS A cap) (exS A2 cap2) hlc hlc hr hr2 hw
    rw [decide_eq_true ⟨rfl, rfl, rfl⟩] at h
    exact h
  unfold cels
  repeat' (first | (apply VL_seql; exact rfl; exact rfl; exact rfl; all_goals (intro hE; try (exact absurd rfl hE))) | ((first | apply VL_callt en20 | apply VL_callq en20); (repeat (first | exact args_nil | (apply args_cons; exact rfl))); exact rfl; exact fun _ hw => (hsm (Rd.sl (by (focus repeat (first | with_reducible exact List.mem_cons_self | with_reducible apply List.mem_cons_of_mem | assumption)))) (Rd.sl (by (focus repeat (first | with_reducible exact List.mem_cons_self | with_reducible apply List.mem_cons_of_mem | assumption)))) hw)) | (apply VL_ceql (2, 1, 1, 2, 5) (2, 1, 1, 2, 5); exact rfl; exact rfl; exact rfl; all_goals (intro hE; try (exact absurd rfl hE))) | apply (zs1 ?_) | apply (zs2 ?_) | (apply zg1; refine zs4 ?_) | (apply zg2; refine zs6 ?_) | (apply zg3; first | refine zs7 ?_ | refine zs8 ?_ | refine zs61 ?_) | (apply zg4; refine zs9 ?_) | (apply zg5; refine zs10 ?_) | (apply zg6; refine zs11 ?_) | apply (zs13 ?_) | (apply zg7; (refine zs15 ?_ ?_ <;> intro _ <;> try (exfalso; omega))) | apply (zs65 ?_) | apply (zs66 ?_) | apply (zs68 ?_) | apply (zs69 ?_) | apply (zs74 ?_) | (apply zg28; refine zs84 ?_) | fail)
  apply VQ_st H
  · (intro w hw; refine hw.perm ?_; focus repeat (first | with_reducible exact Perm.refl _ | (with_reducible apply perm_take; focus ((repeat (first | with_reducible exact rem_here | with_reducible apply rem_there)); done)) | with_reducible apply Perm.dropK))
  apply VQ_ret1; exact rfl; exact rfl
  exact ⟨rfl, rfl⟩
end Go.Proofs.YtnkpfpgmbpnbgaaGreatDoor

/- Walks: the law ScheduleReturns. -/
namespace Go.Proofs.YtnkpfpgmbpnbgaaGreatDoor
open Go.RowKit Go.Eng Go.Nw

theorem parse_err {text : List UInt8} (h : (parseE text).2.2 ≠ 0) : (parseE text).1 = zeroS := by
  unfold parseE parseL at h ⊢
  split
  · rfl
  · rename_i h1
    rw [if_neg h1] at h
    split
    · rfl
    · rename_i h2
      rw [if_neg h2] at h
      split
      · rfl
      · rename_i h3
        rw [if_neg h3] at h
        exact absurd rfl h
set_option maxRecDepth 10000 in
set_option maxHeartbeats 1000000 in
theorem law_returns (s : SchM) (text : List UInt8) {B : Nat} {w0 : World} {H : List HP} {w : World} (ht : TabsB B w0) (hr : Rd B w0 H s.A (s.cells.flatMap celF)) (hw : St B w0 H w) :
    Calls Tryz.prog 5 [s.val, strV text].toArray w (Post B w0 fun v K => v = .bool true ∧ K = H) := by
  have hs : (⟨text.toArray⟩ : ByteArray).size = text.length := by simp [ByteArray.size]
  refine Calls_of_VC Tryz.func5 Tryz.ntmps5 rfl rfl hw ?_
  by_cases hg : 60 < s.cells.length ∨ 2000 < text.length
  · rcases hg with hg | hg
    · skip
      repeat' (first | ((first | apply VL_callt en11 | apply VL_callq en11); (repeat (first | exact args_nil | (apply args_cons; exact rfl))); exact rfl; exact fun _ hw => (wake_spec ht hw)) | apply (zs1 ?_) | apply (zs2 ?_) | (apply zg1; refine zs3 ?_) | (apply zg2; refine zs6 ?_) | (apply zg3; refine zs7 ?_) | (apply zg4; refine zs9 ?_) | (apply zg6; refine zs11 ?_) | (apply (zs19 ?_ ?_) <;> intro _ <;> try (exfalso; omega)) | (apply zg20; refine zs47 ?_) | (apply zg23; (refine zs52 ?_; intro _)) | apply (zs65 ?_) | apply (zs68 ?_) | apply (zs69 ?_) | apply (zs70 ?_) | (apply zg27; first | refine zs71 ?_ | refine zs72 ?_) | apply (zs74 ?_) | apply (zs76 ?_) | apply (zs77 ?_) | fail)
      all_goals (
        apply VQ_st H
        · (intro w hw; refine hw.perm ?_; focus repeat (first | with_reducible exact Perm.refl _ | (with_reducible apply perm_take; focus ((repeat (first | with_reducible exact rem_here | with_reducible apply rem_there)); done)) | with_reducible apply Perm.dropK))
        apply VQ_ret1; exact rfl; exact rfl; exact ⟨rfl, rfl⟩)
    · skip
      repeat' (first | ((first | apply VL_callt en11 | apply VL_callq en11); (repeat (first | exact args_nil | (apply args_cons; exact rfl))); exact rfl; exact fun _ hw => (wake_spec ht hw)) | apply (zs1 ?_) | apply (zs2 ?_) | (apply zg1; first | refine zs3 ?_ | refine zs4 ?_) | (apply zg2; refine zs6 ?_) | (apply zg3; refine zs7 ?_) | (apply zg4; first | refine zs9 ?_ | refine zs14 ?_) | (apply zg6; first | refine zs11 ?_ | refine zs12 ?_) | (apply (zs19 ?_ ?_) <;> intro _ <;> try (exfalso; omega)) | (apply zg20; refine zs47 ?_) | (apply zg23; (refine zs52 ?_; intro _)) | apply (zs65 ?_) | apply (zs68 ?_) | apply (zs69 ?_) | apply (zs70 ?_) | (apply zg27; first | refine zs71 ?_ | refine zs72 ?_) | apply (zs74 ?_) | apply (zs76 ?_) | apply (zs77 ?_) | fail)
      all_goals (
        apply VQ_st H
        · (intro w hw; refine hw.perm ?_; focus repeat (first | with_reducible exact Perm.refl _ | (with_reducible apply perm_take; focus ((repeat (first | with_reducible exact rem_here | with_reducible apply rem_there)); done)) | with_reducible apply Perm.dropK))
        apply VQ_ret1; exact rfl; exact rfl; exact ⟨rfl, rfl⟩)
  have hg1 : s.cells.length ≤ 60 := by omega
  have hg2 : text.length ≤ 2000 := by omega
  have hl : s.cells.length ≤ 1000000000000 := by omega
  obtain ⟨⟨⟨ul, uo, uc⟩, ui, ue⟩, hR⟩ : ∃ R, parseE text = R := ⟨_, rfl⟩
  have hpt : ∀ {H' : List HP} {w : World}, St B w0 H' w → Calls Tryz.prog 18 [strV text].toArray w (Post B w0 fun v K => ∃ A cap, v = .tuple #[.agg #[.int .i64 ul, .int .i64 uo, .slice A uc.length cap], .int .i64 ui, .int .i64 ue] ∧ K = cels A cap uc :: H') := fun hw => by
    have h := parse_spec text (by omega) ht hw
    rw [hR] at h
    exact h
  have herr : ue ≠ 0 → uc = [] ∧ ul = 0 := fun h => by
    have h1 := parse_err (text := text) (by rw [hR]; exact h)
    rw [hR] at h1
    have h1 : (⟨ul, uo, uc⟩ : Sch) = zeroS := h1
    unfold zeroS at h1
    injection h1 with h2 h3 h4
    exact ⟨h4, h2⟩
  have hok : ue = 0 → formE ⟨ul, uo, uc⟩ = true ∧ textE ⟨ul, uo, uc⟩ = text := fun h => by
    have h1 := print_parse (text := text) (s := ⟨ul, uo, uc⟩) (i := ui) (by rw [hR, h])
    exact ⟨h1.1, h1.2.1⟩
  have hpu : ue = 0 → ∀ {A : Option Addr} {cap : Nat} {H' : List HP} {w : World}, cels A cap uc ∈ H' → St B w0 H' w → Calls Tryz.prog 16 [.agg #[.int .i64 ul, .int .i64 uo, .slice A uc.length cap]].toArray w (Post B w0 fun v K => v = .tuple #[strV text, .int .i64 0] ∧ K = H') := fun h0 A cap H' w hm hw => by
    obtain ⟨h1, h2⟩ := hok h0
    have hle : uc.length ≤ 512 := (form_iff.1 h1).few
    have h := print_spec ⟨ul, uo, A, cap, uc⟩ ht (Rd.cels hm) (by show uc.length ≤ _; omega) hw
    have h3 : printE (SchM.sch ⟨ul, uo, A, cap, uc⟩) = (text, 0) := by
      show printE ⟨ul, uo, uc⟩ = _
      unfold printE
      rw [h1, if_neg (by decide), h2]
    rw [h3] at h
    exact h
  obtain ⟨e, he⟩ : ∃ e, (printE s.sch).2 = e := ⟨_, rfl⟩
  obtain ⟨t, htt⟩ : ∃ t, (printE s.sch).1 = t := ⟨_, rfl⟩
  have hps : ∀ {H' : List HP} {w : World}, Rd B w0 H' s.A (s.cells.flatMap celF) → St B w0 H' w → Calls Tryz.prog 16 [.agg #[.int .i64 s.len, .int .i64 s.off, .slice s.A s.cells.length s.cap]].toArray w (Post B w0 fun v K => v = .tuple #[strV t, .int .i64 e] ∧ K = H') := fun hr hw => by
    have h := print_spec s ht hr hl hw
    rw [he, htt] at h
    exact h
  have hpe : e = 0 ∨ e ≠ 0 := by omega
  repeat' (first | ((first | apply VL_callt en11 | apply VL_callq en11); (repeat (first | exact args_nil | (apply args_cons; exact rfl))); exact rfl; exact fun _ hw => (wake_spec ht hw)) | apply (zs1 ?_) | apply (zs2 ?_) | (apply zg1; refine zs4 ?_) | (apply zg2; refine zs6 ?_) | (apply zg3; first | refine zs7 ?_ | refine zs8 ?_) | (apply zg4; first | refine zs9 ?_ | refine zs14 ?_) | (apply zg6; refine zs12 ?_) | (apply (zs19 ?_ ?_) <;> intro _ <;> try (exfalso; omega)) | (apply zg20; refine zs47 ?_) | (apply zg23; (refine zs52 ?_; intro _)) | apply (zs65 ?_) | apply (zs68 ?_) | apply (zs69 ?_) | apply (zs70 ?_) | (apply zg27; refine zs72 ?_) | apply (zs76 ?_) | fail)
  first | apply VL_callt en16 | apply VL_callq en16
  (repeat (first | exact args_nil | (apply args_cons; exact rfl)))
  exact rfl
  exact fun _ hw => (hps hr.cons hw)
  rcases hpe with rfl | hpe
  · have hf : formE s.sch = true := by
      cases h : formE s.sch with
      | true => rfl
      | false => unfold printE at he; rw [if_pos h] at he; cases he
    have hte : t = textE s.sch := by rw [← htt]; unfold printE; rw [hf, if_neg (by decide)]
    have htl2 : t.length ≤ 100000 := by
      have h1 := textTo_len (form_iff.1 hf) s.cells.length (Nat.le_refl _)
      have h2 : textTo s.sch s.cells.length = textE s.sch := by
        unfold textTo textE
        rw [show s.sch.cells.take s.cells.length = s.sch.cells from List.take_length]
      rw [h2, ← hte] at h1
      omega
    have hq : ∀ {H' : List HP} {w : World}, St B w0 H' w → Calls Tryz.prog 18 [strV t].toArray w (Post B w0 fun v K => ∃ A cap, v = .tuple #[.agg #[.int .i64 s.len, .int .i64 s.off, .slice A s.cells.length cap], .int .i64 (-1), .int .i64 0] ∧ K = cels A cap s.cells :: H') := fun hw => by
      have h := parse_spec t htl2 ht hw
      have h2 : parseE t = (s.sch, (-1, 0)) := by rw [hte]; exact parse_print hf
      rw [h2] at h
      exact h
    repeat' (first | apply (zs1 ?_) | apply (zs2 ?_) | apply (zs13 ?_) | (apply zg7; (refine zs15 ?_ ?_ <;> intro _ <;> try (exfalso; omega))) | apply (zs65 ?_) | apply (zs68 ?_) | apply (zs69 ?_) | apply (zs70 ?_) | (apply zg27; refine zs71 ?_) | fail)
    apply VL_call _ en18
    (repeat (first | exact args_nil | (apply args_cons; exact rfl)))
    exact rfl
    exact fun _ hw => (hq (hw))
    rintro _ _ ⟨A2, cap2, rfl, rfl⟩
    have hsm : ∀ {H' : List HP} {w : World}, Rd B w0 H' s.A (s.cells.flatMap celF) → Rd B w0 H' A2 (s.cells.flatMap celF) → St B w0 H' w → Calls Tryz.prog 20 [.agg #[.int .i64 s.len, .int .i64 s.off, .slice s.A s.cells.length s.cap], .agg #[.int .i64 s.len, .int .i64 s.off, .slice A2 s.cells.length cap2]].toArray w (Post B w0 fun v K => v = .bool true ∧ K = H') := fun hr hr2 hw => by
      have h := rsame_spec s ⟨s.len, s.off, A2, cap2, s.cells⟩ hl hl hr hr2 hw
      rw [decide_eq_true ⟨rfl, rfl, rfl⟩] at h
      exact h
    repeat' (first | ((first | apply VL_callt en20 | apply VL_callq en20); (repeat (first | exact args_nil | (apply args_cons; exact rfl))); exact rfl; exact fun _ hw => (hsm hr.cons.cons.cons (Rd.cels (cap := cap2) (by (focus repeat (first | with_reducible exact List.mem_cons_self | with_reducible apply List.mem_cons_of_mem | assumption)))) hw)) | apply (zs1 ?_) | apply (zs2 ?_) | (apply zg1; refine zs4 ?_) | (apply zg3; refine zs8 ?_) | (apply zg6; refine zs12 ?_) | apply (zs13 ?_) | (apply zg8; (refine zs16 ?_ ?_ <;> intro _ <;> try (exfalso; omega))) | (apply zg20; refine zs47 ?_) | (apply zg22; refine zs51 ?_) | (apply zg24; (refine zs54 ?_; intro _)) | apply (zs65 ?_) | apply (zs68 ?_) | apply (zs69 ?_) | apply (zs70 ?_) | (apply zg27; refine zs72 ?_) | apply (zs76 ?_) | fail)
    apply VL_call _ en18
    (repeat (first | exact args_nil | (apply args_cons; exact rfl)))
    exact rfl
    exact fun _ hw => (hpt (hw))
    rintro _ _ ⟨A4, cap4, rfl, rfl⟩
    by_cases hu : ue = 0
    · repeat' (first | apply (zs1 ?_) | apply (zs2 ?_) | (apply zg3; refine zs8 ?_) | apply (zs13 ?_) | (apply zg8; (refine zs16 ?_ ?_ <;> intro _ <;> try (exfalso; omega))) | (apply zg22; refine zs51 ?_) | (apply zg24; (refine zs54 ?_; intro _)) | apply (zs65 ?_) | apply (zs68 ?_) | apply (zs69 ?_) | apply (zs70 ?_) | (apply zg27; refine zs72 ?_) | apply (zs76 ?_) | fail)
      first | apply VL_callt en16 | apply VL_callq en16
      (repeat (first | exact args_nil | (apply args_cons; exact rfl)))
      exact rfl
      exact fun _ hw => (hpu hu (by (focus repeat (first | with_reducible exact List.mem_cons_self | with_reducible apply List.mem_cons_of_mem | assumption))) hw)
      repeat' (first | (apply VL_seql; exact rfl; exact rfl; exact rfl; all_goals (intro hE; try (exact absurd rfl hE))) | apply (zs1 ?_) | apply (zs2 ?_) | (apply zg1; refine zs4 ?_) | (apply zg6; refine zs11 ?_) | apply (zs13 ?_) | (apply zg7; (refine zs15 ?_ ?_ <;> intro _ <;> try (exfalso; omega))) | apply (zs65 ?_) | apply (zs68 ?_) | apply (zs69 ?_) | apply (zs70 ?_) | apply (zs74 ?_) | fail)
      apply VQ_st H
      · (intro w hw; refine hw.perm ?_; focus repeat (first | with_reducible exact Perm.refl _ | (with_reducible apply perm_take; focus ((repeat (first | with_reducible exact rem_here | with_reducible apply rem_there)); done)) | with_reducible apply Perm.dropK))
      apply VQ_ret1; exact rfl; exact rfl; exact ⟨rfl, rfl⟩
    · obtain ⟨rfl, rfl⟩ := herr hu
      have hl0 : ([] : List Cel).length = 0 := rfl
      repeat' (first | apply (zs1 ?_) | apply (zs2 ?_) | (apply zg1; refine zs4 ?_) | (apply zg2; refine zs6 ?_) | (apply zg3; refine zs7 ?_) | (apply zg4; refine zs9 ?_) | (apply zg6; refine zs11 ?_) | apply (zs13 ?_) | (apply zg7; (refine zs15 ?_ ?_ <;> intro _ <;> try (exfalso; omega))) | (apply zg8; (refine zs16 ?_ ?_ <;> intro _ <;> try (exfalso; omega))) | (apply zg22; refine zs51 ?_) | (apply zg24; (refine zs54 ?_; intro _)) | apply (zs65 ?_) | apply (zs68 ?_) | apply (zs69 ?_) | apply (zs70 ?_) | (apply zg27; refine zs71 ?_) | apply (zs74 ?_) | apply (zs77 ?_) | fail)
      apply VQ_st H
      · (intro w hw; refine hw.perm ?_; focus repeat (first | with_reducible exact Perm.refl _ | (with_reducible apply perm_take; focus ((repeat (first | with_reducible exact rem_here | with_reducible apply rem_there)); done)) | with_reducible apply Perm.dropK))
      apply VQ_ret1; exact rfl; exact rfl; exact ⟨rfl, rfl⟩
  · repeat' (first | apply (zs1 ?_) | apply (zs2 ?_) | apply (zs13 ?_) | (apply zg7; (refine zs15 ?_ ?_ <;> intro _ <;> try (exfalso; omega))) | apply (zs65 ?_) | apply (zs68 ?_) | apply (zs69 ?_) | apply (zs70 ?_) | (apply zg27; refine zs72 ?_) | apply (zs76 ?_) | fail)
    apply VL_call _ en18
    (repeat (first | exact args_nil | (apply args_cons; exact rfl)))
    exact rfl
    exact fun _ hw => (hpt (hw))
    rintro _ _ ⟨A4, cap4, rfl, rfl⟩
    by_cases hu : ue = 0
    · repeat' (first | apply (zs1 ?_) | apply (zs2 ?_) | (apply zg3; refine zs8 ?_) | apply (zs13 ?_) | (apply zg8; (refine zs16 ?_ ?_ <;> intro _ <;> try (exfalso; omega))) | (apply zg22; refine zs51 ?_) | (apply zg24; (refine zs54 ?_; intro _)) | apply (zs65 ?_) | apply (zs68 ?_) | apply (zs69 ?_) | apply (zs70 ?_) | (apply zg27; refine zs72 ?_) | apply (zs76 ?_) | fail)
      first | apply VL_callt en16 | apply VL_callq en16
      (repeat (first | exact args_nil | (apply args_cons; exact rfl)))
      exact rfl
      exact fun _ hw => (hpu hu (by (focus repeat (first | with_reducible exact List.mem_cons_self | with_reducible apply List.mem_cons_of_mem | assumption))) hw)
      repeat' (first | (apply VL_seql; exact rfl; exact rfl; exact rfl; all_goals (intro hE; try (exact absurd rfl hE))) | apply (zs1 ?_) | apply (zs2 ?_) | (apply zg1; refine zs4 ?_) | (apply zg6; refine zs11 ?_) | apply (zs13 ?_) | (apply zg7; (refine zs15 ?_ ?_ <;> intro _ <;> try (exfalso; omega))) | apply (zs65 ?_) | apply (zs68 ?_) | apply (zs69 ?_) | apply (zs70 ?_) | apply (zs74 ?_) | fail)
      apply VQ_st H
      · (intro w hw; refine hw.perm ?_; focus repeat (first | with_reducible exact Perm.refl _ | (with_reducible apply perm_take; focus ((repeat (first | with_reducible exact rem_here | with_reducible apply rem_there)); done)) | with_reducible apply Perm.dropK))
      apply VQ_ret1; exact rfl; exact rfl; exact ⟨rfl, rfl⟩
    · obtain ⟨rfl, rfl⟩ := herr hu
      have hl0 : ([] : List Cel).length = 0 := rfl
      repeat' (first | apply (zs1 ?_) | apply (zs2 ?_) | (apply zg1; refine zs4 ?_) | (apply zg2; refine zs6 ?_) | (apply zg3; refine zs7 ?_) | (apply zg4; refine zs9 ?_) | (apply zg6; refine zs11 ?_) | apply (zs13 ?_) | (apply zg7; (refine zs15 ?_ ?_ <;> intro _ <;> try (exfalso; omega))) | (apply zg8; (refine zs16 ?_ ?_ <;> intro _ <;> try (exfalso; omega))) | (apply zg22; refine zs51 ?_) | (apply zg24; (refine zs54 ?_; intro _)) | apply (zs65 ?_) | apply (zs68 ?_) | apply (zs69 ?_) | apply (zs70 ?_) | (apply zg27; refine zs71 ?_) | apply (zs74 ?_) | apply (zs77 ?_) | fail)
      apply VQ_st H
      · (intro w hw; refine hw.perm ?_; focus repeat (first | with_reducible exact Perm.refl _ | (with_reducible apply perm_take; focus ((repeat (first | with_reducible exact rem_here | with_reducible apply rem_there)); done)) | with_reducible apply Perm.dropK))
      apply VQ_ret1; exact rfl; exact rfl; exact ⟨rfl, rfl⟩
end Go.Proofs.YtnkpfpgmbpnbgaaGreatDoor

/- From a walk to a row: a law that returns true and leaves memory below as it was. -/
namespace Go.Proofs.YtnkpfpgmbpnbgaaGreatDoor
open Go.ChangeShapes Go.WideShapes Go.ChangeAt Go.RowKit

section
variable {H : Type} {enc : TypeId × Value → H} {P : Program}

theorem trodAll_keep (hl : laidOutB P = true) {W W' : World} {sp : Nat → Bool} : ∀ {ts : List TypeId} {vs : List Value} {ds : List (DataW H)} {ps : List MemPlace}, (ts.all fun t => P.readableRec t && decide (t < P.types.size)) = true →
    DataW.TrodAll enc P W 0 (fun _ => true) true ts vs ds ps → (∀ p ∈ ps, W.sameAt W' p) → (∀ p ∈ ps, sp p.block = true) → DataW.TrodAll enc P W' 0 sp true ts vs ds ps
  | [], [], [], _, _, h, _, _ => h
  | [], [], _ :: _, _, _, h, _, _ => h.elim
  | [], _ :: _, _, _, _, h, _, _ => h.elim
  | _ :: _, [], _, _, _, h, _, _ => h.elim
  | _ :: _, _ :: _, [], _, _, h, _, _ => h.elim
  | t :: ts, v :: vs, d :: ds, ps, hr, h, hs, hp => by
    obtain ⟨p, q, h1, h2, rfl⟩ := h
    simp only [List.all_cons, Bool.and_eq_true, decide_eq_true_eq] at hr
    exact ⟨p, q, WideElems.Trod_stays hl hr.1.1 hr.1.2 h1 (fun x hx => hs x (by simp [hx])) (fun x hx => hp x (by simp [hx])), trodAll_keep hl hr.2 h2 (fun x hx => hs x (by simp [hx])) (fun x hx => hp x (by simp [hx])), rfl⟩

/-- The call returned true, and below the heap's old end nothing is changed: what the row asks. -/
theorem post_true {f : Func} {s : ChangeSpec} {apart fresh handsOn again : Bool} {W W' : World} {args : Array Value} {ds gs : List (DataW H)} {before : List MemPlace} {tb : TypeId} (hl : laidOutB P = true)
    (hrd : (f.params.toList.all fun t => P.readableRec t && decide (t < P.types.size)) = true) (hv : s.vars = []) (hrt : f.resultTypes = #[tb]) (htb : P.underlying tb = some .bool)
    (hW : DataW.Whole enc P f.params.toList s.vars apart W args.toList ds gs before) (hb : Below W.heap.size W W')
    (hres : (s.fn H (ds ++ gs)).results = [.lit (.bool true)]) (hargs : (s.fn H (ds ++ gs)).args = ds) (hvars : (s.fn H (ds ++ gs)).vars = []) :
    s.post enc P f apart fresh handsOn again W args (.bool true) W' := by
  have hlt : ∀ p ∈ before, p.block < W.heap.size := fun p hp => hW.lt p hp
  have hW0 := hW
  obtain ⟨p, q, hA, hV, rfl, hz, hn⟩ := hW
  rw [hv] at hV
  have hq : gs = [] ∧ q = [] := by
    cases gs with
    | nil => exact ⟨rfl, hV⟩
    | cons _ _ => exact hV.elim
  obtain ⟨rfl, rfl⟩ := hq
  have hkeep : ∀ sp : Nat → Bool, (∀ x ∈ p ++ [], sp x.block = true) → DataW.TrodAll enc P W' 0 sp true f.params.toList args.toList ds p := fun sp hsp =>
    trodAll_keep hl hrd hA (fun x hx => hb.same (hlt x (by simpa using hx))) (fun x hx => hsp x (by simpa using hx))
  have hR : ∀ (b : Nat) (sp : Nat → Bool) (hd : Bool), DataW.TrodAll enc P W' b sp hd f.resultTypes.toList ((Value.bool true).resultList f.resultTypes.size) (s.fn H (ds ++ [])).results [] := by
    intro b sp hd
    rw [hres, hrt]
    exact trodAll_mk1 (shut_bool htb true)
  have hok := ok_one (P := P) (W' := W') (f := f) (v := .bool true) hrt rfl (okWide_bool_mk htb true)
  have hold : ∀ x ∈ p ++ [], (fun b => decide (b < W.heap.size)) x.block = true := fun x hx => by simpa using hlt x hx
  refine ⟨ds, [], p ++ [], [], p, [], hW0, hR _ _ _, by rw [hargs]; exact hkeep _ hold, by rw [hvars, hv]; rfl, World.keptBut_mono (fun x hx => ⟨hx, Or.inr (by simpa using hx)⟩) (hb.frame (· ∈ p ++ [])), fun _ => ?_⟩
  refine ⟨hok, _, _, ([] ++ p) ++ [], ⟨[] ++ p, [], trodAll_append (hkeep _ (fun _ _ => rfl)) (hR _ _ _), (show DataW.TrodVars enc P W' (fun _ => true) s.vars [] [] by rw [hv]; rfl), rfl, ?_, ?_⟩, ?_⟩
  · intro b off hp
    have hin : MemPlace.cell b off ∈ p ++ [] := by simpa using hp
    rw [hb.frozen (hlt _ hin)]
    exact hz b off hin
  · intro ha
    simpa using hn ha
  · intro x hx _
    simpa using hx
end
end Go.Proofs.YtnkpfpgmbpnbgaaGreatDoor

/- From a walk to a tied card: what the listed variables hold; a world that meets the condition. -/
namespace Go.Proofs.YtnkpfpgmbpnbgaaGreatDoor
open Go.ChangeShapes Go.WideShapes Go.ChangeAt Go.RowKit Go.Eng

section
variable {H : Type} {enc : TypeId × Value → H}
/-- The wrap of a row that lists variables, the world's shape kept. -/
theorem handed_and_shaped {a : Assume} {C : Checked} {os : Os} {f : FuncId} {fn : Func} {s : ChangeSpec} {conds : List PathCond} {apart fresh handsOn again : Bool} {X : World → Prop} (hX : ∀ w w' : World, w.heap = w'.heap → X w → X w')
    (own : ownKnob C.prog.godebug = none) (started : os.Started) (noInit : C.prog.inits.idxOf? f = none) (hfn : C.prog.funcs[f]? = some fn)
    (witness : ∃ (w : World) (tape : Tape) (i : Input), w.os = os ∧ (w.forCall tape i).Shaped C.prog ∧ i.vars = [] ∧ Input.okWide C.prog (w.forCall tape i) .any w.heap.size f i ∧
      ((s.pre enc C.prog fn conds apart (w.forCall tape i).memory i.args ∧ X (w.forCall tape i).memory) ∧ sizedMet enc C.prog fn (OpenSpec.ofChange s) apart (w.forCall tape i).memory i.args) ∧ a.holds C.prog (lone (Frame.enter C.prog f i.args .normal) [] (w.forCall tape i)))
    (contract : ∀ (W : World) (base : Nat) (args : Array Value) (ds gs : List (DataW H)) (before : List MemPlace),
      (∀ (j : Nat) t v, fn.params[j]? = some t → args[j]? = some v → Value.okWide C.prog W .any base t v) →
      DataW.Whole enc C.prog fn.params.toList s.vars apart W args.toList ds gs before → X W → W.ShapedOpen C.prog →
      Calls C.prog f args W fun e W' => ∃ v, e = .returned v ∧ s.post enc C.prog fn apart fresh handsOn again W args v W') :
    ReturnsInHanded a C os f .any (fun w args => (s.pre enc C.prog fn conds apart w args ∧ X w) ∧ sizedMet enc C.prog fn (OpenSpec.ofChange s) apart w args) (s.post enc C.prog fn apart fresh handsOn again) := by
  refine returnsInHanded_of_calls own started noInit witness ?_
  intro w tape i _ hsh _ hok hpre _
  obtain ⟨_, _, _, fn', hfn', _, _, _, _, hval⟩ := hok
  have e : fn' = fn := Option.some.inj (hfn'.symm.trans hfn)
  subst e
  obtain ⟨⟨⟨ds, gs, before, hw, _⟩, hx⟩, _⟩ := hpre
  have hw' := DataW.Whole.of_heap (w' := w.forCall tape i) (by rfl) hw
  refine (contract (w.forCall tape i) w.heap.size i.args ds gs before hval hw' (hX _ _ (by rfl) hx) hsh).mono fun e W' ⟨v, he, hp⟩ => ?_
  subst he
  exact ChangeSpec.post_blind hp
end

/-- The variables that each row of this layer lists. -/
def laidL : List (String × DataW Unit) := [("math/bits.deBruijn32tab", Rows.laid_math_bits_deBruijn32tab), ("math/bits.deBruijn64tab", Rows.laid_math_bits_deBruijn64tab), ("internal/strconv.uint64pow10", Rows.laid_internal_strconv_uint64pow10), ("unicode/utf8.acceptRanges", Rows.laid_unicode_utf8_acceptRanges), ("strconv.ErrRange", Rows.laid_strconv_ErrRange), ("strconv.ErrSyntax", Rows.laid_strconv_ErrSyntax), ("unicode/utf8.first", Rows.laid_unicode_utf8_first)]
def litV : DataW Unit → Value
  | .lit (.int k z) => .int k z
  | _ => .bool false
def litsV : DataW Unit → List Value
  | .agg l => l.map litV
  | _ => []
/-- The world that the door leaves, utf8's table laid. -/
noncomputable def laidWorld (os : Os) : World :=
  let w0 := World.doorLaid Tryz.prog 72 os
  { w0 with heap := w0.heap.modify ((Tryz.prog.globalNamed "unicode/utf8.first").getD 0) fun
      | .cells _ t frozen => .cells (litsV Go.Pinned.utf8First).toArray t frozen
      | o => o }
theorem laidL_plain (w : World) : laidMetH Tryz.prog laidL w = laidMet Tryz.prog laidL w := MakeChecks.laidMetH_plain _ _ _ (by kernel_rfl)
theorem laidWorld_met (os : Os) (args : Array Value) : laidMetH Tryz.prog laidL ((laidWorld os).forCall (fun _ _ => 0) ⟨#[], args, []⟩).memory := by
  rw [laidL_plain]
  exact laidMet_of_run3 8 (by kernel_rfl) (by kernel_rfl) (by kernel_rfl)
theorem laidWorld_shaped (os : Os) (args : Array Value) : ((laidWorld os).forCall (fun _ _ => 0) ⟨#[], args, []⟩).Shaped Tryz.prog := World.shaped_of_RefB (by kernel_rfl) (by kernel_rfl)

theorem var_below {W w : World} {n : String} {cs : Array Value} (h : W.var? Tryz.prog n = some cs) (hb : Below W.heap.size W w) : w.var? Tryz.prog n = some cs := by
  unfold World.var? at h ⊢
  cases hg : Tryz.prog.globalNamed n with
  | none => rw [hg] at h; cases h
  | some g =>
    rw [hg] at h
    simp only [Option.bind_some] at h ⊢
    rcases Nat.lt_or_ge g W.heap.size with hlt | hge
    · rw [hb.block g hlt]; exact h
    · rw [Array.getElem?_eq_none hge] at h; cases h
theorem err_cell {W : World} {n : String} {s : String} {d : DataW Unit} (hT : (Tryz.prog.globalNamed n).bind (fun g => (Tryz.prog.globals[g]?).map (·.type)) = some 85) (h : Lib.VarReads Tryz.prog W n (.iface s d)) : ∃ tp p, W.var? Tryz.prog n = some #[.iface tp p] := by
  obtain ⟨g, t, cs, fuel, p, h1, h2, h3, h4⟩ := h
  rw [h1] at hT
  obtain rfl : t = 85 := Option.some.inj (h2.symm.trans hT)
  obtain ⟨_, u, v, e, _⟩ := iface_of_trod Tryz.underlying85 h4
  refine ⟨u, v, ?_⟩
  rw [h3, Array.eq_one_of_toList e]
theorem tabs_of {W : World} (hL : laidMetH Tryz.prog laidL W) (hsh : W.ShapedOpen Tryz.prog) : TabsB W.heap.size W := by
  rw [laidL_plain] at hL
  have hpow : Lib.TabIs Tryz.prog W "internal/strconv.uint64pow10" .u64 Lib.pow10Tab := by
    obtain ⟨g, t, cs, fuel, p, h1, h2, h3, h4⟩ := Lib.laidMet.reads hL (n := "internal/strconv.uint64pow10") (d := Rows.laid_internal_strconv_uint64pow10) (by unfold laidL; simp)
    have hT : (Tryz.prog.globalNamed "internal/strconv.uint64pow10").bind (fun g => (Tryz.prog.globals[g]?).map (·.type)) = some 175 := by kernel_rfl
    rw [h1] at hT
    obtain rfl : t = 175 := Option.some.inj (h2.symm.trans hT)
    have h5 : Rows.laid_internal_strconv_uint64pow10 (H := Unit) = Lib.tabData .u64 Lib.pow10Tab := by kernel_rfl
    rw [h5] at h4
    have h6 := Lib.cells_of_tab Tryz.underlying175 Tryz.underlying162 (by kernel_rfl) (by kernel_rfl) h4
    unfold Lib.TabIs
    rw [h3, ← h6]
  obtain ⟨tp1, p1, hsy⟩ := err_cell (n := "strconv.ErrSyntax") (by kernel_rfl) (Lib.laidMet.reads hL (n := "strconv.ErrSyntax") (d := Rows.laid_strconv_ErrSyntax) (by unfold laidL; simp))
  obtain ⟨tp2, p2, hrg⟩ := err_cell (n := "strconv.ErrRange") (by kernel_rfl) (Lib.laidMet.reads hL (n := "strconv.ErrRange") (d := Rows.laid_strconv_ErrRange) (by unfold laidL; simp))
  obtain ⟨m, hm⟩ := Go.Proofs.cell_of_shapedOpen_int (P := Tryz.prog) (g := 0) (k := .i64) (zero := #[.int .i64 0]) (t := 3) hsh (of_decide_eq_true (by kernel_rfl)) (by kernel_rfl) rfl (by kernel_rfl) (by kernel_rfl) Tryz.underlying3
  intro w hb
  refine ⟨var_below hpow hb, ⟨tp1, p1, var_below hsy hb⟩, ⟨tp2, p2, var_below hrg hb⟩, m, ?_⟩
  have hlt : 0 < W.heap.size := by
    rcases Nat.eq_zero_or_pos W.heap.size with h | h
    · simp [World.cell?, Array.getElem?_eq_none (show W.heap.size ≤ 0 by omega)] at hm
    · exact h
  exact (hb.cell (p := ⟨0, 0, none⟩) hlt).trans hm
theorem Tryz.own : ownKnob Tryz.prog.godebug = none := by kernel_rfl
theorem Tryz.laidOut : laidOutB Tryz.prog = true := by kernel_rfl
end Go.Proofs.YtnkpfpgmbpnbgaaGreatDoor

/- From arguments that came in to rows that are only read. -/
namespace Go.Eng
open Go.ChangeShapes Go.WideShapes Go.ChangeAt Go.RowKit Go.Deep

/-- In this world the cells xs lie from A on. -/
def Old (W : World) (A : Option Addr) (xs : List Value) : Prop := ∀ j v, xs[j]? = some v → ∃ g o, A = some ⟨g, o, none⟩ ∧ g < W.heap.size ∧ W.cell? ⟨g, o + j, none⟩ = some v
theorem Old.rd {W : World} {H : List HP} {A : Option Addr} {xs : List Value} (h : Old W A xs) : Rd W.heap.size W H A xs := Rd.old h

theorem cell_lt {W : World} {a : Addr} {v : Value} (h : W.cell? a = some v) : a.block < W.heap.size := by
  unfold World.cell? at h
  rcases Nat.lt_or_ge a.block W.heap.size with h1 | h1
  · exact h1
  · rw [Array.getElem?_eq_none h1] at h; cases h

section
variable {H : Type} {enc : TypeId × Value → H} {P : Program} {W : World} {held : Bool}

/-- A slice that came in: its elements, and where they lie; f: an element's cells; good: what is known of an element. -/
theorem open_rows {α : Type} {f : α → List Value} {good : α → Prop} {t e q : Nat} {fuel : Nat} {A : Option Addr} {len cap : Nat} {x : DataW H × List MemPlace} {spare : Nat → Bool} (ht : P.underlying t = some (.slice e)) (hc : P.cellsOf e = q) (h0 : 0 < q)
    (hel : ∀ n cs y, cs.length = q → DataW.trod enc P W 0 spare held n e cs = some y → ∃ a, cs = f a ∧ good a) (h : DataW.trod enc P W 0 spare held fuel t [.slice A len cap] = some x) :
    ∃ l : List α, l.length = len ∧ Old W A (l.flatMap f) ∧ (∀ a ∈ l, good a) ∧ len ≤ maxLen ∧ (∀ a ∈ l, (f a).length = q) := by
  rcases open_slice ht h with ⟨h1, _⟩ | ⟨a, len', cap', m, n, D, Pl, h1, _, hl, hm, hmm, hxx, hx⟩
  · injection h1 with h1 _
    injection h1 with h1 h2 h3
    subst h1 h2 h3
    exact ⟨[], rfl, (fun j v hv => by simp at hv), (fun a ha => by cases ha), Nat.zero_le _, (fun a ha => by cases ha)⟩
  · injection h1 with h1 _
    injection h1 with h1 h2 h3
    subst h1 h2 h3
    have hle : len ≤ m := by rw [hmm]; split <;> omega
    rw [hc] at hx
    have key : ∀ i, i < len → ∃ b : α, W.cells? 0 (a.add (i * q)) q = some (f b) ∧ good b := fun i hi => by
      obtain ⟨cs', h2, h3⟩ := hx i (by omega)
      obtain ⟨_, h5, _⟩ := World.cells?_some h2
      obtain ⟨b, rfl, hb⟩ := hel n cs' _ h5 h3
      exact ⟨b, h2, hb⟩
    obtain ⟨l, hlen, hl2⟩ : ∃ l : List α, l.length = len ∧ ∀ i b, l[i]? = some b → W.cells? 0 (a.add (i * q)) q = some (f b) ∧ good b := by
      clear hx hmm hle h hl hm hxx
      induction len with
      | zero => exact ⟨[], rfl, fun i b hb => by simp at hb⟩
      | succ k ih =>
        obtain ⟨l, h2, h3⟩ := ih (fun i hi => key i (by omega))
        obtain ⟨b, h4⟩ := key k (by omega)
        refine ⟨l ++ [b], by simp [h2], fun i c hc => ?_⟩
        by_cases hi : i < l.length
        · rw [List.getElem?_append_left hi] at hc; exact h3 i c hc
        · rw [List.getElem?_append_right (by omega)] at hc
          have hi2 : i - l.length = 0 := by
            have := (List.getElem?_eq_some_iff.1 hc).1
            simp at this; omega
          rw [hi2] at hc
          obtain rfl : b = c := by simpa using hc
          obtain rfl : i = k := by omega
          exact h4
    have hfq : ∀ b ∈ l, (f b).length = q := fun b hb => by
      obtain ⟨i, hi⟩ := List.getElem?_of_mem hb
      exact (World.cells?_some (hl2 i b hi).1).2.1
    refine ⟨l, hlen, fun j v hv => ?_, fun b hb => ?_, by omega, hfq⟩
    · have hspl : ∃ i b, l[i]? = some b ∧ ∃ r, j = i * q + r ∧ r < q ∧ (f b)[r]? = some v := by
        clear hlen hl2 key
        induction l generalizing j with
        | nil => simp at hv
        | cons b l ih =>
          rw [List.flatMap_cons] at hv
          have hb := hfq b (by simp)
          by_cases hj : j < q
          · rw [List.getElem?_append_left (by omega)] at hv
            exact ⟨0, b, rfl, j, by omega, hj, hv⟩
          · rw [List.getElem?_append_right (by omega), hb] at hv
            obtain ⟨i, b', h5, r, h6, h7, h8⟩ := ih (fun c hc => hfq c (by simp [hc])) (j - q) hv
            exact ⟨i + 1, b', by simpa using h5, r, by rw [Nat.add_mul]; omega, h7, h8⟩
      obtain ⟨i, b, h5, r, rfl, h7, h8⟩ := hspl
      have h9 := (World.cells?_some (hl2 i b h5).1).2.2 r h7
      rw [h8, add_add] at h9
      obtain ⟨ab, ao, spot⟩ := a
      have hs0 : spot = none := by
        have h10 := World.cell?_spot h9
        unfold Addr.add at h10
        split at h10
        · exact h10
        · rename_i hne
          have hi0 : i < len := by have := (List.getElem?_eq_some_iff.1 h5).1; omega
          have h11 := (World.cells?_some (hl2 0 l[0] (List.getElem?_eq_getElem (by omega))).1).2.2 0 h0
          rw [add_add, Nat.zero_mul, Nat.zero_add] at h11
          have hf0 : ((f l[0])[0]?).isSome = true := by
            rw [List.getElem?_eq_getElem (by rw [hfq _ (List.getElem_mem _)]; exact h0)]; rfl
          cases hf1 : (f l[0])[0]? with
          | none => rw [hf1] at hf0; cases hf0
          | some u =>
            rw [hf1] at h11
            exact World.cell?_spot h11
      subst hs0
      refine ⟨ab, ao, rfl, ?_, ?_⟩
      · have := cell_lt h9
        rw [Addr.add_lit] at this
        exact this
      · rw [Addr.add_lit] at h9
        exact h9
    · obtain ⟨i, hi⟩ := List.getElem?_of_mem hb
      exact (hl2 i b hi).2

end
end Go.Eng

/- From arguments that came in to what the walks speak of: openers, built up as types are. -/
namespace Go.Eng
open Go.ChangeShapes Go.WideShapes Go.ChangeAt Go.RowKit Go.Deep

/-- A slice: where it lies, its capacity, its elements. -/
structure SlM (α : Type) where
  A : Option Addr
  cap : Nat
  xs : List α
def SlM.val {α : Type} (s : SlM α) : Value := .slice s.A s.xs.length s.cap

section
variable {H : Type} {enc : TypeId × Value → H} {P : Program} {W : World} {spare : Nat → Bool} {held : Bool}

/-- Cells that are read as a value of type t are those of some a that is good. -/
def Opn (enc : TypeId × Value → H) (P : Program) (W : World) (spare : Nat → Bool) (held : Bool) (t : TypeId) {α : Type} (f : α → List Value) (good : α → Prop) : Prop :=
  ∀ fuel cs y, DataW.trod enc P W 0 spare held fuel t cs = some y → ∃ a, cs = f a ∧ good a

theorem op_map {t : TypeId} {α β : Type} {f : α → List Value} {good : α → Prop} {f' : β → List Value} {good' : β → Prop} (h : Opn enc P W spare held t f good) (g : α → β) (hf : ∀ a, f a = f' (g a)) (hg : ∀ a, good a → good' (g a)) : Opn enc P W spare held t f' good' := by
  intro fuel cs y hy
  obtain ⟨a, h1, h2⟩ := h fuel cs y hy
  exact ⟨g a, h1.trans (hf a), hg a h2⟩

theorem op_int {t : TypeId} {k : IntKind} (ht : P.underlying t = some (.int k)) : Opn enc P W spare held t (fun z : Int => [Value.int k z]) (fun z => (Lit.int k z).wf = true) := by
  intro fuel cs y hy
  obtain ⟨m, rfl, rfl, hw⟩ := DataW.trod_int ht hy
  exact ⟨m, rfl, hw⟩

/-- What is known of a slice that came in. -/
structure SlG {α : Type} (W : World) (f : α → List Value) (good : α → Prop) (s : SlM α) : Prop where
  old : Old W s.A (s.xs.flatMap f)
  good : ∀ a ∈ s.xs, good a
  len : s.xs.length ≤ maxLen
  cap : s.xs.length ≤ s.cap

theorem op_slice {t e q : TypeId} {α : Type} {f : α → List Value} {good : α → Prop} (ht : P.underlying t = some (.slice e)) (hc : P.cellsOf e = q) (h0 : 0 < q) (h : Opn enc P W spare held e f good) : Opn enc P W spare held t (fun s : SlM α => [s.val]) (SlG W f good) := by
  intro fuel cs y hy
  rcases open_slice ht hy with ⟨rfl, _⟩ | ⟨a, len, cap, m, n, D, Pl, rfl, _, hlc, _⟩
  · exact ⟨⟨none, 0, []⟩, rfl, ⟨(fun j v hv => by simp at hv), (fun a ha => by cases ha), Nat.zero_le _, Nat.zero_le _⟩⟩
  · obtain ⟨l, h1, h2, h3, h4, _⟩ := open_rows ht hc h0 (fun n cs y _ hy => h n cs y hy) hy
    subst h1
    exact ⟨⟨some a, cap, l⟩, rfl, h2, h3, h4, hlc⟩

/-- The same for the fields of a struct, one behind the other. -/
def FOpn (enc : TypeId × Value → H) (P : Program) (W : World) (spare : Nat → Bool) (held : Bool) (ts : List TypeId) {α : Type} (f : α → List Value) (good : α → Prop) : Prop :=
  ∀ (n : Nat) (cs : List Value), cs.length = (ts.map P.cellsOf).sum → (∀ i t, ts[i]? = some t → ∃ y, DataW.trod enc P W 0 spare held n t ((cs.drop ((ts.take i).map P.cellsOf).sum).take (P.cellsOf t)) = some y) → ∃ a, cs = f a ∧ good a

theorem fop_nil : FOpn enc P W spare held [] (fun _ : Unit => []) (fun _ => True) := fun n cs h _ => ⟨(), List.eq_nil_of_length_eq_zero (by simpa using h), trivial⟩
theorem fop_cons {t : TypeId} {ts : List TypeId} {α β : Type} {f : α → List Value} {good : α → Prop} {g : β → List Value} {good' : β → Prop} (h : Opn enc P W spare held t f good) (hs : FOpn enc P W spare held ts g good') :
    FOpn enc P W spare held (t :: ts) (fun x : α × β => f x.1 ++ g x.2) (fun x => good x.1 ∧ good' x.2) := by
  intro n cs hl hx
  simp only [List.map_cons, List.sum_cons] at hl
  obtain ⟨y, hy⟩ := hx 0 t rfl
  simp only [List.take_zero, List.map_nil, List.sum_nil, List.drop_zero] at hy
  obtain ⟨a, h1, h2⟩ := h n _ y hy
  obtain ⟨b, h3, h4⟩ := hs n (cs.drop (P.cellsOf t)) (by simp; omega) (fun i u hu => by
    obtain ⟨y, hy⟩ := hx (i + 1) u (by simpa using hu)
    refine ⟨y, ?_⟩
    rw [List.drop_drop]
    simpa using hy)
  exact ⟨(a, b), by show cs = f a ++ g b; rw [← h1, ← h3, List.take_append_drop], h2, h4⟩

def offs (P : Program) : List TypeId → Nat → List Nat
  | [], _ => []
  | t :: ts, o => o :: offs P ts (o + P.cellsOf t)
theorem offs_get (P : Program) : ∀ (ts : List TypeId) (o i : Nat), i < ts.length → (offs P ts o)[i]? = some (o + ((ts.take i).map P.cellsOf).sum)
  | [], _, _, h => by simp at h
  | t :: ts, o, 0, _ => by simp [offs]
  | t :: ts, o, i + 1, h => by
    rw [offs, List.getElem?_cons_succ, offs_get P ts _ i (by simpa using h)]
    simp [Nat.add_assoc]
/-- A struct whose fields have these types, one behind the other. -/
def structB (P : Program) (t : TypeId) (ts : List TypeId) : Bool :=
  match P.underlying t with
  | some (.struct fs) => (fs.toList.map (·.type) == ts) && (fs.toList.map (·.offset) == offs P ts 0) && (P.cellsOf t == (ts.map P.cellsOf).sum)
  | _ => false

theorem op_struct {t : TypeId} {ts : List TypeId} {α : Type} {f : α → List Value} {good : α → Prop} (hB : structB P t ts = true) (h : FOpn enc P W spare held ts f good) : Opn enc P W spare held t f good := by
  intro fuel cs y hy
  unfold structB at hB
  cases hu : P.underlying t with
  | none => rw [hu] at hB; cases hB
  | some d =>
    rw [hu] at hB
    cases d with
    | struct fs =>
      simp only [Bool.and_eq_true, beq_iff_eq] at hB
      obtain ⟨⟨h1, h2⟩, h3⟩ := hB
      obtain ⟨xs, n, _, _, hl, hn, hx⟩ := DataW.trod_struct hu hy
      refine h n cs (hl.trans h3) fun i u hi => ?_
      have hlt : i < ts.length := (List.getElem?_eq_some_iff.1 hi).1
      have hlf : i < fs.toList.length := by rw [← h1] at hlt; simpa using hlt
      have hf : fs[i]? = some (fs.toList[i]) := by rw [← Array.getElem?_toList, List.getElem?_eq_getElem hlf]
      have ht : (fs.toList[i]).type = u := by
        rw [← h1, List.getElem?_map, List.getElem?_eq_getElem hlf] at hi
        simpa using hi
      have ho : (fs.toList[i]).offset = ((ts.take i).map P.cellsOf).sum := by
        have h5 := offs_get P ts 0 i hlt
        rw [← h2, List.getElem?_map, List.getElem?_eq_getElem hlf] at h5
        simpa using h5
      have h6 := hx i _ hf
      rw [ht, ho] at h6
      have hlx : i < xs.length := by rw [hn]; simpa using hlf
      exact ⟨xs[i], by rw [h6, List.getElem?_eq_getElem hlx]⟩
    | _ => cases hB

end
end Go.Eng

/- A network that came in as an argument. -/
namespace Go.Proofs.YtnkpfpgmbpnbgaaGreatDoor
open Go.ChangeShapes Go.WideShapes Go.ChangeAt Go.RowKit Go.Eng Go.Nw

section
variable {H : Type} {enc : TypeId × Value → H} {W : World} {spare : Nat → Bool} {held : Bool}
abbrev I64 (z : Int) : Prop := (Lit.int .i64 z).wf = true
theorem op_i : Opn enc Tryz.prog W spare held 3 numF I64 := op_int Tryz.underlying3
structure NetG (W : World) (n : NetM) : Prop where
  nodes : I64 n.nodes
  pw : Old W n.pA (n.rows.flatMap rowF)
  rw_ : ∀ r ∈ n.rows, Old W r.A (r.xs.flatMap numF)
  noise : I64 n.noise
  thr : I64 n.thr
  lk : Old W n.lA (n.links.flatMap lkF)
  mg : Old W n.mA (n.margin.flatMap numF)
  s1 : n.rows.length ≤ 9223372036854775807
  s2 : ∀ r ∈ n.rows, r.xs.length ≤ 9223372036854775807
  s3 : n.links.length ≤ 9223372036854775807
  s4 : n.margin.length ≤ 9223372036854775807
  w1 : ∀ r ∈ n.rows, ∀ z ∈ r.xs, I64 z
  w2 : ∀ l ∈ n.links, I64 l.1 ∧ I64 l.2.1 ∧ I64 l.2.2
  w3 : ∀ z ∈ n.margin, I64 z
  c3 : n.links.length ≤ n.lcap
  c4 : n.margin.length ≤ n.mcap
theorem NetG.In {n : NetM} {K : List HP} (h : NetG W n) : n.In W.heap.size W K := ⟨h.pw.rd, fun r hr => (h.rw_ r hr).rd, h.lk.rd, h.mg.rd, h.s1, h.s2, h.s3, h.s4⟩

theorem maxL : maxLen ≤ 9223372036854775807 := by decide
end
end Go.Proofs.YtnkpfpgmbpnbgaaGreatDoor

/- From a row's argument to a schedule, a cell, a list of flows, a text. -/
namespace Go.Proofs.YtnkpfpgmbpnbgaaGreatDoor
open Go.ChangeShapes Go.WideShapes Go.ChangeAt Go.RowKit Go.Eng Go.Nw
open Go.ChangeMaps (open_string)

section
variable {H : Type} {enc : TypeId × Value → H} {W : World} {spare : Nat → Bool} {held : Bool}
abbrev CelG (c : Cel) : Prop := I64 c.1 ∧ I64 c.2.1 ∧ I64 c.2.2.1 ∧ I64 c.2.2.2.1 ∧ I64 c.2.2.2.2
theorem op_cell : Opn enc Tryz.prog W spare held 51 celF CelG :=
  op_map (op_struct (ts := [3, 3, 3, 3, 3]) (by kernel_rfl) (fop_cons op_i (fop_cons op_i (fop_cons op_i (fop_cons op_i (fop_cons op_i fop_nil)))))) (fun x => (x.1, x.2.1, x.2.2.1, x.2.2.2.1, x.2.2.2.2.1)) (fun _ => rfl) (fun _ h => ⟨h.1, h.2.1, h.2.2.1, h.2.2.2.1, h.2.2.2.2.1⟩)
theorem op_cells : Opn enc Tryz.prog W spare held 28 (fun s : SlM Cel => [s.val]) (SlG W celF CelG) := op_slice (q := 5) Tryz.underlying28 (by kernel_rfl) (by decide) op_cell
structure SchG (W : World) (s : SchM) : Prop where
  len : I64 s.len
  off : I64 s.off
  old : Old W s.A (s.cells.flatMap celF)
  few : s.cells.length ≤ 9223372036854775807
  good : ∀ c ∈ s.cells, CelG c
  cap : s.cells.length ≤ s.cap
def schF (s : SchM) : List Value := [.int .i64 s.len, .int .i64 s.off, .slice s.A s.cells.length s.cap]
theorem op_sch : Opn enc Tryz.prog W spare held 30 schF (SchG W) :=
  op_map (op_struct (ts := [3, 3, 28]) (by kernel_rfl) (fop_cons op_i (fop_cons op_i (fop_cons op_cells fop_nil))))
    (fun x => ⟨x.1, x.2.1, x.2.2.1.A, x.2.2.1.cap, x.2.2.1.xs⟩) (fun x => by simp [schF, numF, SlM.val])
    (fun x h => by
      obtain ⟨h1, h2, h3, _⟩ := h
      exact ⟨h1, h2, h3.old, Nat.le_trans h3.len maxL, h3.good, h3.cap⟩)
set_option maxRecDepth 100000 in
theorem open_sch {r : Reach} {b0 : Nat} {v : Value} {d : DataW H} {p : List MemPlace} (hv : Value.okWide Tryz.prog W r b0 30 v) (h : DataW.Trod enc Tryz.prog W 0 spare held 30 v d p) : ∃ s : SchM, v = s.val ∧ SchG W s := by
  obtain ⟨cs, rfl, _⟩ := okWide_struct Tryz.underlying30 hv
  obtain ⟨fuel, hf⟩ := h
  obtain ⟨n, h1, h2⟩ := op_sch fuel _ _ hf
  refine ⟨n, ?_, h2⟩
  have : cs = (schF n).toArray := by rw [← h1]; simp [Value.cells]
  rw [this]; rfl
theorem str_list (s : ByteArray) : ∃ l : List UInt8, s = ⟨l.toArray⟩ := ⟨s.data.toList, by cases s; simp⟩
end
end Go.Proofs.YtnkpfpgmbpnbgaaGreatDoor

/- The law ScheduleReturns returns true at every input, and its arguments read behind the call as they read before: the statement Rows.ScheduleReturnsCardSaid. Condition: the listed package-level variables start as the program's text lays them, to which the card ties them. -/
namespace Go.Proofs.YtnkpfpgmbpnbgaaGreatDoor
open Go.ChangeShapes Go.WideShapes Go.ChangeAt Go.RowKit Go.Eng
open Go.ChangeMaps (open_string)

set_option maxRecDepth 100000 in
theorem sreturns_lifted (os : Os) (started : os.Started) (H : Type) (enc : TypeId × Value → H) :
    ReturnsInHanded {} Tryz.checked os 5 .any (fun w args => (Rows.scheduleReturnsSpec.pre enc Tryz.prog Tryz.f5 [] false w args ∧ laidMetH Tryz.prog laidL w) ∧ sizedMet enc Tryz.prog Tryz.f5 (OpenSpec.ofChange Rows.scheduleReturnsSpec) false w args)
      (Rows.scheduleReturnsSpec.post enc Tryz.prog Tryz.f5 false true false false) := by
  refine handed_and_shaped (C := Tryz.checked) (X := fun w => laidMetH Tryz.prog laidL w) (fun _ _ hh h => h.of_heap hh) Tryz.own started (by kernel_rfl) Tryz.func5
    (ChangeSpec.witness_shaped (enc := enc) (C := Tryz.checked) (os := os) (X := fun w _ => laidMetH Tryz.prog laidL w) false (laidWorld os) #[.agg #[.int .i64 0, .int .i64 0, .slice none 0 0], .string ⟨#[]⟩] 8 rfl (laidWorld_shaped os _) (by kernel_rfl) (by kernel_rfl) (by kernel_rfl) (laidWorld_met os _)) ?_
  intro W base args ds gs before hval0 hW hL hsh
  have hval : ∀ (j : Nat) t v, Tryz.f5.params[j]? = some t → args[j]? = some v → Value.okWide Tryz.prog W .any base t v := hval0
  have hW' : DataW.Whole enc Tryz.prog Tryz.f5.params.toList Rows.scheduleReturnsSpec.vars false W args.toList ds gs before := hW
  obtain ⟨p, q, hA0, hV, rfl, hfz, hnd⟩ := hW
  have hA : DataW.TrodAll enc Tryz.prog W 0 (fun _ => true) true Tryz.f5.params.toList args.toList ds p := hA0
  obtain ⟨rfl, rfl⟩ := trodVars_none hV
  rw [Tryz.params5] at hA hval
  obtain ⟨v0, v1, d0, d1, p0, p1, rfl, rfl, rfl, h0, h1⟩ := trodAll_two hA
  obtain ⟨s, rfl, hs⟩ := open_sch (hval 0 _ v0 rfl rfl) h0
  obtain ⟨bx, rfl, -, -, hx⟩ := open_string Tryz.underlying9 (hval 1 _ v1 rfl rfl) h1
  obtain ⟨x, rfl⟩ := str_list bx
  have ht := tabs_of hL hsh
  refine (law_returns s x ht hs.old.rd (St.start W)).mono ?_
  rintro e' W' ⟨v, K, rfl, hst, rfl, -⟩
  exact ⟨_, rfl, post_true Tryz.laidOut (by kernel_rfl) rfl rfl Tryz.underlying4 hW' hst.below rfl rfl rfl⟩
theorem sreturns_row : Rows.ScheduleReturnsSaid :=
  OpenClaim.holds_of_wide 5 Tryz.f5 rfl rfl rfl rfl rfl rfl rfl ⟨rfl, rfl, rfl, rfl, rfl⟩ rfl rfl rfl rfl rfl (by kernel_rfl) Tryz.func5 (by kernel_rfl)
    (of_decide_eq_true (by kernel_rfl)) (by unfold Func.isWrapper; first | (rw [if_pos (by decide +kernel)]; kernel_rfl) | (rw [if_neg (by decide +kernel)]; exact ⟨rfl, rfl⟩))
    (fun os started H enc _ => sreturns_lifted os started H enc)
theorem sreturns_holds : Rows.ScheduleReturnsCardSaid :=
  Claim7.holds_tied_plain_at .later [] [.data, .data, .data, .data, .sentinel, .sentinel, .pinned] true _ true
    sreturns_row (fun _ h => by cases h) (by kernel_rfl) (fun _ h => by cases h) scheduleReturns_row_tie rfl ⟨rfl, rfl⟩ (by kernel_rfl) rfl
    (fun f fn hf hfn => by
      obtain rfl : f = 5 := Option.some.inj ((show Tryz.prog.funcNamed Tryz.f5.name = some 5 by kernel_rfl).symm.trans hf) |>.symm
      obtain rfl : fn = Tryz.f5 := (Option.some.inj (Tryz.func5.symm.trans hfn)).symm
      exact ⟨by kernel_rfl, fun j t htj => by
        have hm := Array.mem_of_getElem? htj
        have hall : (Tryz.f5.params.toList.all fun u => !Tryz.prog.wantsStandIn u) = true := by kernel_rfl
        exact (show Tryz.prog.wantsStandIn t = false by simpa using List.all_eq_true.1 hall t (by simpa using hm))⟩)
    (by kernel_rfl)
end Go.Proofs.YtnkpfpgmbpnbgaaGreatDoor
