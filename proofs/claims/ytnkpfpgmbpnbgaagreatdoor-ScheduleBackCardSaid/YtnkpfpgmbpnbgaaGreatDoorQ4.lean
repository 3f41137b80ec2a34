/- The law ScheduleBack returns true at every input, and its arguments read behind the call as they read before: the statement Rows.ScheduleBackCardSaid. Condition: the listed package-level variables start as the program's text lays them, to which the card ties them. -/
import Derived.ProofKit
import Derived.Below
import Derived.ChangeSame
import Derived.Carry
import Derived.Test.YtnkpfpgmbpnbgaaGreatDoorRows
import Derived.Lib.LaidU8
import Derived.LaidMore
import Derived.Deep.DeepLaidRun
import Derived.Stop.Joined
import Derived.Deep.Slices
import Derived.Lib.SmallJoins
import Derived.OpenShut
import Derived.Test.YtnkpfpgmbpnbgaaGreatDoorCards
import Derived.Test.YtnkpfpgmbpnbgaaGreatDoorTie
import Derived.SevenTiedAt
import Derived.Test.YtnkpfpgmbpnbgaaGreatDoorQ3

/- Walks: slices.DeleteFunc of cells; only, Differ. -/
namespace Go.Proofs.YtnkpfpgmbpnbgaaGreatDoor
open Go.RowKit Go.Eng Go.Nw

theorem idxC_first {α : Type} (p : α → Bool) : ∀ (l : List α) (k : Int), (l.filter (fun a => !p a) = l ∧ idxFrom p l k = -1) ∨ ∃ j, j < l.length ∧ idxFrom p l k = k + j ∧ (l.take j).filter (fun a => !p a) = l.take j ∧ ∃ a, l[j]? = some a ∧ p a = true
  | [], _ => .inl ⟨rfl, rfl⟩
  | a :: l, k => by
    unfold idxFrom
    cases h : p a with
    | true => exact .inr ⟨0, by simp, by simp, rfl, a, rfl, h⟩
    | false =>
      rw [if_neg (by decide)]
      have hn : (!p a) = true := by rw [h]; rfl
      rcases idxC_first p l (k + 1) with ⟨h1, h2⟩ | ⟨j, h1, h2, h3, b, h4, h5⟩
      · exact .inl ⟨by rw [List.filter_cons, if_pos hn, h1], h2⟩
      · refine .inr ⟨j + 1, by simp only [List.length_cons]; omega, by rw [h2]; omega, ?_, b, h4, h5⟩
        rw [List.take_succ_cons, List.filter_cons, if_pos hn, h3]
theorem indexFuncC (p : Cel → Bool) (l : List Cel) (f : Nat) (cs : List Value) (hen : ∀ xs w, (callFunc f xs).run Tryz.prog w = .ok (.enter f xs) w) (hlen : l.length ≤ 1000) {A : Option Addr} {cap B : Nat} {w0 : World} {H : List HP} {w : World} (hr : Rd B w0 H A (l.flatMap celF))
    (hp : ∀ a ∈ l, ∀ w, St B w0 H w → Calls Tryz.prog f ([celV a] ++ cs).toArray w (Post B w0 fun v K => v = .bool (p a) ∧ K = H)) (hw : St B w0 H w) :
    Calls Tryz.prog 143 [.slice A l.length cap, .func (.func f) #[] cs.toArray].toArray w (Post B w0 fun v K => v = .int .i64 (idxFrom p l 0) ∧ K = H) := by
  refine Calls_of_VC Tryz.func143 Tryz.ntmps143 rfl rfl hw ?_
  repeat' (first | apply (zs1 ?_) | apply (zs2 ?_) | (apply zg4; refine zs9 ?_) | apply (zs65 ?_) | apply (zs68 ?_) | apply (zs69 ?_) | apply (zs70 ?_) | apply (zs73 ?_) | fail)
  refine VC_loop1 (fun (k : Nat) => [(8, .int .i64 k), (7, .int .i64 l.length), (0, .slice A l.length cap), (1, .func (.func f) #[] cs.toArray)]) (fun _ => H) (fun k => k ≤ l.length ∧ idxFrom p l 0 = idxFrom p (l.drop k) k) (fun k => l.length - k) 0 ⟨Nat.zero_le _, by simp⟩ ?_ (fun w hw => hw) ?_
  · (repeat (first | exact sub_nil _ | (apply sub_cons; first | exact rfl | exact congrArg (fun z : Int => some (Value.int .i64 z)) (by omega))))
  rintro k ⟨hk, hi⟩ K hK
  by_cases hlt : k < l.length
  · obtain ⟨a, ha⟩ : ∃ a, l[k]? = some a := ⟨_, List.getElem?_eq_getElem hlt⟩
    have hpa := hp a (List.mem_of_getElem? ha)
    rw [idx_drop p l ha] at hi
    repeat' (first | ((first | apply VL_callvt (cs := cs)); exact rfl; exact hen; (repeat (first | exact args_nil | (apply args_cons; exact rfl))); exact rfl; exact fun _ hw => hpa _ hw) | apply (zs1 ?_) | apply (zs2 ?_) | (apply zg3; refine zs61 ?_) | (apply zg5; refine zs57 ?_) | (apply (zs17 ?_ ?_) <;> intro _ <;> try (exfalso; omega)) | apply (zs65 ?_) | apply (zs68 ?_) | apply (zs69 ?_) | apply (zs70 ?_) | (apply zg27; refine zs71 ?_) | apply (zs73 ?_) | apply (zs76 ?_) | fail)
    cases hpv : p a
    · rw [hpv] at hi
      repeat' (first | apply (zs1 ?_) | (apply zg13; refine zs30 ?_) | apply (zs65 ?_) | apply (zs68 ?_) | apply (zs70 ?_) | (apply zg27; refine zs72 ?_) | apply (zs76 ?_) | apply (zs79 ?_) | fail)
      apply hK (k + 1)
      · exact ⟨by omega, hi⟩
      · omega
      · (repeat (first | exact sub_nil _ | (apply sub_cons; first | exact rfl | exact congrArg (fun z : Int => some (Value.int .i64 z)) (by omega))))
      · exact fun w hw => hw
    · rw [hpv] at hi
      repeat' (first | apply (zs1 ?_) | apply (zs2 ?_) | apply (zs65 ?_) | apply (zs68 ?_) | apply (zs69 ?_) | apply (zs70 ?_) | (apply zg27; refine zs71 ?_) | apply (zs74 ?_) | apply (zs77 ?_) | apply (zs78 ?_) | fail)
      apply VQ_ret1; exact rfl; exact rfl
      exact ⟨by rw [hi]; rfl, rfl⟩
  · repeat' (first | apply (zs2 ?_) | (apply (zs17 ?_ ?_) <;> intro _ <;> try (exfalso; omega)) | apply (zs65 ?_) | apply (zs68 ?_) | apply (zs69 ?_) | apply (zs70 ?_) | (apply zg27; refine zs72 ?_) | apply (zs74 ?_) | apply (zs75 ?_) | apply (zs80 ?_) | apply (zs81 ?_) | fail)
    apply VQ_ret1; exact rfl; exact rfl
    rw [hi, List.drop_eq_nil_of_le (by omega)]
    exact ⟨rfl, rfl⟩

structure Kc where
  i : Nat
  j : Nat
  M : List Cel
set_option maxRecDepth 10000 in
set_option maxHeartbeats 1000000 in
theorem deleteFuncC (p : Cel → Bool) (l : List Cel) (f : Nat) (cs : List Value) (hen : ∀ xs w, (callFunc f xs).run Tryz.prog w = .ok (.enter f xs) w) (hlen : l.length ≤ 1000) {A : Option Addr} {cap B : Nat} {w0 : World} {H : List HP} {w : World}
    (hp : ∀ a ∈ l, ∀ (X : List HP) w, St B w0 (X ++ H) w → Calls Tryz.prog f ([celV a] ++ cs).toArray w (Post B w0 fun v K => v = .bool (p a) ∧ K = X ++ H)) (hw : St B w0 (cels A cap l :: H) w) :
    Calls Tryz.prog 108 [.slice A l.length cap, .func (.func f) #[] cs.toArray].toArray w (Post B w0 fun v K => v = .slice A (l.filter fun a => !p a).length cap ∧ K = cels A cap (l.filter fun a => !p a) :: H) := by
  refine Calls_of_VC Tryz.func108 Tryz.ntmps108 rfl rfl hw ?_
  refine VC_capC (e := 51) (size := 5) (A := A) (xs := l.flatMap celF) (k := l.length) (cap := cap) List.mem_cons_self fun hcap => ?_
  have hif := fun {w : World} (hw : St B w0 (cels A cap l :: H) w) => indexFuncC p l f cs hen hlen (cap := cap) (.sl List.mem_cons_self) (fun a ha w hw => hp a ha [cels A cap l] w hw) hw
  rcases idxC_first p l 0 with ⟨h1, h2⟩ | ⟨i0, h1, h2, h3, a0, h4, h5⟩
  · rw [h2] at hif
    rw [h1]
    repeat' (first | ((first | apply VL_callt en143 | apply VL_callq en143); (repeat (first | exact args_nil | (apply args_cons; exact rfl))); exact rfl; exact fun _ hw => (hif hw)) | apply (zs1 ?_) | apply (zs2 ?_) | (apply zg7; (refine zs15 ?_ ?_ <;> intro _ <;> try (exfalso; omega))) | apply (zs65 ?_) | apply (zs68 ?_) | apply (zs69 ?_) | apply (zs70 ?_) | (apply zg27; refine zs71 ?_) | apply (zs74 ?_) | apply (zs77 ?_) | fail)
    apply VQ_ret1; exact rfl; exact rfl; exact ⟨rfl, rfl⟩
  rw [h2, Int.zero_add] at hif
  repeat' (first | ((first | apply VL_callt en143 | apply VL_callq en143); (repeat (first | exact args_nil | (apply args_cons; exact rfl))); exact rfl; exact fun _ hw => (hif hw)) | apply (zs1 ?_) | apply (zs2 ?_) | (apply zg7; (refine zs15 ?_ ?_ <;> intro _ <;> try (exfalso; omega))) | (apply zg13; refine zs30 ?_) | apply (zs65 ?_) | apply (zs68 ?_) | apply (zs69 ?_) | apply (zs70 ?_) | (apply zg27; refine zs72 ?_) | apply (zs73 ?_) | apply (zs76 ?_) | fail)
  refine VC_loop1 (fun (z : Kc) => [(6, .int .i64 z.j), (5, .int .i64 z.i), (0, .slice A z.M.length cap), (1, .func (.func f) #[] cs.toArray)]) (fun z => cels A cap z.M :: H) (fun z => z.M.length = l.length ∧ z.i < z.j ∧ z.j ≤ l.length ∧ z.M.take z.i = (l.take z.j).filter (fun a => !p a) ∧ z.M.drop z.j = l.drop z.j) (fun z => l.length - z.j) ⟨i0, i0 + 1, l⟩ ⟨rfl, by simp only; omega, by simp only; omega, ?_, rfl⟩ ?_ (fun w hw => hw) ?_
  · simp only
    rw [List.take_add_one, h4, List.filter_append, h3]
    simp [h5]
  · (repeat (first | exact sub_nil _ | (apply sub_cons; first | exact rfl | exact congrArg (fun z : Int => some (Value.int .i64 z)) (by omega))))
  rintro ⟨i, j, M⟩ ⟨hM, hij, hj, ht, hd⟩ K hK
  simp only at hM hij hj ht hd ⊢
  unfold cels
  by_cases hlt : j < l.length
  · obtain ⟨a, ha⟩ : ∃ a, l[j]? = some a := ⟨_, List.getElem?_eq_getElem hlt⟩
    have hMa : M[j]? = some a := by
      have e1 : (M.drop j)[0]? = (l.drop j)[0]? := by rw [hd]
      rw [List.getElem?_drop, List.getElem?_drop, Nat.add_zero, ha] at e1
      exact e1
    have hpa := fun {X1 X2 : HP} {w : World} (hw : St B w0 (X1 :: X2 :: H) w) => hp a (List.mem_of_getElem? ha) [X1, X2] w hw
    have hft : (l.take (j + 1)).filter (fun a => !p a) = M.take i ++ (if p a = true then [] else [a]) := by
      rw [List.take_add_one, ha, List.filter_append, ht]
      cases hpv : p a <;> simp [hpv]
    obtain ⟨b, hb⟩ : ∃ b, p a = b := ⟨_, rfl⟩
    rw [hb] at hft hpa
    have hd1 : ∀ x : Cel, (M.set i x).drop (j + 1) = l.drop (j + 1) := fun x => by
      rw [List.drop_set_of_lt (by omega), ← List.drop_drop, ← List.drop_drop, hd]
    cases b with
    | true =>
      rw [if_pos rfl, List.append_nil] at hft
      repeat' (first | ((first | apply VL_callvt (cs := cs)); exact rfl; exact hen; (repeat (first | exact args_nil | (apply args_cons; exact rfl))); exact rfl; exact fun _ hw => hpa hw) | apply (zs1 ?_) | apply (zs2 ?_) | (apply zg3; first | refine zs8 ?_ | refine zs61 ?_) | (apply zg4; refine zs9 ?_) | (apply zg5; refine zs10 ?_) | (apply (zs17 ?_ ?_) <;> intro _ <;> try (exfalso; omega)) | (apply zg13; refine zs30 ?_) | (apply zg20; refine zs47 ?_) | (apply zg22; refine zs51 ?_) | (apply zg24; (refine zs54 ?_; intro _)) | apply (zs65 ?_) | apply (zs68 ?_) | apply (zs69 ?_) | apply (zs70 ?_) | (apply zg27; first | refine zs71 ?_ | refine zs72 ?_) | apply (zs73 ?_) | apply (zs76 ?_) | apply (zs79 ?_) | fail)
      apply hK ⟨i, j + 1, M⟩
      · exact ⟨hM, by simp only; omega, by simp only; omega, hft.symm, by simp only; rw [← List.drop_drop, ← List.drop_drop, hd]⟩
      · simp only; omega
      · (repeat (first | exact sub_nil _ | (apply sub_cons; first | exact rfl | exact congrArg (fun z : Int => some (Value.int .i64 z)) (by omega))))
      · exact fun w hw => hw.tail
    | false =>
      rw [if_neg (by decide)] at hft
      have hMl : (M.set i a).length = M.length := List.length_set
      repeat' (first | ((first | apply VL_callvt (cs := cs)); exact rfl; exact hen; (repeat (first | exact args_nil | (apply args_cons; exact rfl))); exact rfl; exact fun _ hw => hpa hw) | (apply VL_store_elem T (f := celF) (l := M) (i := i) (a := a); exact rfl; exact rfl; exact rfl; (repeat (first | with_reducible exact Upd.here _ | with_reducible apply Upd.there)); exact fun _ => rfl; exact rfl; exact rfl; exact rfl; omega) | apply (zs1 ?_) | apply (zs2 ?_) | (apply zg3; first | refine zs8 ?_ | refine zs61 ?_) | (apply zg4; refine zs9 ?_) | (apply zg5; refine zs10 ?_) | (apply (zs17 ?_ ?_) <;> intro _ <;> try (exfalso; omega)) | (apply zg13; refine zs30 ?_) | (apply zg20; refine zs48 ?_) | (apply zg22; refine zs51 ?_) | (apply zg24; (refine zs54 ?_; intro _)) | apply (zs65 ?_) | apply (zs68 ?_) | apply (zs69 ?_) | apply (zs70 ?_) | (apply zg27; refine zs71 ?_) | apply (zs73 ?_) | apply (zs76 ?_) | apply (zs79 ?_) | fail)
      apply hK ⟨i + 1, j + 1, M.set i a⟩
      · refine ⟨by simp only; omega, by simp only; omega, by simp only; omega, ?_, hd1 a⟩
        simp only
        rw [hft, List.take_add_one, List.getElem?_set_self (by omega), List.take_set_of_le (Nat.le_refl _)]
        rfl
      · simp only; omega
      · dsimp only
        rw [hMl]
        (repeat (first | exact sub_nil _ | (apply sub_cons; first | exact rfl | exact congrArg (fun z : Int => some (Value.int .i64 z)) (by omega))))
      · unfold cels
        dsimp only
        rw [hMl]
        exact fun w hw => hw.tail
  · obtain rfl : j = l.length := by omega
    clear hK
    rw [List.take_length] at ht
    have hil : (l.filter fun a => !p a).length = i := by rw [← ht, List.length_take]; omega
    have hfl : (M.flatMap celF).take (i * 5) = (l.filter fun a => !p a).flatMap celF := by rw [← flat_take (q := 5) (fun _ => rfl), ht]
    repeat' (first | (apply VL_slice_lo T (n' := M.length - i); exact rfl; exact rfl; exact rfl; exact rfl; omega; omega) | apply (zs1 ?_) | (apply zg4; refine zs9 ?_) | (apply (zs17 ?_ ?_) <;> intro _ <;> try (exfalso; omega)) | apply (zs65 ?_) | apply (zs68 ?_) | apply (zs69 ?_) | apply (zs70 ?_) | (apply zg27; refine zs72 ?_) | apply (zs75 ?_) | apply (zs80 ?_) | apply (zs81 ?_) | fail)
    rw [Int.toNat_natCast]
    apply VL_st (sl 51 5 A i cap ((l.filter fun a => !p a).flatMap celF) :: H)
    · intro w hw
      refine hw.shrink (e := 51) (size := 5) (cap := cap) (A := A) (xs := M.flatMap celF) (k := M.length) (k' := i) (by omega) ?_
      rw [hfl]
      exact Upd.here _
    apply VL_clear T T2 (e := 51) (size := 5) (k := i) (xs := (l.filter fun a => !p a).flatMap celF); exact rfl; exact List.mem_cons_self; exact rfl; exact rfl; exact rfl; omega
    repeat' (first | (apply VL_slice_hi_rd T (l := M) (n' := i); exact rfl; exact rfl; exact rfl; exact rfl; omega; omega; omega) | apply (zs1 ?_) | apply (zs2 ?_) | apply (zs65 ?_) | apply (zs68 ?_) | apply (zs69 ?_) | apply (zs70 ?_) | apply (zs74 ?_) | fail)
    rw [subA_zeroC]
    repeat' (first | fail)
    apply VQ_ret1; exact rfl; exact rfl
    exact ⟨by rw [hil], by rw [hil]⟩

theorem rd_apps {B : Nat} {w0 : World} {H : List HP} {A : Option Addr} {xs : List Value} (h : Rd B w0 H A xs) : ∀ X : List HP, Rd B w0 (X ++ H) A xs
  | [] => h
  | _ :: X => (rd_apps h X).cons
theorem only1_spec (b : SchM) (c : Cel) (gb : Nat) (hl : b.cells.length ≤ 1000000000000) {B : Nat} {w0 : World} {H : List HP} {w : World} (hb : blk gb (.cells #[.int .i64 b.len, .int .i64 b.off, .slice b.A b.cells.length b.cap] 30 (0, 0)) ∈ H) (hr : Rd B w0 H b.A (b.cells.flatMap celF)) (hw : St B w0 H w) :
    Calls Tryz.prog 109 [celV c, .pointer (some ⟨gb, 0, none⟩)].toArray w (Post B w0 fun v K => v = .bool (decide (c ∈ b.cells)) ∧ K = H) := by
  refine Calls_of_VC Tryz.func109 Tryz.ntmps109 rfl rfl hw ?_
  repeat' (first | ((first | apply VL_callt en36 | apply VL_callq en36); (repeat (first | exact args_nil | (apply args_cons; exact rfl))); exact rfl; exact fun _ hw => (contains_cels b.cells c hl hr.cons hw)) | apply (zs2 ?_) | (apply zg2; refine zs6 ?_) | (apply zg3; first | refine zs7 ?_ | refine zs8 ?_) | (apply zg23; (refine zs52 ?_; intro _)) | apply (zs65 ?_) | apply (zs68 ?_) | apply (zs69 ?_) | apply (zs70 ?_) | apply (zs74 ?_) | fail)
  apply VQ_tail; apply VQ_ret1; exact rfl; exact rfl; exact ⟨rfl, rfl⟩
set_option maxRecDepth 10000 in
set_option maxHeartbeats 1000000 in
theorem only_spec (a b : SchM) (hla : a.cells.length ≤ 1000) (hl : b.cells.length ≤ 1000000000000) {B : Nat} {w0 : World} {H : List HP} {w : World} (hr : Rd B w0 H a.A (a.cells.flatMap celF)) (hr2 : Rd B w0 H b.A (b.cells.flatMap celF)) (hw : St B w0 H w) :
    Calls Tryz.prog 77 [a.val, b.val].toArray w (Post B w0 fun v K => ∃ A cap, v = .slice A (onlyE a.sch b.sch).length cap ∧ K = cels A cap (onlyE a.sch b.sch) :: H) := by
  refine Calls_of_VC Tryz.func77 Tryz.ntmps77 rfl rfl hw ?_
  repeat' (first | apply (zs2 ?_) | (apply zg2; refine zs6 ?_) | (apply zg3; refine zs7 ?_) | (apply zg23; (refine zs52 ?_; intro _)) | apply (zs65 ?_) | apply (zs68 ?_) | apply (zs69 ?_) | apply (zs70 ?_) | fail)
  rename_i ga gb
  apply VL_call _ en70
  (repeat (first | exact args_nil | (apply args_cons; exact rfl)))
  exact rfl
  exact fun _ hw => (cloneC_spec a.cells (by omega) hr.cons.cons (hw))
  rintro _ _ ⟨A', cap', rfl, rfl⟩
  repeat' (first | (apply zg29; (apply VL_makeFunc; (repeat (first | exact args_nil | (apply args_cons; exact rfl))) ; exact rfl)) | fail)
  apply VL_call _ en108
  (repeat (first | exact args_nil | (apply args_cons; exact rfl)))
  exact rfl
  exact fun _ hw => (deleteFuncC (fun c => decide (c ∈ b.cells)) a.cells 109 [.pointer (some ⟨gb, 0, none⟩)] en109 hla (fun c _ X w hw => only1_spec b c gb hl (List.mem_append_right _ (by (focus repeat (first | with_reducible exact List.mem_cons_self | with_reducible apply List.mem_cons_of_mem | assumption)))) (rd_apps hr2.cons.cons X) hw) (hw))
  rintro _ _ ⟨rfl, rfl⟩
  have e : a.cells.filter (fun c => !decide (c ∈ b.cells)) = onlyE a.sch b.sch := List.filter_congr fun c _ => by
    show (!decide (c ∈ b.cells)) = decide (c ∉ b.cells)
    by_cases h : c ∈ b.cells <;> simp [h]
  rw [e]
  repeat' (first | apply (zs2 ?_) | apply (zs65 ?_) | apply (zs68 ?_) | apply (zs74 ?_) | fail)
  apply VQ_st (cels A' cap' (onlyE a.sch b.sch) :: H)
  · (intro w hw; refine hw.perm ?_; focus repeat (first | with_reducible exact Perm.refl _ | (with_reducible apply perm_take; focus ((repeat (first | with_reducible exact rem_here | with_reducible apply rem_there)); done)) | with_reducible apply Perm.dropK))
  apply VQ_ret1; exact rfl; exact rfl
  exact ⟨A', cap', rfl, rfl⟩
def OutD (H : List HP) (R : (List Cel × List Cel) × Int) (v : Value) (K : List HP) : Prop := ∃ A cap A2 cap2, v = .tuple #[.slice A R.1.1.length cap, .slice A2 R.1.2.length cap2, .int .i64 R.2] ∧ K = cels A2 cap2 R.1.2 :: cels A cap R.1.1 :: H
set_option maxRecDepth 10000 in
set_option maxHeartbeats 1000000 in
theorem differ_spec (a b : SchM) (hla : a.cells.length ≤ 1000) (hlb : b.cells.length ≤ 1000) {B : Nat} {w0 : World} {H : List HP} {w : World} (hr : Rd B w0 H a.A (a.cells.flatMap celF)) (hr2 : Rd B w0 H b.A (b.cells.flatMap celF)) (hw : St B w0 H w) :
    Calls Tryz.prog 31 [a.val, b.val].toArray w (Post B w0 (OutD H (difE a.sch b.sch))) := by
  refine Calls_of_VC Tryz.func31 Tryz.ntmps31 rfl rfl hw ?_
  have e1 : a.sch.len = a.len := rfl
  have e2 : b.sch.len = b.len := rfl
  have e3 : a.sch.off = a.off := rfl
  have e4 : b.sch.off = b.off := rfl
  have ha := fun {H' : List HP} {w : World} (hr : Rd B w0 H' a.A (a.cells.flatMap celF)) (hw : St B w0 H' w) => form_spec a hr (by omega) hw
  have hb := fun {H' : List HP} {w : World} (hr : Rd B w0 H' b.A (b.cells.flatMap celF)) (hw : St B w0 H' w) => form_spec b hr (by omega) hw
  cases hfa : formE a.sch with
  | false =>
    rw [hfa] at ha
    repeat' (first | ((first | apply VL_callt en53 | apply VL_callq en53); (repeat (first | exact args_nil | (apply args_cons; exact rfl))); exact rfl; exact fun _ hw => (ha hr.cons.cons hw)) | apply (zs1 ?_) | apply (zs2 ?_) | (apply zg1; refine zs3 ?_) | (apply zg3; refine zs8 ?_) | (apply zg6; refine zs11 ?_) | (apply zg20; refine zs48 ?_) | (apply zg23; (refine zs52 ?_; intro _)) | apply (zs65 ?_) | apply (zs68 ?_) | apply (zs69 ?_) | apply (zs70 ?_) | (apply zg27; refine zs71 ?_) | apply (zs74 ?_) | apply (zs77 ?_) | fail)
    apply VQ_st (cels none 0 [] :: cels none 0 [] :: H)
    · intro w hw
      refine St.nilSlice (H := cels none 0 [] :: H) (St.nilSlice (H := H) ?_ _ _) _ _
      revert w
      (intro w hw; refine hw.perm ?_; focus repeat (first | with_reducible exact Perm.refl _ | (with_reducible apply perm_take; focus ((repeat (first | with_reducible exact rem_here | with_reducible apply rem_there)); done)) | with_reducible apply Perm.dropK))
    apply VQ_ret3; exact rfl; exact rfl; exact rfl; exact rfl
    rw [difE, if_pos (.inl hfa)]
    exact ⟨none, 0, none, 0, rfl, rfl⟩
  | true =>
  rw [hfa] at ha
  cases hfb : formE b.sch with
  | false =>
    rw [hfb] at hb
    repeat' (first | apply (zs2 ?_) | (apply zg3; refine zs8 ?_) | (apply zg23; (refine zs52 ?_; intro _)) | apply (zs65 ?_) | apply (zs68 ?_) | apply (zs69 ?_) | apply (zs70 ?_) | fail)
    first | apply VL_callt en53 | apply VL_callq en53
    (repeat (first | exact args_nil | (apply args_cons; exact rfl)))
    exact rfl
    exact fun _ hw => (ha hr.cons.cons hw)
    repeat' (first | apply (zs1 ?_) | (apply zg1; refine zs4 ?_) | (apply zg3; refine zs8 ?_) | (apply zg20; refine zs47 ?_) | fail)
    first | apply VL_callt en53 | apply VL_callq en53
    (repeat (first | exact args_nil | (apply args_cons; exact rfl)))
    exact rfl
    exact fun _ hw => (hb hr2.cons.cons hw)
    repeat' (first | apply (zs2 ?_) | (apply zg1; refine zs4 ?_) | (apply zg6; refine zs12 ?_) | (apply zg20; refine zs48 ?_) | apply (zs65 ?_) | apply (zs68 ?_) | apply (zs69 ?_) | apply (zs70 ?_) | (apply zg27; refine zs71 ?_) | apply (zs74 ?_) | apply (zs77 ?_) | fail)
    apply VQ_st (cels none 0 [] :: cels none 0 [] :: H)
    · intro w hw
      refine St.nilSlice (H := cels none 0 [] :: H) (St.nilSlice (H := H) ?_ _ _) _ _
      revert w
      (intro w hw; refine hw.perm ?_; focus repeat (first | with_reducible exact Perm.refl _ | (with_reducible apply perm_take; focus ((repeat (first | with_reducible exact rem_here | with_reducible apply rem_there)); done)) | with_reducible apply Perm.dropK))
    apply VQ_ret3; exact rfl; exact rfl; exact rfl; exact rfl
    rw [difE, if_pos (.inr hfb)]
    exact ⟨none, 0, none, 0, rfl, rfl⟩
  | true =>
  rw [hfb] at hb
  have hno : ¬ (formE a.sch = false ∨ formE b.sch = false) := by rw [hfa, hfb]; simp
  by_cases hle : a.len ≠ b.len ∨ a.off ≠ b.off
  · have hres : difE a.sch b.sch = (([], []), 11) := by
      rw [difE, if_neg hno]
      exact if_pos hle
    rw [hres]
    repeat' (first | apply (zs2 ?_) | (apply zg3; refine zs8 ?_) | (apply zg23; (refine zs52 ?_; intro _)) | apply (zs65 ?_) | apply (zs68 ?_) | apply (zs69 ?_) | apply (zs70 ?_) | fail)
    first | apply VL_callt en53 | apply VL_callq en53
    (repeat (first | exact args_nil | (apply args_cons; exact rfl)))
    exact rfl
    exact fun _ hw => (ha hr.cons.cons hw)
    repeat' (first | apply (zs1 ?_) | (apply zg1; refine zs4 ?_) | (apply zg3; refine zs8 ?_) | (apply zg20; refine zs47 ?_) | fail)
    first | apply VL_callt en53 | apply VL_callq en53
    (repeat (first | exact args_nil | (apply args_cons; exact rfl)))
    exact rfl
    exact fun _ hw => (hb hr2.cons.cons hw)
    repeat' (first | apply (zs1 ?_) | apply (zs2 ?_) | (apply zg1; first | refine zs3 ?_ | refine zs4 ?_) | (apply zg2; refine zs6 ?_) | (apply zg3; refine zs7 ?_) | (apply zg6; first | refine zs11 ?_ | refine zs12 ?_) | (apply zg8; (refine zs16 ?_ ?_ <;> intro _ <;> try (exfalso; omega))) | (apply zg20; refine zs47 ?_) | apply (zs65 ?_) | apply (zs68 ?_) | apply (zs69 ?_) | apply (zs70 ?_) | (apply zg27; first | refine zs71 ?_ | refine zs72 ?_) | apply (zs74 ?_) | apply (zs76 ?_) | apply (zs77 ?_) | fail)
    all_goals (
      apply VQ_st (cels none 0 [] :: cels none 0 [] :: H)
      · intro w hw
        refine St.nilSlice (H := cels none 0 [] :: H) (St.nilSlice (H := H) ?_ _ _) _ _
        revert w
        (intro w hw; refine hw.perm ?_; focus repeat (first | with_reducible exact Perm.refl _ | (with_reducible apply perm_take; focus ((repeat (first | with_reducible exact rem_here | with_reducible apply rem_there)); done)) | with_reducible apply Perm.dropK))
      apply VQ_ret3; exact rfl; exact rfl; exact rfl; exact rfl
      exact ⟨none, 0, none, 0, rfl, rfl⟩)
  have hres : difE a.sch b.sch = ((onlyE a.sch b.sch, onlyE b.sch a.sch), 0) := by
    rw [difE, if_neg hno]
    exact if_neg hle
  rw [hres]
  have hrm : Rd B w0 [many H] a.A (a.cells.flatMap celF) := hr.tail
  have hrm2 : Rd B w0 [many H] b.A (b.cells.flatMap celF) := hr2.tail
  clear hr hr2
  refine VC_st [many H] (fun w hw => hw.perm (.closeT H)) ?_
  repeat' (first | apply (zs2 ?_) | (apply zg3; refine zs8 ?_) | (apply zg23; (refine zs52 ?_; intro _)) | apply (zs65 ?_) | apply (zs68 ?_) | apply (zs69 ?_) | apply (zs70 ?_) | fail)
  first | apply VL_callt en53 | apply VL_callq en53
  (repeat (first | exact args_nil | (apply args_cons; exact rfl)))
  exact rfl
  exact fun _ hw => (ha hrm.cons.cons hw)
  repeat' (first | apply (zs1 ?_) | (apply zg1; refine zs4 ?_) | (apply zg3; refine zs8 ?_) | (apply zg20; refine zs47 ?_) | fail)
  first | apply VL_callt en53 | apply VL_callq en53
  (repeat (first | exact args_nil | (apply args_cons; exact rfl)))
  exact rfl
  exact fun _ hw => (hb hrm2.cons.cons hw)
  repeat' (first | apply (zs1 ?_) | (apply zg1; refine zs4 ?_) | (apply zg2; refine zs6 ?_) | (apply zg3; refine zs7 ?_) | (apply zg6; refine zs12 ?_) | (apply zg8; (refine zs16 ?_ ?_ <;> intro _ <;> try (exfalso; omega))) | (apply zg20; refine zs47 ?_) | apply (zs65 ?_) | apply (zs68 ?_) | apply (zs69 ?_) | apply (zs70 ?_) | (apply zg27; refine zs72 ?_) | apply (zs76 ?_) | fail)
  apply VC_treeV (.p1 0 (.p1 1 (.p1 3 (.p1 4 (.d1 2 .done))))) [5, 6, 7, 8] [true, true, false]
  kernel_rfl
  kernel_rfl
  (repeat (first | with_reducible exact split_nil | with_reducible apply split_t | with_reducible apply split_f))
  (simp only [pickOps, nthO]; rfl)
  repeat' (first | (apply VV_p1; (simp only [nthO]; rfl)) | (apply VV_d1; (simp only [nthO]; rfl); (repeat (first | with_reducible exact app_nil | with_reducible apply app_cons | exact app_niln _))) | (apply VQ_treev; (repeat (first | with_reducible exact pull_nil | (with_reducible apply pull_cons; (repeat (first | with_reducible exact rem_here | with_reducible apply rem_there)))))) | (apply VV_done; (repeat (first | with_reducible exact app_nil | with_reducible apply app_cons | exact app_niln _))) | (apply zg3; refine zs8 ?_) | (apply VL_nilh; (repeat (first | with_reducible exact app_nil | with_reducible apply app_cons | exact app_niln _))) | fail)
  apply VL_call _ en77
  (repeat (first | exact args_nil | (apply args_cons; exact rfl)))
  exact rfl
  exact fun _ hw => (only_spec a b hla (by omega) (by (first | (focus (repeat (first | assumption | apply Rd.cons)); done) | exact Rd.sl (by (focus repeat (first | with_reducible exact List.mem_cons_self | with_reducible apply List.mem_cons_of_mem | assumption))))) (by (first | (focus (repeat (first | assumption | apply Rd.cons)); done) | exact Rd.sl (by (focus repeat (first | with_reducible exact List.mem_cons_self | with_reducible apply List.mem_cons_of_mem | assumption))))) (hw))
  rintro _ _ ⟨A1, cap1, rfl, rfl⟩
  repeat' (first | (apply VV_p1; (simp only [nthO]; rfl)) | (apply VV_d1; (simp only [nthO]; rfl); (repeat (first | with_reducible exact app_nil | with_reducible apply app_cons | exact app_niln _))) | (apply VQ_treev; (repeat (first | with_reducible exact pull_nil | (with_reducible apply pull_cons; (repeat (first | with_reducible exact rem_here | with_reducible apply rem_there)))))) | (apply VV_done; (repeat (first | with_reducible exact app_nil | with_reducible apply app_cons | exact app_niln _))) | apply (zs65 ?_) | apply (zs93 ?_) | fail)
  apply VL_call _ en77
  (repeat (first | exact args_nil | (apply args_cons; exact rfl)))
  exact rfl
  exact fun _ hw => (only_spec b a hlb (by omega) (by (first | (focus (repeat (first | assumption | apply Rd.cons)); done) | exact Rd.sl (by (focus repeat (first | with_reducible exact List.mem_cons_self | with_reducible apply List.mem_cons_of_mem | assumption))))) (by (first | (focus (repeat (first | assumption | apply Rd.cons)); done) | exact Rd.sl (by (focus repeat (first | with_reducible exact List.mem_cons_self | with_reducible apply List.mem_cons_of_mem | assumption))))) (hw))
  rintro _ _ ⟨A2, cap2, rfl, rfl⟩
  repeat' (first | apply (zs2 ?_) | apply (zs65 ?_) | apply (zs68 ?_) | apply (zs74 ?_) | apply (zs94 ?_) | fail)
  apply VQ_st (cels A2 cap2 (onlyE b.sch a.sch) :: cels A1 cap1 (onlyE a.sch b.sch) :: H)
  · intro w hw
    have h5 : St B w0 (cels A2 cap2 (onlyE b.sch a.sch) :: cels A1 cap1 (onlyE a.sch b.sch) :: [many H]) w := by
      revert w
      (intro w hw; refine hw.perm ?_; focus repeat (first | with_reducible exact Perm.refl _ | (with_reducible apply perm_take; focus ((repeat (first | with_reducible exact rem_here | with_reducible apply rem_there)); done)) | with_reducible apply Perm.dropK))
    exact h5.perm (.cons _ (.cons _ (.openT H)))
  apply VQ_ret3; exact rfl; exact rfl; exact rfl; exact rfl
  exact ⟨A1, cap1, A2, cap2, rfl, rfl⟩
end Go.Proofs.YtnkpfpgmbpnbgaaGreatDoor

/- Schedules, plain: what was added is there, and can be removed; a valid schedule has its form. -/
namespace Go.Proofs.YtnkpfpgmbpnbgaaGreatDoor
open Go.RowKit Go.Eng Go.Nw

theorem add_form {s : Sch} {c : Cel} (h : Frm s) (hc : formedE s c = true) (hm : c ∉ s.cells) (hl : s.cells.length ≠ 512) : Frm ⟨s.len, s.off, insC s.cells c⟩ := by
  have h2 := h.few
  refine ⟨h.sized, ?_, ?_, ins_ord h.ord hm⟩
  · show (insC s.cells c).length ≤ 512
    rw [ins_len]; omega
  · intro x hx
    rcases ins_mem.1 hx with rfl | hx
    · exact hc
    · exact h.formed x hx
theorem only_add {s : Sch} {c : Cel} : onlyE s ⟨s.len, s.off, insC s.cells c⟩ = [] := by
  unfold onlyE
  rw [List.filter_eq_nil_iff]
  intro x hx
  rw [decide_eq_true_eq]
  exact fun h => h (ins_mem.2 (.inr hx))
theorem more_add {s : Sch} {c : Cel} (hm : c ∉ s.cells) : onlyE ⟨s.len, s.off, insC s.cells c⟩ s = [c] := by
  unfold onlyE
  show (insC s.cells c).filter (fun x => decide (x ∉ s.cells)) = [c]
  unfold insC
  have h1 : (s.cells.take (posE s.cells c)).filter (fun x => decide (x ∉ s.cells)) = [] := by
    rw [List.filter_eq_nil_iff]
    intro x hx
    rw [decide_eq_true_eq]
    exact fun h => h (List.mem_of_mem_take hx)
  have h2 : (s.cells.drop (posE s.cells c)).filter (fun x => decide (x ∉ s.cells)) = [] := by
    rw [List.filter_eq_nil_iff]
    intro x hx
    rw [decide_eq_true_eq]
    exact fun h => h (List.mem_of_mem_drop hx)
  rw [List.filter_append, List.filter_cons, if_pos (decide_eq_true hm), h1, h2]
  rfl
theorem back_sem {s : Sch} {c : Cel} {a : Sch} (h : addE s c = (a, 0)) : difE s a = (([], [c]), 0) ∧ remE a c = (s, 0) ∧ c ∈ atE a c.1 ∧ a.cells.length ≤ 512 := by
  unfold addE at h
  split at h
  · injection h with _ h; cases h
  rename_i h1
  split at h
  · injection h with _ h; cases h
  rename_i h2
  split at h
  · injection h with _ h; cases h
  rename_i h3
  split at h
  · injection h with _ h; cases h
  rename_i h4
  injection h with h _
  subst h
  have hf : formE s = true := by simpa using h1
  have hc : formedE s c = true := by simpa using h2
  have hfs := form_iff.1 hf
  have hfa := add_form hfs hc h3 h4
  have hfa2 := form_iff.2 hfa
  refine ⟨?_, ?_, ?_, hfa.few⟩
  · unfold difE
    rw [hf, hfa2, if_neg (by decide), if_neg (by rintro (h | h) <;> exact h rfl), only_add, more_add h3]
  · unfold remE
    rw [hfa2, if_neg (by decide), if_pos (ins_mem.2 (.inl rfl))]
    show (Sch.mk s.len s.off (delC (insC s.cells c) c), (0 : Int)) = _
    rw [del_ins hfs.ord h3]
  · have hp := hc
    unfold formedE placedE insE at hp
    simp only [Bool.and_eq_true, decide_eq_true_eq] at hp
    have h5 := hp.1.1.1.1
    unfold atE
    rw [hfa2, if_neg (by rintro (h | h); exact absurd h (by decide); omega)]
    refine List.mem_filter.2 ⟨ins_mem.2 (.inl rfl), decide_eq_true ?_⟩
    show c.1 = c.1.tmod s.len
    rw [Int.tmod_eq_of_lt h5.1 h5.2]
theorem add_err {s : Sch} {c : Cel} {a : Sch} {e : Int} (h : addE s c = (a, e)) (he : e ≠ 0) : a = zeroS := by
  unfold addE at h
  repeat' split at h
  all_goals first | (injection h with h1 h2; exact h1.symm) | (injection h with h1 h2; exact absurd h2.symm he)

end Go.Proofs.YtnkpfpgmbpnbgaaGreatDoor

/- Walks: the law ScheduleBack. -/
namespace Go.Proofs.YtnkpfpgmbpnbgaaGreatDoor
open Go.RowKit Go.Eng Go.Nw

set_option maxRecDepth 10000 in
set_option maxHeartbeats 2000000 in
theorem law_back (s : SchM) (c : Cel) {B : Nat} {w0 : World} {H : List HP} {w : World} (ht : TabsB B w0) (hr : Rd B w0 H s.A (s.cells.flatMap celF)) (hw : St B w0 H w) :
    Calls Tryz.prog 10 [s.val, celV c].toArray w (Post B w0 fun v K => v = .bool true ∧ K = H) := by
  refine Calls_of_VC Tryz.func10 Tryz.ntmps10 rfl rfl hw ?_
  by_cases hg : 60 < s.cells.length
  · skip
    repeat' (first | ((first | apply VL_callt en11 | apply VL_callq en11); (repeat (first | exact args_nil | (apply args_cons; exact rfl))); exact rfl; exact fun _ hw => (wake_spec ht hw)) | apply (zs2 ?_) | (apply zg2; refine zs6 ?_) | (apply zg3; refine zs7 ?_) | (apply zg4; refine zs9 ?_) | (apply (zs19 ?_ ?_) <;> intro _ <;> try (exfalso; omega)) | (apply zg20; refine zs47 ?_) | (apply zg23; (refine zs52 ?_; intro _)) | apply (zs65 ?_) | apply (zs68 ?_) | apply (zs69 ?_) | apply (zs70 ?_) | (apply zg27; first | refine zs71 ?_ | refine zs72 ?_) | apply (zs74 ?_) | apply (zs76 ?_) | apply (zs77 ?_) | fail)
    apply VQ_st H
    · (intro w hw; refine hw.perm ?_; focus repeat (first | with_reducible exact Perm.refl _ | (with_reducible apply perm_take; focus ((repeat (first | with_reducible exact rem_here | with_reducible apply rem_there)); done)) | with_reducible apply Perm.dropK))
    apply VQ_ret1; exact rfl; exact rfl; exact ⟨rfl, rfl⟩
  have hl : s.cells.length ≤ 1000000000000 := by omega
  have hp : ∀ {H' : List HP} {w : World}, Rd B w0 H' s.A (s.cells.flatMap celF) → St B w0 H' w → Calls Tryz.prog 28 [s.val, celV c].toArray w (Post B w0 (OutS H' (addE s.sch c))) := fun hr hw => add_spec s c hr hl hw
  obtain ⟨⟨⟨ul, uo, uc⟩, ue⟩, hR⟩ : ∃ R, addE s.sch c = R := ⟨_, rfl⟩
  unfold OutS at hp
  rw [hR] at hp
  dsimp only at hp
  by_cases hue : ue ≠ 0
  · have huc : uc = [] := by
      have h1 := add_err hR hue
      unfold zeroS at h1
      injection h1
    have h0l : uc.length = 0 := by rw [huc]; rfl
    repeat' (first | ((first | apply VL_callt en11 | apply VL_callq en11); (repeat (first | exact args_nil | (apply args_cons; exact rfl))); exact rfl; exact fun _ hw => (wake_spec ht hw)) | apply (zs2 ?_) | (apply zg2; refine zs6 ?_) | (apply zg3; first | refine zs7 ?_ | refine zs8 ?_) | (apply zg4; refine zs9 ?_) | (apply (zs19 ?_ ?_) <;> intro _ <;> try (exfalso; omega)) | (apply zg20; refine zs47 ?_) | (apply zg23; (refine zs52 ?_; intro _)) | apply (zs65 ?_) | apply (zs68 ?_) | apply (zs69 ?_) | apply (zs70 ?_) | (apply zg27; refine zs72 ?_) | apply (zs76 ?_) | fail)
    apply VL_call _ en28
    (repeat (first | exact args_nil | (apply args_cons; exact rfl)))
    exact rfl
    exact fun _ hw => (hp hr.cons.cons (hw))
    rintro _ _ ⟨A1, cap1, rfl, rfl⟩
    repeat' (first | apply (zs1 ?_) | apply (zs2 ?_) | (apply zg2; refine zs6 ?_) | (apply zg3; refine zs7 ?_) | (apply zg4; refine zs9 ?_) | apply (zs13 ?_) | (apply zg7; (refine zs15 ?_ ?_ <;> intro _ <;> try (exfalso; omega))) | (apply zg8; (refine zs16 ?_ ?_ <;> intro _ <;> try (exfalso; omega))) | (apply zg22; refine zs51 ?_) | (apply zg24; (refine zs54 ?_; intro _)) | apply (zs65 ?_) | apply (zs68 ?_) | apply (zs69 ?_) | apply (zs70 ?_) | (apply zg27; refine zs71 ?_) | apply (zs74 ?_) | apply (zs77 ?_) | fail)
    apply VQ_st H
    · (intro w hw; refine hw.perm ?_; focus repeat (first | with_reducible exact Perm.refl _ | (with_reducible apply perm_take; focus ((repeat (first | with_reducible exact rem_here | with_reducible apply rem_there)); done)) | with_reducible apply Perm.dropK))
    apply VQ_ret1; exact rfl; exact rfl; exact ⟨rfl, rfl⟩
  obtain rfl : ue = 0 := Decidable.not_not.1 hue
  obtain ⟨hd, hrem, hat, huc⟩ := back_sem hR
  have huc : uc.length ≤ 512 := huc
  have hrm : Rd B w0 [many H] s.A (s.cells.flatMap celF) := hr.tail
  clear hr
  refine VC_st [many H] (fun w hw => hw.perm (.closeT H)) ?_
  repeat' (first | ((first | apply VL_callt en11 | apply VL_callq en11); (repeat (first | exact args_nil | (apply args_cons; exact rfl))); exact rfl; exact fun _ hw => (wake_spec ht hw)) | apply (zs2 ?_) | (apply zg2; refine zs6 ?_) | (apply zg3; first | refine zs7 ?_ | refine zs8 ?_) | (apply zg4; refine zs9 ?_) | (apply (zs19 ?_ ?_) <;> intro _ <;> try (exfalso; omega)) | (apply zg20; refine zs47 ?_) | (apply zg23; (refine zs52 ?_; intro _)) | apply (zs65 ?_) | apply (zs68 ?_) | apply (zs69 ?_) | apply (zs70 ?_) | (apply zg27; refine zs72 ?_) | apply (zs76 ?_) | fail)
  apply VL_call _ en28
  (repeat (first | exact args_nil | (apply args_cons; exact rfl)))
  exact rfl
  exact fun _ hw => (hp hrm.cons.cons (hw))
  rintro _ _ ⟨A1, cap1, rfl, rfl⟩
  obtain ⟨a, ha⟩ : ∃ a : SchM, a = ⟨ul, uo, A1, cap1, uc⟩ := ⟨_, rfl⟩
  have hdf : ∀ {H' : List HP} {w : World}, Rd B w0 H' s.A (s.cells.flatMap celF) → Rd B w0 H' A1 (uc.flatMap celF) → St B w0 H' w → Calls Tryz.prog 31 [s.val, .agg #[.int .i64 ul, .int .i64 uo, .slice A1 uc.length cap1]].toArray w (Post B w0 fun v K => ∃ A cap A2 cap2, v = .tuple #[.slice A ([] : List Cel).length cap, .slice A2 [c].length cap2, .int .i64 0] ∧ K = cels A2 cap2 [c] :: cels A cap [] :: H') := fun hr hr2 hw => by
    have h := differ_spec s ⟨ul, uo, A1, cap1, uc⟩ (by omega) (by show uc.length ≤ 1000; omega) hr hr2 hw
    unfold OutD at h
    rw [show difE s.sch (SchM.mk ul uo A1 cap1 uc).sch = (([], [c]), 0) from hd] at h
    exact h
  have hrv : ∀ {H' : List HP} {w : World}, Rd B w0 H' A1 (uc.flatMap celF) → St B w0 H' w → Calls Tryz.prog 27 [.agg #[.int .i64 ul, .int .i64 uo, .slice A1 uc.length cap1], celV c].toArray w (Post B w0 fun v K => ∃ A cap, v = .tuple #[.agg #[.int .i64 s.len, .int .i64 s.off, .slice A s.cells.length cap], .int .i64 0] ∧ K = cels A cap s.cells :: H') := fun hr hw => by
    have h := remove_spec ⟨ul, uo, A1, cap1, uc⟩ c hr (by show uc.length ≤ _; omega) hw
    unfold OutS at h
    rw [show remE (SchM.mk ul uo A1 cap1 uc).sch c = (s.sch, 0) from hrem] at h
    exact h
  have hav : ∀ {H' : List HP} {w : World}, Rd B w0 H' A1 (uc.flatMap celF) → St B w0 H' w → Calls Tryz.prog 23 [.agg #[.int .i64 ul, .int .i64 uo, .slice A1 uc.length cap1], .int .i64 c.1].toArray w (Post B w0 fun v K => ∃ A cap, v = .slice A (atE ⟨ul, uo, uc⟩ c.1).length cap ∧ K = cels A cap (atE ⟨ul, uo, uc⟩ c.1) :: H') := fun hr hw => at_spec ⟨ul, uo, A1, cap1, uc⟩ c.1 hr (by show uc.length ≤ _; omega) hw
  clear ha a
  repeat' (first | apply (zs1 ?_) | apply (zs2 ?_) | (apply zg3; refine zs8 ?_) | apply (zs13 ?_) | (apply zg8; (refine zs16 ?_ ?_ <;> intro _ <;> try (exfalso; omega))) | (apply zg22; refine zs51 ?_) | (apply zg24; (refine zs54 ?_; intro _)) | apply (zs65 ?_) | apply (zs68 ?_) | apply (zs69 ?_) | apply (zs70 ?_) | (apply zg27; refine zs72 ?_) | apply (zs76 ?_) | fail)
  apply VL_call _ en31
  (repeat (first | exact args_nil | (apply args_cons; exact rfl)))
  exact rfl
  exact fun _ hw => (hdf (by (first | (focus (repeat (first | assumption | apply Rd.cons)); done) | exact Rd.sl (by (focus repeat (first | with_reducible exact List.mem_cons_self | with_reducible apply List.mem_cons_of_mem | assumption))))) (Rd.cels (cap := cap1) (by (focus repeat (first | with_reducible exact List.mem_cons_self | with_reducible apply List.mem_cons_of_mem | assumption)))) (hw))
  rintro _ _ ⟨A3, cap3, A2, cap2, rfl, rfl⟩
  repeat' (first | apply (zs1 ?_) | apply (zs2 ?_) | (apply zg3; refine zs8 ?_) | apply (zs13 ?_) | apply (zs65 ?_) | apply (zs68 ?_) | apply (zs69 ?_) | apply (zs70 ?_) | fail)
  apply VL_call _ en27
  (repeat (first | exact args_nil | (apply args_cons; exact rfl)))
  exact rfl
  exact fun _ hw => (hrv (Rd.cels (cap := cap1) (by (focus repeat (first | with_reducible exact List.mem_cons_self | with_reducible apply List.mem_cons_of_mem | assumption)))) (hw))
  rintro _ _ ⟨A4, cap4, rfl, rfl⟩
  have h0l : ([] : List Cel).length = 0 := rfl
  have h1l : [c].length = 1 := rfl
  have hg0 : [c][(0 : Int).toNat]? = some c := rfl
  have hal : (atE ⟨ul, uo, uc⟩ c.1).length ≤ 1000000000000 := by
    have : (atE ⟨ul, uo, uc⟩ c.1).length ≤ uc.length := by
      unfold atE
      split
      · exact Nat.zero_le _
      · exact List.length_filter_le _ _
    omega
  have hcv : ∀ {A : Option Addr} {cap : Nat} {H' : List HP} {w : World}, Rd B w0 H' A ((atE ⟨ul, uo, uc⟩ c.1).flatMap celF) → St B w0 H' w → Calls Tryz.prog 36 [.slice A (atE ⟨ul, uo, uc⟩ c.1).length cap, celV c].toArray w (Post B w0 fun v K => v = .bool true ∧ K = H') := fun {A cap H' w} hr hw => by
    have h := contains_cels (atE ⟨ul, uo, uc⟩ c.1) c hal (cap := cap) hr hw
    rw [decide_eq_true hat] at h
    exact h
  have heq : ∀ {A A2 : Option Addr} {cap cap2 : Nat} {H' : List HP} {w : World}, Rd B w0 H' A (s.cells.flatMap celF) → Rd B w0 H' A2 (s.cells.flatMap celF) → St B w0 H' w → Calls Tryz.prog 35 [.slice A s.cells.length cap, .slice A2 s.cells.length cap2].toArray w (Post B w0 fun v K => v = .bool true ∧ K = H') := fun {A A2 cap cap2 H' w} hr hr2 hw => by
    have h := equal_cels s.cells s.cells hl hl (cap := cap) (cap2 := cap2) hr hr2 hw
    rw [decide_eq_true rfl] at h
    exact h
  unfold cels
  repeat' (first | apply (zs1 ?_) | apply (zs2 ?_) | apply (zs13 ?_) | (apply zg22; refine zs51 ?_) | (apply zg24; (refine zs54 ?_; intro _)) | apply (zs65 ?_) | apply (zs68 ?_) | apply (zs69 ?_) | fail)
  apply VC_held [0, 1, 2, 3, 4, 5, 6, 7, 8, 9, 10, 11, 12, 13, 14, 15, 16, 17, 18, 19, 20, 21, 22, 23, 24, 25, 26, 27, 28, 29, 30, 31, 32, 33, 34, 35, 36, 37, 38, 39, 40, 41, 42, 43, 44, 45, 46, 47, 49, 48, 50, 51, 52] [] [true, false, true, false, true, false, true, true, false]
  kernel_rfl
  kernel_rfl
  (repeat (first | with_reducible exact split_nil | with_reducible apply split_t | with_reducible apply split_f))
  (simp only [pickOps, nthO]; rfl)
  exact rfl
  repeat' (first | (apply VL_ceql c c; exact rfl; exact rfl; exact rfl; all_goals (intro hE; try (exact absurd rfl hE))) | ((first | apply VL_callt en35 | apply VL_callq en35); (repeat (first | exact args_nil | (apply args_cons; exact rfl))); exact rfl; exact fun _ hw => (heq (Rd.sl (by (focus repeat (first | with_reducible exact List.mem_cons_self | with_reducible apply List.mem_cons_of_mem | assumption)))) (by (first | (focus (repeat (first | assumption | apply Rd.cons)); done) | exact Rd.sl (by (focus repeat (first | with_reducible exact List.mem_cons_self | with_reducible apply List.mem_cons_of_mem | assumption))))) hw)) | ((first | apply VL_callt en36 | apply VL_callq en36); (repeat (first | exact args_nil | (apply args_cons; exact rfl))); exact rfl; exact fun _ hw => (hcv (Rd.cels (by (focus repeat (first | with_reducible exact List.mem_cons_self | with_reducible apply List.mem_cons_of_mem | assumption)))) hw)) | ((apply VL_call _ en23); (repeat (first | exact args_nil | (apply args_cons; exact rfl))); exact rfl; exact fun _ hw => hav (Rd.sl (by (focus repeat (first | with_reducible exact List.mem_cons_self | with_reducible apply List.mem_cons_of_mem | assumption)))) hw; rintro _ _ ⟨A5, cap5, rfl, rfl⟩) | apply (zs1 ?_) | apply (zs2 ?_) | (apply zg1; refine zs4 ?_) | (apply zg2; refine zs6 ?_) | (apply zg3; first | refine zs7 ?_ | refine zs8 ?_ | refine zs61 ?_) | (apply zg4; refine zs9 ?_) | (apply zg5; refine zs10 ?_) | (apply zg6; refine zs11 ?_) | (apply zg7; (refine zs15 ?_ ?_ <;> intro _ <;> try (exfalso; omega))) | apply (zs65 ?_) | (apply VL_nilh; (repeat (first | with_reducible exact app_nil | with_reducible apply app_cons | exact app_niln _))) | apply (zs68 ?_) | apply (zs74 ?_) | apply (zs87 ?_) | (apply VQ_heldq; (repeat (first | with_reducible exact pull_nil | (with_reducible apply pull_cons; (repeat (first | with_reducible exact rem_here | with_reducible apply rem_there)))))) | apply (zs93 ?_) | apply (zs94 ?_) | fail)
  apply VQ_st H
  · intro w hw
    have h5 : St B w0 [many H] w := by
      revert w
      (intro w hw; refine hw.perm ?_; focus repeat (first | with_reducible exact Perm.refl _ | (with_reducible apply perm_take; focus ((repeat (first | with_reducible exact rem_here | with_reducible apply rem_there)); done)) | with_reducible apply Perm.dropK))
    exact h5.perm (.openT H)
  apply VQ_ret1; exact rfl; exact rfl; exact ⟨rfl, rfl⟩
end Go.Proofs.YtnkpfpgmbpnbgaaGreatDoor

/- From a walk to a row: a law that returns true and leaves memory below as it was. -/
namespace Go.Proofs.YtnkpfpgmbpnbgaaGreatDoor
open Go.ChangeShapes Go.WideShapes Go.ChangeAt Go.RowKit

section
variable {H : Type} {enc : TypeId × Value → H} {P : Program}

theorem trodAll_keep (hl : laidOutB P = true) {W W' : World} {sp : Nat → Bool} : ∀ {ts : List TypeId} {vs : List Value} {ds : List (DataW H)} {ps : List MemPlace}, (ts.all fun t => P.readableRec t && decide (t < P.types.size)) = true →
    DataW.TrodAll enc P W 0 (fun _ => true) true ts vs ds ps → (∀ p ∈ ps, W.sameAt W' p) → (∀ p ∈ ps, sp p.block = true) → DataW.TrodAll enc P W' 0 sp true ts vs ds ps
  | [], [], [], _, _, h, _, _ => h
  | [], [], _ :: _, _, _, h, _, _ => h.elim
  | [], _ :: _, _, _, _, h, _, _ => h.elim
  | _ :: _, [], _, _, _, h, _, _ => h.elim
  | _ :: _, _ :: _, [], _, _, h, _, _ => h.elim
  | t :: ts, v :: vs, d :: ds, ps, hr, h, hs, hp => by
    obtain ⟨p, q, h1, h2, rfl⟩ := h
    simp only [List.all_cons, Bool.and_eq_true, decide_eq_true_eq] at hr
    exact ⟨p, q, WideElems.Trod_stays hl hr.1.1 hr.1.2 h1 (fun x hx => hs x (by simp [hx])) (fun x hx => hp x (by simp [hx])), trodAll_keep hl hr.2 h2 (fun x hx => hs x (by simp [hx])) (fun x hx => hp x (by simp [hx])), rfl⟩

/-- The call returned true, and below the heap's old end nothing is changed: what the row asks. -/
theorem post_true {f : Func} {s : ChangeSpec} {apart fresh handsOn again : Bool} {W W' : World} {args : Array Value} {ds gs : List (DataW H)} {before : List MemPlace} {tb : TypeId} (hl : laidOutB P = true)
    (hrd : (f.params.toList.all fun t => P.readableRec t && decide (t < P.types.size)) = true) (hv : s.vars = []) (hrt : f.resultTypes = #[tb]) (htb : P.underlying tb = some .bool)
    (hW : DataW.Whole enc P f.params.toList s.vars apart W args.toList ds gs before) (hb : Below W.heap.size W W')
    (hres : (s.fn H (ds ++ gs)).results = [.lit (.bool true)]) (hargs : (s.fn H (ds ++ gs)).args = ds) (hvars : (s.fn H (ds ++ gs)).vars = []) :
    s.post enc P f apart fresh handsOn again W args (.bool true) W' := by
  have hlt : ∀ p ∈ before, p.block < W.heap.size := fun p hp => hW.lt p hp
  have hW0 := hW
  obtain ⟨p, q, hA, hV, rfl, hz, hn⟩ := hW
  rw [hv] at hV
  have hq : gs = [] ∧ q = [] := by
    cases gs with
    | nil => exact ⟨rfl, hV⟩
    | cons _ _ => exact hV.elim
  obtain ⟨rfl, rfl⟩ := hq
  have hkeep : ∀ sp : Nat → Bool, (∀ x ∈ p ++ [], sp x.block = true) → DataW.TrodAll enc P W' 0 sp true f.params.toList args.toList ds p := fun sp hsp =>
    trodAll_keep hl hrd hA (fun x hx => hb.same (hlt x (by simpa using hx))) (fun x hx => hsp x (by simpa using hx))
  have hR : ∀ (b : Nat) (sp : Nat → Bool) (hd : Bool), DataW.TrodAll enc P W' b sp hd f.resultTypes.toList ((Value.bool true).resultList f.resultTypes.size) (s.fn H (ds ++ [])).results [] := by
    intro b sp hd
    rw [hres, hrt]
    exact trodAll_mk1 (shut_bool htb true)
  have hok := ok_one (P := P) (W' := W') (f := f) (v := .bool true) hrt rfl (okWide_bool_mk htb true)
  have hold : ∀ x ∈ p ++ [], (fun b => decide (b < W.heap.size)) x.block = true := fun x hx => by simpa using hlt x hx
  refine ⟨ds, [], p ++ [], [], p, [], hW0, hR _ _ _, by rw [hargs]; exact hkeep _ hold, by rw [hvars, hv]; rfl, World.keptBut_mono (fun x hx => ⟨hx, Or.inr (by simpa using hx)⟩) (hb.frame (· ∈ p ++ [])), fun _ => ?_⟩
  refine ⟨hok, _, _, ([] ++ p) ++ [], ⟨[] ++ p, [], trodAll_append (hkeep _ (fun _ _ => rfl)) (hR _ _ _), (show DataW.TrodVars enc P W' (fun _ => true) s.vars [] [] by rw [hv]; rfl), rfl, ?_, ?_⟩, ?_⟩
  · intro b off hp
    have hin : MemPlace.cell b off ∈ p ++ [] := by simpa using hp
    rw [hb.frozen (hlt _ hin)]
    exact hz b off hin
  · intro ha
    simpa using hn ha
  · intro x hx _
    simpa using hx
end
end Go.Proofs.YtnkpfpgmbpnbgaaGreatDoor

/- From a walk to a tied card: what the listed variables hold; a world that meets the condition. -/
namespace Go.Proofs.YtnkpfpgmbpnbgaaGreatDoor
open Go.ChangeShapes Go.WideShapes Go.ChangeAt Go.RowKit Go.Eng

section
variable {H : Type} {enc : TypeId × Value → H}
/-- The wrap of a row that lists variables, the world's shape kept. -/
theorem handed_and_shaped {a : Assume} {C : Checked} {os : Os} {f : FuncId} {fn : Func} {s : ChangeSpec} {conds : List PathCond} {apart fresh handsOn again : Bool} {X : World → Prop} (hX : ∀ w w' : World, w.heap = w'.heap → X w → X w')
    (own : ownKnob C.prog.godebug = none) (started : os.Started) (noInit : C.prog.inits.idxOf? f = none) (hfn : C.prog.funcs[f]? = some fn)
    (witness : ∃ (w : World) (tape : Tape) (i : Input), w.os = os ∧ (w.forCall tape i).Shaped C.prog ∧ i.vars = [] ∧ Input.okWide C.prog (w.forCall tape i) .any w.heap.size f i ∧
      ((s.pre enc C.prog fn conds apart (w.forCall tape i).memory i.args ∧ X (w.forCall tape i).memory) ∧ sizedMet enc C.prog fn (OpenSpec.ofChange s) apart (w.forCall tape i).memory i.args) ∧ a.holds C.prog (lone (Frame.enter C.prog f i.args .normal) [] (w.forCall tape i)))
    (contract : ∀ (W : World) (base : Nat) (args : Array Value) (ds gs : List (DataW H)) (before : List MemPlace),
      (∀ (j : Nat) t v, fn.params[j]? = some t → args[j]? = some v → Value.okWide C.prog W .any base t v) →
      DataW.Whole enc C.prog fn.params.toList s.vars apart W args.toList ds gs before → X W → W.ShapedOpen C.prog →
      Calls C.prog f args W fun e W' => ∃ v, e = .returned v ∧ s.post enc C.prog fn apart fresh handsOn again W args v W') :
    ReturnsInHanded a C os f .any (fun w args => (s.pre enc C.prog fn conds apart w args ∧ X w) ∧ sizedMet enc C.prog fn (OpenSpec.ofChange s) apart w args) (s.post enc C.prog fn apart fresh handsOn again) := by
  refine returnsInHanded_of_calls own started noInit witness ?_
  intro w tape i _ hsh _ hok hpre _
  obtain ⟨_, _, _, fn', hfn', _, _, _, _, hval⟩ := hok
  have e : fn' = fn := Option.some.inj (hfn'.symm.trans hfn)
  subst e
  obtain ⟨⟨⟨ds, gs, before, hw, _⟩, hx⟩, _⟩ := hpre
  have hw' := DataW.Whole.of_heap (w' := w.forCall tape i) (by rfl) hw
  refine (contract (w.forCall tape i) w.heap.size i.args ds gs before hval hw' (hX _ _ (by rfl) hx) hsh).mono fun e W' ⟨v, he, hp⟩ => ?_
  subst he
  exact ChangeSpec.post_blind hp
end

/-- The variables that each row of this layer lists. -/
def laidL : List (String × DataW Unit) := [("math/bits.deBruijn32tab", Rows.laid_math_bits_deBruijn32tab), ("math/bits.deBruijn64tab", Rows.laid_math_bits_deBruijn64tab), ("internal/strconv.uint64pow10", Rows.laid_internal_strconv_uint64pow10), ("unicode/utf8.acceptRanges", Rows.laid_unicode_utf8_acceptRanges), ("strconv.ErrRange", Rows.laid_strconv_ErrRange), ("strconv.ErrSyntax", Rows.laid_strconv_ErrSyntax), ("unicode/utf8.first", Rows.laid_unicode_utf8_first)]
def litV : DataW Unit → Value
  | .lit (.int k z) => .int k z
  | _ => .bool false
def litsV : DataW Unit → List Value
  | .agg l => l.map litV
  | _ => []
/-- The world that the door leaves, utf8's table laid. -/
noncomputable def laidWorld (os : Os) : World :=
  let w0 := World.doorLaid Tryz.prog 72 os
  { w0 with heap := w0.heap.modify ((Tryz.prog.globalNamed "unicode/utf8.first").getD 0) fun
      | .cells _ t frozen => .cells (litsV Go.Pinned.utf8First).toArray t frozen
      | o => o }
theorem laidL_plain (w : World) : laidMetH Tryz.prog laidL w = laidMet Tryz.prog laidL w := MakeChecks.laidMetH_plain _ _ _ (by kernel_rfl)
theorem laidWorld_met (os : Os) (args : Array Value) : laidMetH Tryz.prog laidL ((laidWorld os).forCall (fun _ _ => 0) ⟨#[], args, []⟩).memory := by
  rw [laidL_plain]
  exact laidMet_of_run3 8 (by kernel_rfl) (by kernel_rfl) (by kernel_rfl)
theorem laidWorld_shaped (os : Os) (args : Array Value) : ((laidWorld os).forCall (fun _ _ => 0) ⟨#[], args, []⟩).Shaped Tryz.prog := World.shaped_of_RefB (by kernel_rfl) (by kernel_rfl)

theorem var_below {W w : World} {n : String} {cs : Array Value} (h : W.var? Tryz.prog n = some cs) (hb : Below W.heap.size W w) : w.var? Tryz.prog n = some cs := by
  unfold World.var? at h ⊢
  cases hg : Tryz.prog.globalNamed n with
  | none => rw [hg] at h; cases h
  | some g =>
    rw [hg] at h
    simp only [Option.bind_some] at h ⊢
    rcases Nat.lt_or_ge g W.heap.size with hlt | hge
    · rw [hb.block g hlt]; exact h
    · rw [Array.getElem?_eq_none hge] at h; cases h
theorem err_cell {W : World} {n : String} {s : String} {d : DataW Unit} (hT : (Tryz.prog.globalNamed n).bind (fun g => (Tryz.prog.globals[g]?).map (·.type)) = some 85) (h : Lib.VarReads Tryz.prog W n (.iface s d)) : ∃ tp p, W.var? Tryz.prog n = some #[.iface tp p] := by
  obtain ⟨g, t, cs, fuel, p, h1, h2, h3, h4⟩ := h
  rw [h1] at hT
  obtain rfl : t = 85 := Option.some.inj (h2.symm.trans hT)
  obtain ⟨_, u, v, e, _⟩ := iface_of_trod Tryz.underlying85 h4
  refine ⟨u, v, ?_⟩
  rw [h3, Array.eq_one_of_toList e]
theorem tabs_of {W : World} (hL : laidMetH Tryz.prog laidL W) (hsh : W.ShapedOpen Tryz.prog) : TabsB W.heap.size W := by
  rw [laidL_plain] at hL
  have hpow : Lib.TabIs Tryz.prog W "internal/strconv.uint64pow10" .u64 Lib.pow10Tab := by
    obtain ⟨g, t, cs, fuel, p, h1, h2, h3, h4⟩ := Lib.laidMet.reads hL (n := "internal/strconv.uint64pow10") (d := Rows.laid_internal_strconv_uint64pow10) (by unfold laidL; simp)
    have hT : (Tryz.prog.globalNamed "internal/strconv.uint64pow10").bind (fun g => (Tryz.prog.globals[g]?).map (·.type)) = some 175 := by kernel_rfl
    rw [h1] at hT
    obtain rfl : t = 175 := Option.some.inj (h2.symm.trans hT)
    have h5 : Rows.laid_internal_strconv_uint64pow10 (H := Unit) = Lib.tabData .u64 Lib.pow10Tab := by kernel_rfl
    rw [h5] at h4
    have h6 := Lib.cells_of_tab Tryz.underlying175 Tryz.underlying162 (by kernel_rfl) (by kernel_rfl) h4
    unfold Lib.TabIs
    rw [h3, ← h6]
  obtain ⟨tp1, p1, hsy⟩ := err_cell (n := "strconv.ErrSyntax") (by kernel_rfl) (Lib.laidMet.reads hL (n := "strconv.ErrSyntax") (d := Rows.laid_strconv_ErrSyntax) (by unfold laidL; simp))
  obtain ⟨tp2, p2, hrg⟩ := err_cell (n := "strconv.ErrRange") (by kernel_rfl) (Lib.laidMet.reads hL (n := "strconv.ErrRange") (d := Rows.laid_strconv_ErrRange) (by unfold laidL; simp))
  obtain ⟨m, hm⟩ := Go.Proofs.cell_of_shapedOpen_int (P := Tryz.prog) (g := 0) (k := .i64) (zero := #[.int .i64 0]) (t := 3) hsh (of_decide_eq_true (by kernel_rfl)) (by kernel_rfl) rfl (by kernel_rfl) (by kernel_rfl) Tryz.underlying3
  intro w hb
  refine ⟨var_below hpow hb, ⟨tp1, p1, var_below hsy hb⟩, ⟨tp2, p2, var_below hrg hb⟩, m, ?_⟩
  have hlt : 0 < W.heap.size := by
    rcases Nat.eq_zero_or_pos W.heap.size with h | h
    · simp [World.cell?, Array.getElem?_eq_none (show W.heap.size ≤ 0 by omega)] at hm
    · exact h
  exact (hb.cell (p := ⟨0, 0, none⟩) hlt).trans hm
theorem Tryz.own : ownKnob Tryz.prog.godebug = none := by kernel_rfl
theorem Tryz.laidOut : laidOutB Tryz.prog = true := by kernel_rfl
end Go.Proofs.YtnkpfpgmbpnbgaaGreatDoor

/- From arguments that came in to rows that are only read. -/
namespace Go.Eng
open Go.ChangeShapes Go.WideShapes Go.ChangeAt Go.RowKit Go.Deep

/-- In this world the cells xs lie from A on. -/
def Old (W : World) (A : Option Addr) (xs : List Value) : Prop := ∀ j v, xs[j]? = some v → ∃ g o, A = some ⟨g, o, none⟩ ∧ g < W.heap.size ∧ W.cell? ⟨g, o + j, none⟩ = some v
theorem Old.rd {W : World} {H : List HP} {A : Option Addr} {xs : List Value} (h : Old W A xs) : Rd W.heap.size W H A xs := Rd.old h

theorem cell_lt {W : World} {a : Addr} {v : Value} (h : W.cell? a = some v) : a.block < W.heap.size := by
  unfold World.cell? at h
  rcases Nat.lt_or_ge a.block W.heap.size with h1 | h1
  · exact h1
  · rw [Array.getElem?_eq_none h1] at h; cases h

section
variable {H : Type} {enc : TypeId × Value → H} {P : Program} {W : World} {held : Bool}

/-- A slice that came in: its elements, and where they lie; f: an element's cells; good: what is known of an element. -/
theorem open_rows {α : Type} {f : α → List Value} {good : α → Prop} {t e q : Nat} {fuel : Nat} {A : Option Addr} {len cap : Nat} {x : DataW H × List MemPlace} {spare : Nat → Bool} (ht : P.underlying t = some (.slice e)) (hc : P.cellsOf e = q) (h0 : 0 < q)
    (hel : ∀ n cs y, cs.length = q → DataW.trod enc P W 0 spare held n e cs = some y → ∃ a, cs = f a ∧ good a) (h : DataW.trod enc P W 0 spare held fuel t [.slice A len cap] = some x) :
    ∃ l : List α, l.length = len ∧ Old W A (l.flatMap f) ∧ (∀ a ∈ l, good a) ∧ len ≤ maxLen ∧ (∀ a ∈ l, (f a).length = q) := by
  rcases open_slice ht h with ⟨h1, _⟩ | ⟨a, len', cap', m, n, D, Pl, h1, _, hl, hm, hmm, hxx, hx⟩
  · injection h1 with h1 _
    injection h1 with h1 h2 h3
    subst h1 h2 h3
    exact ⟨[], rfl, (fun j v hv => by simp at hv), (fun a ha => by cases ha), Nat.zero_le _, (fun a ha => by cases ha)⟩
  · injection h1 with h1 _
    injection h1 with h1 h2 h3
    subst h1 h2 h3
    have hle : len ≤ m := by rw [hmm]; split <;> omega
    rw [hc] at hx
    have key : ∀ i, i < len → ∃ b : α, W.cells? 0 (a.add (i * q)) q = some (f b) ∧ good b := fun i hi => by
      obtain ⟨cs', h2, h3⟩ := hx i (by omega)
      obtain ⟨_, h5, _⟩ := World.cells?_some h2
      obtain ⟨b, rfl, hb⟩ := hel n cs' _ h5 h3
      exact ⟨b, h2, hb⟩
    obtain ⟨l, hlen, hl2⟩ : ∃ l : List α, l.length = len ∧ ∀ i b, l[i]? = some b → W.cells? 0 (a.add (i * q)) q = some (f b) ∧ good b := by
      clear hx hmm hle h hl hm hxx
      induction len with
      | zero => exact ⟨[], rfl, fun i b hb => by simp at hb⟩
      | succ k ih =>
        obtain ⟨l, h2, h3⟩ := ih (fun i hi => key i (by omega))
        obtain ⟨b, h4⟩ := key k (by omega)
        refine ⟨l ++ [b], by simp [h2], fun i c hc => ?_⟩
        by_cases hi : i < l.length
        · rw [List.getElem?_append_left hi] at hc; exact h3 i c hc
        · rw [List.getElem?_append_right (by omega)] at hc
          have hi2 : i - l.length = 0 := by
            have := (List.getElem?_eq_some_iff.1 hc).1
            simp at this; omega
          rw [hi2] at hc
          obtain rfl : b = c := by simpa using hc
          obtain rfl : i = k := by omega
          exact h4
    have hfq : ∀ b ∈ l, (f b).length = q := fun b hb => by
      obtain ⟨i, hi⟩ := List.getElem?_of_mem hb
      exact (World.cells?_some (hl2 i b hi).1).2.1
    refine ⟨l, hlen, fun j v hv => ?_, fun b hb => ?_, by omega, hfq⟩
    · have hspl : ∃ i b, l[i]? = some b ∧ ∃ r, j = i * q + r ∧ r < q ∧ (f b)[r]? = some v := by
        clear hlen hl2 key
        induction l generalizing j with
        | nil => simp at hv
        | cons b l ih =>
          rw [List.flatMap_cons] at hv
          have hb := hfq b (by simp)
          by_cases hj : j < q
          · rw [List.getElem?_append_left (by omega)] at hv
            exact ⟨0, b, rfl, j, by omega, hj, hv⟩
          · rw [List.getElem?_append_right (by omega), hb] at hv
            obtain ⟨i, b', h5, r, h6, h7, h8⟩ := ih (fun c hc => hfq c (by simp [hc])) (j - q) hv
            exact ⟨i + 1, b', by simpa using h5, r, by rw [Nat.add_mul]; omega, h7, h8⟩
      obtain ⟨i, b, h5, r, rfl, h7, h8⟩ := hspl
      have h9 := (World.cells?_some (hl2 i b h5).1).2.2 r h7
      rw [h8, add_add] at h9
      obtain ⟨ab, ao, spot⟩ := a
      have hs0 : spot = none := by
        have h10 := World.cell?_spot h9
        unfold Addr.add at h10
        split at h10
        · exact h10
        · rename_i hne
          have hi0 : i < len := by have := (List.getElem?_eq_some_iff.1 h5).1; omega
          have h11 := (World.cells?_some (hl2 0 l[0] (List.getElem?_eq_getElem (by omega))).1).2.2 0 h0
          rw [add_add, Nat.zero_mul, Nat.zero_add] at h11
          have hf0 : ((f l[0])[0]?).isSome = true := by
            rw [List.getElem?_eq_getElem (by rw [hfq _ (List.getElem_mem _)]; exact h0)]; rfl
          cases hf1 : (f l[0])[0]? with
          | none => rw [hf1] at hf0; cases hf0
          | some u =>
            rw [hf1] at h11
            exact World.cell?_spot h11
      subst hs0
      refine ⟨ab, ao, rfl, ?_, ?_⟩
      · have := cell_lt h9
        rw [Addr.add_lit] at this
        exact this
      · rw [Addr.add_lit] at h9
        exact h9
    · obtain ⟨i, hi⟩ := List.getElem?_of_mem hb
      exact (hl2 i b hi).2

end
end Go.Eng

/- From arguments that came in to what the walks speak of: openers, built up as types are. -/
namespace Go.Eng
open Go.ChangeShapes Go.WideShapes Go.ChangeAt Go.RowKit Go.Deep

/-- A slice: where it lies, its capacity, its elements. -/
structure SlM (α : Type) where
  A : Option Addr
  cap : Nat
  xs : List α
def SlM.val {α : Type} (s : SlM α) : Value := .slice s.A s.xs.length s.cap

section
variable {H : Type} {enc : TypeId × Value → H} {P : Program} {W : World} {spare : Nat → Bool} {held : Bool}

/-- Cells that are read as a value of type t are those of some a that is good. -/
def Opn (enc : TypeId × Value → H) (P : Program) (W : World) (spare : Nat → Bool) (held : Bool) (t : TypeId) {α : Type} (f : α → List Value) (good : α → Prop) : Prop :=
  ∀ fuel cs y, DataW.trod enc P W 0 spare held fuel t cs = some y → ∃ a, cs = f a ∧ good a

theorem op_map {t : TypeId} {α β : Type} {f : α → List Value} {good : α → Prop} {f' : β → List Value} {good' : β → Prop} (h : Opn enc P W spare held t f good) (g : α → β) (hf : ∀ a, f a = f' (g a)) (hg : ∀ a, good a → good' (g a)) : Opn enc P W spare held t f' good' := by
  intro fuel cs y hy
  obtain ⟨a, h1, h2⟩ := h fuel cs y hy
  exact ⟨g a, h1.trans (hf a), hg a h2⟩

theorem op_int {t : TypeId} {k : IntKind} (ht : P.underlying t = some (.int k)) : Opn enc P W spare held t (fun z : Int => [Value.int k z]) (fun z => (Lit.int k z).wf = true) := by
  intro fuel cs y hy
  obtain ⟨m, rfl, rfl, hw⟩ := DataW.trod_int ht hy
  exact ⟨m, rfl, hw⟩

/-- What is known of a slice that came in. -/
structure SlG {α : Type} (W : World) (f : α → List Value) (good : α → Prop) (s : SlM α) : Prop where
  old : Old W s.A (s.xs.flatMap f)
  good : ∀ a ∈ s.xs, good a
  len : s.xs.length ≤ maxLen
  cap : s.xs.length ≤ s.cap

theorem op_slice {t e q : TypeId} {α : Type} {f : α → List Value} {good : α → Prop} (ht : P.underlying t = some (.slice e)) (hc : P.cellsOf e = q) (h0 : 0 < q) (h : Opn enc P W spare held e f good) : Opn enc P W spare held t (fun s : SlM α => [s.val]) (SlG W f good) := by
  intro fuel cs y hy
  rcases open_slice ht hy with ⟨rfl, _⟩ | ⟨a, len, cap, m, n, D, Pl, rfl, _, hlc, _⟩
  · exact ⟨⟨none, 0, []⟩, rfl, ⟨(fun j v hv => by simp at hv), (fun a ha => by cases ha), Nat.zero_le _, Nat.zero_le _⟩⟩
  · obtain ⟨l, h1, h2, h3, h4, _⟩ := open_rows ht hc h0 (fun n cs y _ hy => h n cs y hy) hy
    subst h1
    exact ⟨⟨some a, cap, l⟩, rfl, h2, h3, h4, hlc⟩

/-- The same for the fields of a struct, one behind the other. -/
def FOpn (enc : TypeId × Value → H) (P : Program) (W : World) (spare : Nat → Bool) (held : Bool) (ts : List TypeId) {α : Type} (f : α → List Value) (good : α → Prop) : Prop :=
  ∀ (n : Nat) (cs : List Value), cs.length = (ts.map P.cellsOf).sum → (∀ i t, ts[i]? = some t → ∃ y, DataW.trod enc P W 0 spare held n t ((cs.drop ((ts.take i).map P.cellsOf).sum).take (P.cellsOf t)) = some y) → ∃ a, cs = f a ∧ good a

theorem fop_nil : FOpn enc P W spare held [] (fun _ : Unit => []) (fun _ => True) := fun n cs h _ => ⟨(), List.eq_nil_of_length_eq_zero (by simpa using h), trivial⟩
theorem fop_cons {t : TypeId} {ts : List TypeId} {α β : Type} {f : α → List Value} {good : α → Prop} {g : β → List Value} {good' : β → Prop} (h : Opn enc P W spare held t f good) (hs : FOpn enc P W spare held ts g good') :
    FOpn enc P W spare held (t :: ts) (fun x : α × β => f x.1 ++ g x.2) (fun x => good x.1 ∧ good' x.2) := by
  intro n cs hl hx
  simp only [List.map_cons, List.sum_cons] at hl
  obtain ⟨y, hy⟩ := hx 0 t rfl
  simp only [List.take_zero, List.map_nil, List.sum_nil, List.drop_zero] at hy
  obtain ⟨a, h1, h2⟩ := h n _ y hy
  obtain ⟨b, h3, h4⟩ := hs n (cs.drop (P.cellsOf t)) (by simp; omega) (fun i u hu => by
    obtain ⟨y, hy⟩ := hx (i + 1) u (by simpa using hu)
    refine ⟨y, ?_⟩
    rw [List.drop_drop]
    simpa using hy)
  exact ⟨(a, b), by show cs = f a ++ g b; rw [← h1, ← h3, List.take_append_drop], h2, h4⟩

def offs (P : Program) : List TypeId → Nat → List Nat
  | [], _ => []
  | t :: ts, o => o :: offs P ts (o + P.cellsOf t)
theorem offs_get (P : Program) : ∀ (ts : List TypeId) (o i : Nat), i < ts.length → (offs P ts o)[i]? = some (o + ((ts.take i).map P.cellsOf).sum)
  | [], _, _, h => by simp at h
  | t :: ts, o, 0, _ => by simp [offs]
  | t :: ts, o, i + 1, h => by
    rw [offs, List.getElem?_cons_succ, offs_get P ts _ i (by simpa using h)]
    simp [Nat.add_assoc]
/-- A struct whose fields have these types, one behind the other. -/
def structB (P : Program) (t : TypeId) (ts : List TypeId) : Bool :=
  match P.underlying t with
  | some (.struct fs) => (fs.toList.map (·.type) == ts) && (fs.toList.map (·.offset) == offs P ts 0) && (P.cellsOf t == (ts.map P.cellsOf).sum)
  | _ => false

theorem op_struct {t : TypeId} {ts : List TypeId} {α : Type} {f : α → List Value} {good : α → Prop} (hB : structB P t ts = true) (h : FOpn enc P W spare held ts f good) : Opn enc P W spare held t f good := by
  intro fuel cs y hy
  unfold structB at hB
  cases hu : P.underlying t with
  | none => rw [hu] at hB; cases hB
  | some d =>
    rw [hu] at hB
    cases d with
    | struct fs =>
      simp only [Bool.and_eq_true, beq_iff_eq] at hB
      obtain ⟨⟨h1, h2⟩, h3⟩ := hB
      obtain ⟨xs, n, _, _, hl, hn, hx⟩ := DataW.trod_struct hu hy
      refine h n cs (hl.trans h3) fun i u hi => ?_
      have hlt : i < ts.length := (List.getElem?_eq_some_iff.1 hi).1
      have hlf : i < fs.toList.length := by rw [← h1] at hlt; simpa using hlt
      have hf : fs[i]? = some (fs.toList[i]) := by rw [← Array.getElem?_toList, List.getElem?_eq_getElem hlf]
      have ht : (fs.toList[i]).type = u := by
        rw [← h1, List.getElem?_map, List.getElem?_eq_getElem hlf] at hi
        simpa using hi
      have ho : (fs.toList[i]).offset = ((ts.take i).map P.cellsOf).sum := by
        have h5 := offs_get P ts 0 i hlt
        rw [← h2, List.getElem?_map, List.getElem?_eq_getElem hlf] at h5
        simpa using h5
      have h6 := hx i _ hf
      rw [ht, ho] at h6
      have hlx : i < xs.length := by rw [hn]; simpa using hlf
      exact ⟨xs[i], by rw [h6, List.getElem?_eq_getElem hlx]⟩
    | _ => cases hB

end
end Go.Eng

/- A network that came in as an argument. -/
namespace Go.Proofs.YtnkpfpgmbpnbgaaGreatDoor
open Go.ChangeShapes Go.WideShapes Go.ChangeAt Go.RowKit Go.Eng Go.Nw

section
variable {H : Type} {enc : TypeId × Value → H} {W : World} {spare : Nat → Bool} {held : Bool}
abbrev I64 (z : Int) : Prop := (Lit.int .i64 z).wf = true
theorem op_i : Opn enc Tryz.prog W spare held 3 numF I64 := op_int Tryz.underlying3
structure NetG (W : World) (n : NetM) : Prop where
  nodes : I64 n.nodes
  pw : Old W n.pA (n.rows.flatMap rowF)
  rw_ : ∀ r ∈ n.rows, Old W r.A (r.xs.flatMap numF)
  noise : I64 n.noise
  thr : I64 n.thr
  lk : Old W n.lA (n.links.flatMap lkF)
  mg : Old W n.mA (n.margin.flatMap numF)
  s1 : n.rows.length ≤ 9223372036854775807
  s2 : ∀ r ∈ n.rows, r.xs.length ≤ 9223372036854775807
  s3 : n.links.length ≤ 9223372036854775807
  s4 : n.margin.length ≤ 9223372036854775807
  w1 : ∀ r ∈ n.rows, ∀ z ∈ r.xs, I64 z
  w2 : ∀ l ∈ n.links, I64 l.1 ∧ I64 l.2.1 ∧ I64 l.2.2
  w3 : ∀ z ∈ n.margin, I64 z
  c3 : n.links.length ≤ n.lcap
  c4 : n.margin.length ≤ n.mcap
theorem NetG.In {n : NetM} {K : List HP} (h : NetG W n) : n.In W.heap.size W K := ⟨h.pw.rd, fun r hr => (h.rw_ r hr).rd, h.lk.rd, h.mg.rd, h.s1, h.s2, h.s3, h.s4⟩

theorem maxL : maxLen ≤ 9223372036854775807 := by decide
end
end Go.Proofs.YtnkpfpgmbpnbgaaGreatDoor

/- From a row's argument to a schedule, a cell, a list of flows, a text. -/
namespace Go.Proofs.YtnkpfpgmbpnbgaaGreatDoor
open Go.ChangeShapes Go.WideShapes Go.ChangeAt Go.RowKit Go.Eng Go.Nw
open Go.ChangeMaps (open_string)

section
variable {H : Type} {enc : TypeId × Value → H} {W : World} {spare : Nat → Bool} {held : Bool}
abbrev CelG (c : Cel) : Prop := I64 c.1 ∧ I64 c.2.1 ∧ I64 c.2.2.1 ∧ I64 c.2.2.2.1 ∧ I64 c.2.2.2.2
theorem op_cell : Opn enc Tryz.prog W spare held 51 celF CelG :=
  op_map (op_struct (ts := [3, 3, 3, 3, 3]) (by kernel_rfl) (fop_cons op_i (fop_cons op_i (fop_cons op_i (fop_cons op_i (fop_cons op_i fop_nil)))))) (fun x => (x.1, x.2.1, x.2.2.1, x.2.2.2.1, x.2.2.2.2.1)) (fun _ => rfl) (fun _ h => ⟨h.1, h.2.1, h.2.2.1, h.2.2.2.1, h.2.2.2.2.1⟩)
theorem op_cells : Opn enc Tryz.prog W spare held 28 (fun s : SlM Cel => [s.val]) (SlG W celF CelG) := op_slice (q := 5) Tryz.underlying28 (by kernel_rfl) (by decide) op_cell
structure SchG (W : World) (s : SchM) : Prop where
  len : I64 s.len
  off : I64 s.off
  old : Old W s.A (s.cells.flatMap celF)
  few : s.cells.length ≤ 9223372036854775807
  good : ∀ c ∈ s.cells, CelG c
  cap : s.cells.length ≤ s.cap
def schF (s : SchM) : List Value := [.int .i64 s.len, .int .i64 s.off, .slice s.A s.cells.length s.cap]
theorem op_sch : Opn enc Tryz.prog W spare held 30 schF (SchG W) :=
  op_map (op_struct (ts := [3, 3, 28]) (by kernel_rfl) (fop_cons op_i (fop_cons op_i (fop_cons op_cells fop_nil))))
    (fun x => ⟨x.1, x.2.1, x.2.2.1.A, x.2.2.1.cap, x.2.2.1.xs⟩) (fun x => by simp [schF, numF, SlM.val])
    (fun x h => by
      obtain ⟨h1, h2, h3, _⟩ := h
      exact ⟨h1, h2, h3.old, Nat.le_trans h3.len maxL, h3.good, h3.cap⟩)
set_option maxRecDepth 100000 in
theorem open_sch {r : Reach} {b0 : Nat} {v : Value} {d : DataW H} {p : List MemPlace} (hv : Value.okWide Tryz.prog W r b0 30 v) (h : DataW.Trod enc Tryz.prog W 0 spare held 30 v d p) : ∃ s : SchM, v = s.val ∧ SchG W s := by
  obtain ⟨cs, rfl, _⟩ := okWide_struct Tryz.underlying30 hv
  obtain ⟨fuel, hf⟩ := h
  obtain ⟨n, h1, h2⟩ := op_sch fuel _ _ hf
  refine ⟨n, ?_, h2⟩
  have : cs = (schF n).toArray := by rw [← h1]; simp [Value.cells]
  rw [this]; rfl
set_option maxRecDepth 100000 in
theorem open_cell {r : Reach} {b0 : Nat} {v : Value} {d : DataW H} {p : List MemPlace} (hv : Value.okWide Tryz.prog W r b0 51 v) (h : DataW.Trod enc Tryz.prog W 0 spare held 51 v d p) : ∃ c : Cel, v = celV c ∧ CelG c := by
  obtain ⟨cs, rfl, _⟩ := okWide_struct Tryz.underlying51 hv
  obtain ⟨fuel, hf⟩ := h
  obtain ⟨n, h1, h2⟩ := op_cell fuel _ _ hf
  refine ⟨n, ?_, h2⟩
  have : cs = (celF n).toArray := by rw [← h1]; simp [Value.cells]
  rw [this]; rfl
end
end Go.Proofs.YtnkpfpgmbpnbgaaGreatDoor

/- The law ScheduleBack returns true at every input, and its arguments read behind the call as they read before: the statement Rows.ScheduleBackCardSaid. Condition: the listed package-level variables start as the program's text lays them, to which the card ties them. -/
namespace Go.Proofs.YtnkpfpgmbpnbgaaGreatDoor
open Go.ChangeShapes Go.WideShapes Go.ChangeAt Go.RowKit Go.Eng
open Go.ChangeMaps (open_string)

set_option maxRecDepth 100000 in
theorem sback_lifted (os : Os) (started : os.Started) (H : Type) (enc : TypeId × Value → H) :
    ReturnsInHanded {} Tryz.checked os 10 .any (fun w args => (Rows.scheduleBackSpec.pre enc Tryz.prog Tryz.f10 [] false w args ∧ laidMetH Tryz.prog laidL w) ∧ sizedMet enc Tryz.prog Tryz.f10 (OpenSpec.ofChange Rows.scheduleBackSpec) false w args)
      (Rows.scheduleBackSpec.post enc Tryz.prog Tryz.f10 false true false false) := by
  refine handed_and_shaped (C := Tryz.checked) (X := fun w => laidMetH Tryz.prog laidL w) (fun _ _ hh h => h.of_heap hh) Tryz.own started (by kernel_rfl) Tryz.func10
    (ChangeSpec.witness_shaped (enc := enc) (C := Tryz.checked) (os := os) (X := fun w _ => laidMetH Tryz.prog laidL w) false (laidWorld os) #[.agg #[.int .i64 0, .int .i64 0, .slice none 0 0], .agg #[.int .i64 0, .int .i64 0, .int .i64 0, .int .i64 0, .int .i64 0]] 8 rfl (laidWorld_shaped os _) (by kernel_rfl) (by kernel_rfl) (by kernel_rfl) (laidWorld_met os _)) ?_
  intro W base args ds gs before hval0 hW hL hsh
  have hval : ∀ (j : Nat) t v, Tryz.f10.params[j]? = some t → args[j]? = some v → Value.okWide Tryz.prog W .any base t v := hval0
  have hW' : DataW.Whole enc Tryz.prog Tryz.f10.params.toList Rows.scheduleBackSpec.vars false W args.toList ds gs before := hW
  obtain ⟨p, q, hA0, hV, rfl, hfz, hnd⟩ := hW
  have hA : DataW.TrodAll enc Tryz.prog W 0 (fun _ => true) true Tryz.f10.params.toList args.toList ds p := hA0
  obtain ⟨rfl, rfl⟩ := trodVars_none hV
  rw [Tryz.params10] at hA hval
  obtain ⟨v0, v1, d0, d1, p0, p1, rfl, rfl, rfl, h0, h1⟩ := trodAll_two hA
  obtain ⟨s, rfl, hs⟩ := open_sch (hval 0 _ v0 rfl rfl) h0
  obtain ⟨c, rfl, hc⟩ := open_cell (hval 1 _ v1 rfl rfl) h1
  have ht := tabs_of hL hsh
  refine (law_back s c ht hs.old.rd (St.start W)).mono ?_
  rintro e' W' ⟨v, K, rfl, hst, rfl, -⟩
  exact ⟨_, rfl, post_true Tryz.laidOut (by kernel_rfl) rfl rfl Tryz.underlying4 hW' hst.below rfl rfl rfl⟩
theorem sback_row : Rows.ScheduleBackSaid :=
  OpenClaim.holds_of_wide 10 Tryz.f10 rfl rfl rfl rfl rfl rfl rfl ⟨rfl, rfl, rfl, rfl, rfl⟩ rfl rfl rfl rfl rfl (by kernel_rfl) Tryz.func10 (by kernel_rfl)
    (of_decide_eq_true (by kernel_rfl)) (by unfold Func.isWrapper; first | (rw [if_pos (by decide +kernel)]; kernel_rfl) | (rw [if_neg (by decide +kernel)]; exact ⟨rfl, rfl⟩))
    (fun os started H enc _ => sback_lifted os started H enc)
theorem sback_holds : Rows.ScheduleBackCardSaid :=
  Claim7.holds_tied_plain_at .later [] [.data, .data, .data, .data, .sentinel, .sentinel, .pinned] true _ true
    sback_row (fun _ h => by cases h) (by kernel_rfl) (fun _ h => by cases h) scheduleBack_row_tie rfl ⟨rfl, rfl⟩ (by kernel_rfl) rfl
    (fun f fn hf hfn => by
      obtain rfl : f = 10 := Option.some.inj ((show Tryz.prog.funcNamed Tryz.f10.name = some 10 by kernel_rfl).symm.trans hf) |>.symm
      obtain rfl : fn = Tryz.f10 := (Option.some.inj (Tryz.func10.symm.trans hfn)).symm
      exact ⟨by kernel_rfl, fun j t htj => by
        have hm := Array.mem_of_getElem? htj
        have hall : (Tryz.f10.params.toList.all fun u => !Tryz.prog.wantsStandIn u) = true := by kernel_rfl
        exact (show Tryz.prog.wantsStandIn t = false by simpa using List.all_eq_true.1 hall t (by simpa using hm))⟩)
    (by kernel_rfl)
end Go.Proofs.YtnkpfpgmbpnbgaaGreatDoor
