/- Walk: the reference's forget. -/
import Derived.Test.YtfobgjhjigkigaaFr2
namespace Go.Eng
open Go.RowKit
theorem sepL_filter {α : Type} (f : α → HP) (p : α → Bool) {w : World} : ∀ (xs : List α) {S : Nat → Prop}, sepL (xs.map f) S w → sepL ((xs.filter p).map f) S w
  | [], _, _ => trivial
  | x :: xs, S, h => by
    obtain ⟨S1, S2, h1, h2, h3, h4, h5⟩ := h
    have ih := sepL_filter f p xs h5
    cases hp : p x
    · rw [List.filter_cons_of_neg (by simp [hp])]
      exact sepL_mono ih h2
    · rw [List.filter_cons_of_pos hp]
      exact ⟨S1, S2, h1, h2, h3, h4, ih⟩
theorem Perm.manyFilter {α : Type} (f : α → HP) (p : α → Bool) (xs : List α) (M : List HP) : Perm (many (xs.map f) :: M) (many ((xs.filter p).map f) :: M) :=
  ⟨fun _ _ ⟨S1, S2, h1, h2, h3, h4, h5⟩ => ⟨S1, S2, h1, h2, h3, sepL_filter f p xs h4, h5⟩⟩
end Go.Eng
namespace Go.Proofs.Ytfobgjhjigkigaa
open Go.RowKit Go.Eng Go.Nw

def keepX (hold time : Int) (x : Rx) : Bool := !old hold time x.d
theorem take_filter {hold time : Int} {xs : List Rx} {k : Nat} {x : Rx} (h : xs[k]? = some x) : (xs.take (k + 1)).filter (keepX hold time) = (xs.take k).filter (keepX hold time) ++ if keepX hold time x = true then [x] else [] := by
  rw [List.take_add_one, h, List.filter_append]
  congr 1
  cases hx : keepX hold time x <;> simp [hx]

theorem xforget_spec (rx : Nat) (hold time : Int) (A : Option Addr) (cap : Nat) (xs : List Rx) (hl : xs.length ≤ 1000) (hh : 0 ≤ hold ∧ hold ≤ 4096) (ht : 0 ≤ time ∧ time ≤ 109951162) {B : Nat} {w0 : World} {H : List HP} {w : World} (hw : St B w0 (xpcs rx hold time A cap xs H) w) :
    Calls Try.prog 58 [.pointer (some ⟨rx, 0, none⟩)].toArray w (Post B w0 fun v K => ∃ A' cap', v = .tuple #[] ∧ K = xpcs rx hold time A' cap' (xs.filter (keepX hold time)) H) := by
  refine Calls_of_VC Try.func58 Try.ntmps58 rfl rfl hw ?_
  unfold xpcs
  repeat' (first | (apply VL_buildSlice0 T; exact rfl; exact rfl; intro g2) | apply (zs2 ?_) | apply (zs65 ?_) | apply (zs68 ?_) | apply (zs69 ?_) | apply (zs70 ?_) | apply (zs73 ?_))
  refine VC_loop3 (fun (k : Nat) (A2 : Option Addr) (cap2 : Nat) => [(3, .int .i64 k), (2, .slice A2 ((xs.take k).filter (keepX hold time)).length cap2), (0, .pointer (some ⟨rx, 0, none⟩))])
    (fun k A2 cap2 => sl 105 7 A2 ((xs.take k).filter (keepX hold time)).length cap2 (((xs.take k).filter (keepX hold time)).flatMap rdF) :: blk rx (xcells hold time A xs.length cap) :: sl 105 7 A xs.length cap (xs.flatMap rdF) :: many (xs.map xrows) :: H)
    (fun k _ _ => k ≤ xs.length) (fun k _ _ => xs.length - k) 0 (some ⟨g2, 0, none⟩) 0 (Nat.zero_le _) ?_ (fun w hw => hw) ?_
  · (repeat (first | exact sub_nil _ | (apply sub_cons; first | exact rfl | exact congrArg (fun z : Int => some (Value.int .i64 z)) (by omega))))
  rintro k A2 cap2 hk K hK
  have hfl : ((xs.take k).filter (keepX hold time)).length ≤ 1000 := Nat.le_trans (List.length_filter_le _ _) (by simp; omega)
  by_cases hlt : k < xs.length
  · obtain ⟨x, hx⟩ : ∃ x, xs[k]? = some x := ⟨_, List.getElem?_eq_getElem hlt⟩
    have hstep := take_filter (hold := hold) (time := time) hx
    by_cases hkp : time - hold ≤ x.d.last
    · have hkx : keepX hold time x = true := by simp [keepX, old]; omega
      rw [if_pos hkx] at hstep
      repeat' (first | apply (zs1 ?_) | apply (zs2 ?_) | apply (zs5 ?_) | (apply zg2; first | refine zs6 ?_ | refine zs58 ?_) | (apply zg3; first | refine zs7 ?_ | refine zs59 ?_ | refine zs61 ?_) | (apply zg4; refine zs9 ?_) | (apply zg5; refine zs10 ?_) | (apply (zs17 ?_ ?_) <;> intro _ <;> try (exfalso; omega)) | (apply (zs20 ?_ ?_) <;> intro _ <;> try (exfalso; omega)) | (apply zg13; refine zs30 ?_) | (apply zg14; refine zs31 ?_) | (apply zg21; (refine zs49 ?_; intro _ _)) | (apply zg26; (refine zs56 ?_; intro _)) | apply (zs65 ?_) | apply (zs66 ?_) | apply (zs68 ?_) | apply (zs69 ?_) | apply (zs70 ?_) | (apply zg27; refine zs71 ?_) | apply (zs73 ?_) | apply (zs76 ?_) | apply (zs79 ?_) | (apply zg28; refine zs83 ?_))
      rename_i A3 cap3
      apply hK (k + 1) A3 cap3
      · omega
      · omega
      · rw [hstep, List.length_append, List.length_singleton]; (repeat (first | exact sub_nil _ | (apply sub_cons; first | exact rfl | exact congrArg (fun z : Int => some (Value.int .i64 z)) (by omega))))
      · intro w hw
        rw [hstep, List.length_append, List.length_singleton, List.flatMap_append]
        exact hw.tail
    · have hkx : ¬ keepX hold time x = true := by simp [keepX, old]; omega
      rw [if_neg hkx, List.append_nil] at hstep
      repeat' (first | apply (zs1 ?_) | apply (zs2 ?_) | apply (zs5 ?_) | (apply zg2; first | refine zs6 ?_ | refine zs58 ?_) | (apply zg3; first | refine zs7 ?_ | refine zs59 ?_) | (apply zg4; refine zs9 ?_) | (apply zg5; refine zs10 ?_) | (apply (zs17 ?_ ?_) <;> intro _ <;> try (exfalso; omega)) | (apply (zs20 ?_ ?_) <;> intro _ <;> try (exfalso; omega)) | (apply zg13; refine zs30 ?_) | (apply zg14; refine zs31 ?_) | apply (zs65 ?_) | apply (zs66 ?_) | apply (zs68 ?_) | apply (zs69 ?_) | apply (zs70 ?_) | (apply zg27; first | refine zs71 ?_ | refine zs72 ?_) | apply (zs73 ?_) | apply (zs76 ?_) | apply (zs79 ?_) | (apply zg28; refine zs83 ?_))
      apply hK (k + 1) A2 cap2
      · omega
      · omega
      · rw [hstep]; (repeat (first | exact sub_nil _ | (apply sub_cons; first | exact rfl | exact congrArg (fun z : Int => some (Value.int .i64 z)) (by omega))))
      · rw [hstep]; exact fun w hw => hw
  obtain rfl : k = xs.length := by omega
  clear hK
  rw [List.take_length]
  repeat' (first | apply (zs1 ?_) | apply (zs5 ?_) | (apply zg2; refine zs6 ?_) | (apply zg3; refine zs7 ?_) | (apply zg4; refine zs9 ?_) | (apply (zs17 ?_ ?_) <;> intro _ <;> try (exfalso; omega)) | (apply zg22; refine zs50 ?_) | apply (zs65 ?_) | apply (zs68 ?_) | apply (zs69 ?_) | apply (zs70 ?_) | (apply zg27; refine zs72 ?_) | apply (zs75 ?_) | apply (zs80 ?_) | apply (zs81 ?_))
  apply VQ_st (xpcs rx hold time A2 cap2 (xs.filter (keepX hold time)) H)
  · intro w hw
    have h5 : St B w0 (many (xs.map xrows) :: blk rx (xcells hold time A2 (xs.filter (keepX hold time)).length cap2) :: sl 105 7 A2 (xs.filter (keepX hold time)).length cap2 ((xs.filter (keepX hold time)).flatMap rdF) :: H) w := by
      revert w
      (intro w hw; refine hw.perm ?_; focus repeat (first | with_reducible exact Perm.refl _ | (with_reducible apply perm_take; focus ((repeat (first | with_reducible exact rem_here | with_reducible apply rem_there)); done)) | with_reducible apply Perm.dropK))
    have h6 := h5.perm (.manyFilter xrows (keepX hold time) xs _)
    unfold xpcs
    exact h6.perm (.trans (.swap _ _ _) (.cons _ (.swap _ _ _)))
  apply VQ_end0; exact rfl
  exact ⟨A2, cap2, rfl, rfl⟩
end Go.Proofs.Ytfobgjhjigkigaa
