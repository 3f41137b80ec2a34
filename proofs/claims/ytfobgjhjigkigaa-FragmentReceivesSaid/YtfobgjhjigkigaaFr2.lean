/- Walks: the reference's whole, NewReceiver. -/
import Derived.Test.YtfobgjhjigkigaaFr1
namespace Go.Proofs.Ytfobgjhjigkigaa
open Go.RowKit Go.Eng Go.Nw

theorem xwhole_spec (l : List Bool) (hl : l.length ≤ 1000) {A : Option Addr} {cap B : Nat} {w0 : World} {H : List HP} {w : World} (hr : Rd B w0 H A (l.flatMap boolF)) (hw : St B w0 H w) :
    Calls Try.prog 60 [.slice A l.length cap].toArray w (Post B w0 fun v K => v = .bool (l.all id) ∧ K = H) := by
  refine Calls_of_VC Try.func60 Try.ntmps60 rfl rfl hw ?_
  repeat' (first | apply (zs2 ?_) | apply (zs65 ?_) | apply (zs68 ?_) | apply (zs69 ?_) | apply (zs70 ?_) | apply (zs73 ?_))
  refine VC_loop1 (fun (k : Nat) => [(3, .int .i64 k), (0, .slice A l.length cap)]) (fun _ => H) (fun k => k ≤ l.length ∧ (l.take k).all id = true) (fun k => l.length - k) 0 ⟨Nat.zero_le _, by simp⟩ ?_ (fun w hw => hw) ?_
  · (repeat (first | exact sub_nil _ | (apply sub_cons; first | exact rfl | exact congrArg (fun z : Int => some (Value.int .i64 z)) (by omega))))
  rintro k ⟨hk, hi⟩ K hK
  by_cases hlt : k < l.length
  · obtain ⟨x, hx⟩ : ∃ x, l[k]? = some x := ⟨_, List.getElem?_eq_getElem hlt⟩
    cases x
    · repeat' (first | apply (zs1 ?_) | apply (zs2 ?_) | (apply zg3; refine zs60 ?_) | (apply zg4; refine zs9 ?_) | (apply zg5; refine zs57 ?_) | (apply (zs17 ?_ ?_) <;> intro _ <;> try (exfalso; omega)) | (apply zg20; refine zs48 ?_) | apply (zs65 ?_) | apply (zs68 ?_) | apply (zs69 ?_) | apply (zs70 ?_) | (apply zg27; refine zs71 ?_) | apply (zs73 ?_) | apply (zs74 ?_) | apply (zs76 ?_) | apply (zs77 ?_) | apply (zs78 ?_))
      apply VQ_ret1; exact rfl; exact rfl
      have hf : l.all id = false := Bool.eq_false_iff.2 fun h => by have := List.all_eq_true.1 h false (List.mem_of_getElem? hx); cases this
      exact ⟨by rw [hf], rfl⟩
    · repeat' (first | apply (zs1 ?_) | apply (zs2 ?_) | (apply zg3; refine zs60 ?_) | (apply zg4; refine zs9 ?_) | (apply zg5; refine zs57 ?_) | (apply (zs17 ?_ ?_) <;> intro _ <;> try (exfalso; omega)) | (apply zg13; refine zs30 ?_) | (apply zg20; refine zs47 ?_) | apply (zs65 ?_) | apply (zs68 ?_) | apply (zs69 ?_) | apply (zs70 ?_) | (apply zg27; first | refine zs71 ?_ | refine zs72 ?_) | apply (zs73 ?_) | apply (zs76 ?_) | apply (zs79 ?_))
      apply hK (k + 1)
      · exact ⟨by omega, by rw [List.take_add_one, hx, List.all_append, hi]; rfl⟩
      · omega
      · (repeat (first | exact sub_nil _ | (apply sub_cons; first | exact rfl | exact congrArg (fun z : Int => some (Value.int .i64 z)) (by omega))))
      · exact fun w hw => hw
  · repeat' (first | apply (zs1 ?_) | apply (zs2 ?_) | (apply zg4; refine zs9 ?_) | (apply (zs17 ?_ ?_) <;> intro _ <;> try (exfalso; omega)) | apply (zs65 ?_) | apply (zs68 ?_) | apply (zs69 ?_) | apply (zs70 ?_) | (apply zg27; refine zs72 ?_) | apply (zs74 ?_) | apply (zs75 ?_) | apply (zs80 ?_) | apply (zs81 ?_))
    apply VQ_ret1; exact rfl; exact rfl
    rw [List.take_of_length_le (by omega)] at hi
    exact ⟨by rw [hi], rfl⟩

theorem xnew_spec (hold : Int) {B : Nat} {w0 : World} {H : List HP} {w : World} (hw : St B w0 H w) (h0 : 0 ≤ hold ∧ hold ≤ 4096) :
    Calls Try.prog 29 [.int .i64 hold].toArray w (Post B w0 fun v K => ∃ rx, v = .tuple #[.pointer (some ⟨rx, 0, none⟩), .int .i64 0] ∧ K = xpcs rx hold 0 none 0 [] H) := by
  have hw2 : St B w0 (sl 105 7 none 0 0 [] :: many [] :: H) w := (hw.perm (.noMany H)).nilSlice _ _
  refine Calls_of_VC Try.func29 Try.ntmps29 rfl rfl hw2 ?_
  repeat' (first | apply (zs1 ?_) | apply (zs2 ?_) | (apply zg1; refine zs4 ?_) | (apply zg6; refine zs12 ?_) | (apply (zs17 ?_ ?_) <;> intro _ <;> try (exfalso; omega)) | (apply (zs19 ?_ ?_) <;> intro _ <;> try (exfalso; omega)) | (apply zg23; (refine zs52 ?_; intro _)) | (apply zg25; refine zs55 ?_) | apply (zs65 ?_) | apply (zs68 ?_) | apply (zs69 ?_) | apply (zs70 ?_) | (apply zg27; refine zs72 ?_) | apply (zs74 ?_) | apply (zs76 ?_))
  apply VQ_ret2; exact rfl; exact rfl; exact rfl
  exact ⟨_, rfl, rfl⟩
theorem xnew_err (hold : Int) {B : Nat} {w0 : World} {H : List HP} {w : World} (hw : St B w0 H w) (h0 : hold < 0 ∨ 4096 < hold) :
    Calls Try.prog 29 [.int .i64 hold].toArray w (Post B w0 fun v K => v = .tuple #[.pointer none, .int .i64 2] ∧ K = H) := by
  refine Calls_of_VC Try.func29 Try.ntmps29 rfl rfl hw ?_
  repeat' (first | apply (zs1 ?_) | apply (zs2 ?_) | (apply zg1; first | refine zs3 ?_ | refine zs4 ?_) | (apply zg6; first | refine zs11 ?_ | refine zs12 ?_) | (apply (zs17 ?_ ?_) <;> intro _ <;> try (exfalso; omega)) | (apply (zs19 ?_ ?_) <;> intro _ <;> try (exfalso; omega)) | apply (zs65 ?_) | apply (zs68 ?_) | apply (zs69 ?_) | apply (zs70 ?_) | (apply zg27; refine zs71 ?_) | apply (zs74 ?_) | apply (zs77 ?_))
  all_goals (apply VQ_ret2; exact rfl; exact rfl; exact rfl; exact ⟨rfl, rfl⟩)
end Go.Proofs.Ytfobgjhjigkigaa
