/- Walks: looking for a number in a list of numbers. -/
import Derived.Test.YtfobgjhjigkigaaSt
import Derived.Test.YtfobgjhjigkigaaE16
import Derived.Test.YtfobgjhjigkigaaNm
namespace Go.Proofs.Ytfobgjhjigkigaa
open Go.RowKit Go.Eng Go.Nw

def numF (z : Int) : List Value := [.int .i64 z]
theorem flat_num (l : List Int) : l.flatMap numF = l.map (Value.int .i64) := by induction l with | nil => rfl | cons a l ih => simp [numF, List.flatMap_cons, ih]

theorem index_ints (l : List Int) (v : Int) (hlen : l.length ≤ 9223372036854775807) {A : Option Addr} {cap B : Nat} {w0 : World} {H : List HP} {w : World} (hr : Rd B w0 H A (l.flatMap numF)) (hw : St B w0 H w) :
    Calls Try.prog 63 [.slice A l.length cap, .int .i64 v].toArray w (Post B w0 fun u K => u = .int .i64 (idxFrom (fun x => decide (v = x)) l 0) ∧ K = H) := by
  refine Calls_of_VC Try.func63 Try.ntmps63 rfl rfl hw ?_
  repeat' (first | apply (zs1 ?_) | apply (zs2 ?_) | (apply zg4; refine zs9 ?_) | apply (zs65 ?_) | apply (zs68 ?_) | apply (zs69 ?_) | apply (zs70 ?_) | apply (zs73 ?_))
  refine VC_loop1 (fun (k : Nat) => [(8, .int .i64 k), (7, .int .i64 l.length), (0, .slice A l.length cap), (1, .int .i64 v)]) (fun _ => H) (fun k => k ≤ l.length ∧ idxFrom (fun x => decide (v = x)) l 0 = idxFrom (fun x => decide (v = x)) (l.drop k) k) (fun k => l.length - k) 0 ⟨Nat.zero_le _, by simp⟩ ?_ (fun w hw => hw) ?_
  · (repeat (first | exact sub_nil _ | (apply sub_cons; first | exact rfl | exact congrArg (fun z : Int => some (Value.int .i64 z)) (by omega))))
  rintro k ⟨hk, hi⟩ K hK
  by_cases hlt : k < l.length
  · obtain ⟨a, ha⟩ : ∃ a, l[k]? = some a := ⟨_, List.getElem?_eq_getElem hlt⟩
    rw [idx_drop _ l ha] at hi
    repeat' (first | apply (zs1 ?_) | apply (zs2 ?_) | (apply zg3; refine zs60 ?_) | (apply zg5; refine zs57 ?_) | (apply zg7; (refine zs15 ?_ ?_ <;> intro _ <;> try (exfalso; omega))) | (apply (zs17 ?_ ?_) <;> intro _ <;> try (exfalso; omega)) | (apply zg13; refine zs30 ?_) | apply (zs65 ?_) | apply (zs68 ?_) | apply (zs69 ?_) | apply (zs70 ?_) | (apply zg27; first | refine zs71 ?_ | refine zs72 ?_) | apply (zs73 ?_) | apply (zs74 ?_) | apply (zs76 ?_) | apply (zs77 ?_) | apply (zs78 ?_) | apply (zs79 ?_))
    · rename_i h
      rw [if_pos (decide_eq_true h)] at hi
      ((repeat apply VQ_tail); apply VQ_ret1; exact rfl; exact rfl; refine ⟨congrArg _ ?_, rfl⟩)
      rw [hi]
    · rename_i h
      rw [if_neg (by simp [h])] at hi
      repeat' (first | fail)
      apply hK (k + 1)
      · exact ⟨by omega, hi⟩
      · omega
      · (repeat (first | exact sub_nil _ | (apply sub_cons; first | exact rfl | exact congrArg (fun z : Int => some (Value.int .i64 z)) (by omega))))
      · exact fun w hw => hw
  · repeat' (first | apply (zs2 ?_) | (apply (zs17 ?_ ?_) <;> intro _ <;> try (exfalso; omega)) | apply (zs65 ?_) | apply (zs68 ?_) | apply (zs69 ?_) | apply (zs70 ?_) | (apply zg27; refine zs72 ?_) | apply (zs74 ?_) | apply (zs75 ?_) | apply (zs80 ?_) | apply (zs81 ?_))
    ((repeat apply VQ_tail); apply VQ_ret1; exact rfl; exact rfl; refine ⟨congrArg _ ?_, rfl⟩)
    rw [hi, List.drop_eq_nil_of_le (by omega)]; rfl

theorem contains_ints (l : List Int) (v : Int) (hlen : l.length ≤ 9223372036854775807) {A : Option Addr} {cap B : Nat} {w0 : World} {H : List HP} {w : World} (hr : Rd B w0 H A (l.flatMap numF)) (hw : St B w0 H w) :
    Calls Try.prog 34 [.slice A l.length cap, .int .i64 v].toArray w (Post B w0 fun u K => u = .bool (decide (v ∈ l)) ∧ K = H) := by
  refine Calls_of_VC Try.func34 Try.ntmps34 rfl rfl hw ?_
  have hia := idx_any (fun x => decide (v = x)) l 0 (by omega)
  have hmm : l.any (fun x => decide (v = x)) = true ↔ v ∈ l := by simp [List.any_eq_true]
  repeat' (first | ((first | apply VL_callt en63 | apply VL_callq en63); (repeat (first | exact args_nil | (apply args_cons; exact rfl))); exact rfl; exact fun _ hw => (index_ints l v hlen hr hw)) | apply (zs1 ?_) | apply (zs2 ?_) | (apply (zs20 ?_ ?_) <;> intro _ <;> try (exfalso; omega)) | apply (zs65 ?_) | apply (zs68 ?_) | apply (zs69 ?_) | apply (zs70 ?_) | apply (zs74 ?_))
  all_goals (apply VQ_ret1; exact rfl; exact rfl)
  · rename_i h; exact ⟨by rw [decide_eq_true (hmm.1 (hia.1 h))], rfl⟩
  · rename_i h
    exact ⟨by rw [decide_eq_false fun e => by have := hia.2 (hmm.2 e); omega], rfl⟩

end Go.Proofs.Ytfobgjhjigkigaa
