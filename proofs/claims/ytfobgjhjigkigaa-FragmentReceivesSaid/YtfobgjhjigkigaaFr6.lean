/- Walks: arrivals; few of them. -/
import Derived.Test.YtfobgjhjigkigaaFr5
namespace Go.Proofs.Ytfobgjhjigkigaa
open Go.RowKit Go.Eng Go.Nw

/-- A fragment that arrives, some slots later than the one before. -/
structure Arr where
  later : Int
  tag : Int
  idx : Int
  cnt : Int
  size : Int
  data : ByteArray
def arF (a : Arr) : List Value := [.int .i64 a.later, .int .i64 a.tag, .int .i64 a.idx, .int .i64 a.cnt, .int .i64 a.size, .string a.data]
def longA (a : Arr) : Bool := decide (200 < a.data.size)

theorem few1_spec (a : Arr) (hs : a.data.size ≤ 9223372036854775807) {B : Nat} {w0 : World} {H : List HP} {w : World} (hw : St B w0 H w) :
    Calls Try.prog 57 [.agg (arF a).toArray].toArray w (Post B w0 fun v K => v = .bool (longA a) ∧ K = H) := by
  refine Calls_of_VC Try.func57 Try.ntmps57 rfl rfl hw ?_
  unfold arF
  (apply VC_seq; apply VC_region; apply VL_box_agg; exact rfl; exact rfl; intro g)
  repeat' (first | apply (zs2 ?_) | (apply zg2; refine zs6 ?_) | (apply zg3; refine zs7 ?_) | (apply zg4; refine zs14 ?_) | (apply (zs19 ?_ ?_) <;> intro _ <;> try (exfalso; omega)) | apply (zs65 ?_) | apply (zs68 ?_) | apply (zs69 ?_) | apply (zs70 ?_) | apply (zs74 ?_))
  · apply VQ_tail; apply VQ_ret1; exact rfl; exact rfl
    exact ⟨by unfold longA; rw [decide_eq_true (by omega)], rfl⟩
  · apply VQ_tail; apply VQ_ret1; exact rfl; exact rfl
    exact ⟨by unfold longA; rw [decide_eq_false (by omega)], rfl⟩

theorem indexFew (l : List Arr) (hlen : l.length ≤ 9223372036854775807) (hs : ∀ a ∈ l, a.data.size ≤ 9223372036854775807) {A : Option Addr} {cap B : Nat} {w0 : World} {H : List HP} {w : World} (hr : Rd B w0 H A (l.flatMap arF)) (hw : St B w0 H w) :
    Calls Try.prog 79 [.slice A l.length cap, .func (.func 57) #[] #[]].toArray w (Post B w0 fun v K => v = .int .i64 (idxFrom longA l 0) ∧ K = H) := by
  refine Calls_of_VC Try.func79 Try.ntmps79 rfl rfl hw ?_
  repeat' (first | apply (zs1 ?_) | apply (zs2 ?_) | (apply zg4; refine zs9 ?_) | apply (zs65 ?_) | apply (zs68 ?_) | apply (zs69 ?_) | apply (zs70 ?_) | apply (zs73 ?_))
  refine VC_loop1 (fun (k : Nat) => [(8, .int .i64 k), (7, .int .i64 l.length), (0, .slice A l.length cap), (1, .func (.func 57) #[] #[])]) (fun _ => H) (fun k => k ≤ l.length ∧ idxFrom longA l 0 = idxFrom longA (l.drop k) k) (fun k => l.length - k) 0 ⟨Nat.zero_le _, by simp⟩ ?_ (fun w hw => hw) ?_
  · (repeat (first | exact sub_nil _ | (apply sub_cons; first | exact rfl | exact congrArg (fun z : Int => some (Value.int .i64 z)) (by omega))))
  rintro k ⟨hk, hi⟩ K hK
  by_cases hlt : k < l.length
  · obtain ⟨a, ha⟩ : ∃ a, l[k]? = some a := ⟨_, List.getElem?_eq_getElem hlt⟩
    have hpa := hs a (List.mem_of_getElem? ha)
    rw [idx_drop longA l ha] at hi
    repeat' (first | ((first | apply VL_callvt (cs := []) | apply VL_callvq (cs := [])); exact rfl; exact en57; (repeat (first | exact args_nil | (apply args_cons; exact rfl))); exact rfl; exact fun _ hw => (few1_spec a hpa hw)) | apply (zs1 ?_) | apply (zs2 ?_) | (apply zg3; refine zs61 ?_) | (apply zg5; refine zs57 ?_) | (apply (zs17 ?_ ?_) <;> intro _ <;> try (exfalso; omega)) | apply (zs65 ?_) | apply (zs68 ?_) | apply (zs69 ?_) | apply (zs70 ?_) | (apply zg27; refine zs71 ?_) | apply (zs73 ?_) | apply (zs76 ?_))
    cases hpv : longA a
    · rw [hpv] at hi
      repeat' (first | apply (zs1 ?_) | (apply zg13; refine zs30 ?_) | apply (zs65 ?_) | apply (zs68 ?_) | apply (zs70 ?_) | (apply zg27; refine zs72 ?_) | apply (zs76 ?_) | apply (zs79 ?_))
      apply hK (k + 1)
      · exact ⟨by omega, hi⟩
      · omega
      · (repeat (first | exact sub_nil _ | (apply sub_cons; first | exact rfl | exact congrArg (fun z : Int => some (Value.int .i64 z)) (by omega))))
      · exact fun w hw => hw
    · rw [hpv] at hi
      repeat' (first | apply (zs1 ?_) | apply (zs2 ?_) | apply (zs65 ?_) | apply (zs68 ?_) | apply (zs69 ?_) | apply (zs70 ?_) | (apply zg27; refine zs71 ?_) | apply (zs74 ?_) | apply (zs77 ?_) | apply (zs78 ?_))
      apply VQ_ret1; exact rfl; exact rfl
      exact ⟨by rw [hi]; rfl, rfl⟩
  · repeat' (first | apply (zs2 ?_) | (apply (zs17 ?_ ?_) <;> intro _ <;> try (exfalso; omega)) | apply (zs65 ?_) | apply (zs68 ?_) | apply (zs69 ?_) | apply (zs70 ?_) | (apply zg27; refine zs72 ?_) | apply (zs74 ?_) | apply (zs75 ?_) | apply (zs80 ?_) | apply (zs81 ?_))
    apply VQ_ret1; exact rfl; exact rfl
    rw [hi, List.drop_eq_nil_of_le (by omega)]
    exact ⟨rfl, rfl⟩

theorem few_spec (l : List Arr) (hlen : l.length ≤ 9223372036854775807) (hs : ∀ a ∈ l, a.data.size ≤ 9223372036854775807) {A : Option Addr} {cap B : Nat} {w0 : World} {H : List HP} {w : World} (hr : Rd B w0 H A (l.flatMap arF)) (hw : St B w0 H w) :
    Calls Try.prog 28 [.slice A l.length cap].toArray w (Post B w0 fun v K => v = .bool (decide (l.length ≤ 60 ∧ ¬ l.any longA = true)) ∧ K = H) := by
  refine Calls_of_VC Try.func28 Try.ntmps28 rfl rfl hw ?_
  by_cases h60 : l.length ≤ 60
  rotate_left
  · repeat' (first | apply (zs1 ?_) | apply (zs2 ?_) | (apply zg1; refine zs3 ?_) | (apply zg4; refine zs9 ?_) | (apply zg6; refine zs12 ?_) | (apply (zs18 ?_ ?_) <;> intro _ <;> try (exfalso; omega)) | apply (zs65 ?_) | apply (zs68 ?_) | apply (zs69 ?_) | apply (zs70 ?_) | apply (zs74 ?_))
    apply VQ_ret1; exact rfl; exact rfl
    exact ⟨by rw [decide_eq_false (fun h => h60 h.1)], rfl⟩
  have hcont : ∀ w, St B w0 H w → Calls Try.prog 56 [.slice A l.length cap, .func (.func 57) #[] #[]].toArray w (Post B w0 fun v K => v = .bool (l.any longA) ∧ K = H) := fun w hw => by
    refine Calls_of_VC Try.func56 Try.ntmps56 rfl rfl hw ?_
    have hia := idx_any longA l 0 (by omega)
    repeat' (first | ((first | apply VL_callt en79 | apply VL_callq en79); (repeat (first | exact args_nil | (apply args_cons; exact rfl))); exact rfl; exact fun _ hw => (indexFew l hlen hs hr hw)) | apply (zs1 ?_) | apply (zs2 ?_) | (apply (zs20 ?_ ?_) <;> intro _ <;> try (exfalso; omega)) | apply (zs65 ?_) | apply (zs68 ?_) | apply (zs69 ?_) | apply (zs70 ?_) | apply (zs74 ?_))
    all_goals (apply VQ_ret1; exact rfl; exact rfl)
    · rename_i h; exact ⟨by rw [hia.1 h], rfl⟩
    · rename_i h
      have : ¬ l.any longA = true := fun e => by have := hia.2 e; omega
      exact ⟨by rw [Bool.eq_false_iff.2 this], rfl⟩
  cases hany : l.any longA
  · rw [hany] at hcont
    repeat' (first | ((first | apply VL_callt en56 | apply VL_callq en56); (repeat (first | exact args_nil | (apply args_cons; exact rfl))); exact rfl; exact fun _ hw => (hcont _ hw)) | apply (zs1 ?_) | apply (zs2 ?_) | (apply zg1; refine zs4 ?_) | (apply zg4; refine zs9 ?_) | (apply zg6; refine zs11 ?_) | (apply (zs18 ?_ ?_) <;> intro _ <;> try (exfalso; omega)) | (apply zg20; refine zs48 ?_) | apply (zs65 ?_) | apply (zs68 ?_) | apply (zs69 ?_) | apply (zs70 ?_) | apply (zs74 ?_))
    apply VQ_ret1; exact rfl; exact rfl
    exact ⟨by rw [decide_eq_true ⟨h60, by simp⟩], rfl⟩
  · rw [hany] at hcont
    repeat' (first | ((first | apply VL_callt en56 | apply VL_callq en56); (repeat (first | exact args_nil | (apply args_cons; exact rfl))); exact rfl; exact fun _ hw => (hcont _ hw)) | apply (zs1 ?_) | apply (zs2 ?_) | (apply zg1; refine zs4 ?_) | (apply zg4; refine zs9 ?_) | (apply zg6; refine zs11 ?_) | (apply (zs18 ?_ ?_) <;> intro _ <;> try (exfalso; omega)) | (apply zg20; refine zs47 ?_) | apply (zs65 ?_) | apply (zs68 ?_) | apply (zs69 ?_) | apply (zs70 ?_) | apply (zs74 ?_))
    apply VQ_ret1; exact rfl; exact rfl
    exact ⟨by rw [decide_eq_false (fun h => h.2 rfl)], rfl⟩
end Go.Proofs.Ytfobgjhjigkigaa
