/- The law RouteBelow returns true at every input, and its arguments read behind the call as they read before: the statement Rows.RouteBelowSaid. No condition. -/
import Derived.Deep.Slices
import Derived.Lib.SmallJoins
import Derived.OpenShut
import Derived.ProofKit
import Derived.Below
import Derived.ChangeSame
import Derived.Carry
import Derived.Test.YtleldppdflgmgaaRows
import Derived.Test.YtleldppdflgmgaaQ6

/- Walks: Compare, IsSortedFunc; the law RouteProves. -/
namespace Go.Proofs.Ytleldppdflgmgaa
open Go.RowKit Go.Eng Go.Nw Go.Rt

theorem isNaN_spec (x : Int) {B : Nat} {w0 : World} {H : List HP} {w : World} (hw : St B w0 H w) :
    Calls Try.prog 82 [.int .i64 x].toArray w (Post B w0 fun v K => v = .bool false ∧ K = H) := by
  refine Calls_of_VC Try.func82 Try.ntmps82 rfl rfl hw ?_
  repeat' (first | apply (zs1 ?_) | apply (zs2 ?_) | (apply zg8; (refine zs16 ?_ ?_ <;> intro _ <;> try (exfalso; omega))) | apply (zs65 ?_) | apply (zs68 ?_) | apply (zs69 ?_) | apply (zs70 ?_) | apply (zs74 ?_) | fail)
  apply VQ_ret1; exact rfl; exact rfl; exact ⟨rfl, rfl⟩
def cmpI (x y : Int) : Int := if x < y then -1 else if y < x then 1 else 0
theorem cmpI_spec (x y : Int) {B : Nat} {w0 : World} {H : List HP} {w : World} (hw : St B w0 H w) :
    Calls Try.prog 54 [.int .i64 x, .int .i64 y].toArray w (Post B w0 fun v K => v = .int .i64 (cmpI x y) ∧ K = H) := by
  refine Calls_of_VC Try.func54 Try.ntmps54 rfl rfl hw ?_
  unfold cmpI
  repeat' (first | apply (zs1 ?_) | apply (zs2 ?_) | apply (zs65 ?_) | apply (zs68 ?_) | apply (zs69 ?_) | apply (zs70 ?_) | fail)
  first | apply VL_callt en82 | apply VL_callq en82
  (repeat (first | exact args_nil | (apply args_cons; exact rfl)))
  exact rfl
  exact fun _ hw => (isNaN_spec x hw)
  repeat' (first | apply (zs1 ?_) | apply (zs2 ?_) | apply (zs65 ?_) | apply (zs68 ?_) | apply (zs69 ?_) | apply (zs70 ?_) | fail)
  first | apply VL_callt en82 | apply VL_callq en82
  (repeat (first | exact args_nil | (apply args_cons; exact rfl)))
  exact rfl
  exact fun _ hw => (isNaN_spec y hw)
  by_cases h1 : x < y
  · rw [if_pos h1]
    repeat' (first | apply (zs1 ?_) | apply (zs2 ?_) | (apply (zs17 ?_ ?_) <;> intro _ <;> try (exfalso; omega)) | apply (zs65 ?_) | apply (zs68 ?_) | apply (zs69 ?_) | apply (zs70 ?_) | (apply zg27; first | refine zs71 ?_ | refine zs72 ?_) | apply (zs74 ?_) | apply (zs76 ?_) | apply (zs77 ?_) | fail)
    apply VQ_ret1; exact rfl; exact rfl; exact ⟨rfl, rfl⟩
  · rw [if_neg h1]
    by_cases h2 : y < x
    · rw [if_pos h2]
      repeat' (first | apply (zs1 ?_) | apply (zs2 ?_) | (apply (zs17 ?_ ?_) <;> intro _ <;> try (exfalso; omega)) | (apply (zs19 ?_ ?_) <;> intro _ <;> try (exfalso; omega)) | apply (zs65 ?_) | apply (zs68 ?_) | apply (zs69 ?_) | apply (zs70 ?_) | (apply zg27; first | refine zs71 ?_ | refine zs72 ?_) | apply (zs74 ?_) | apply (zs76 ?_) | apply (zs77 ?_) | fail)
      apply VQ_ret1; exact rfl; exact rfl; exact ⟨rfl, rfl⟩
    · rw [if_neg h2]
      repeat' (first | apply (zs1 ?_) | apply (zs2 ?_) | (apply (zs17 ?_ ?_) <;> intro _ <;> try (exfalso; omega)) | (apply (zs19 ?_ ?_) <;> intro _ <;> try (exfalso; omega)) | apply (zs65 ?_) | apply (zs68 ?_) | apply (zs69 ?_) | apply (zs70 ?_) | (apply zg27; refine zs72 ?_) | apply (zs74 ?_) | apply (zs76 ?_) | fail)
      apply VQ_ret1; exact rfl; exact rfl; exact ⟨rfl, rfl⟩
def cmpV (a b : List Int) : Int := if lexLt a b = true then -1 else if lexLt b a = true then 1 else 0
theorem compareL_spec (a b : List Int) (hla : a.length ≤ 1000000000000) (hlb : b.length ≤ 1000000000000) {A1 A2 : Option Addr} {c1 c2 B : Nat} {w0 : World} {H : List HP} {w : World} (hr1 : Rd B w0 H A1 (a.flatMap numF)) (hr2 : Rd B w0 H A2 (b.flatMap numF)) (hw : St B w0 H w) :
    Calls Try.prog 29 [.slice A1 a.length c1, .slice A2 b.length c2].toArray w (Post B w0 fun v K => v = .int .i64 (cmpV a b) ∧ K = H) := by
  refine Calls_of_VC Try.func29 Try.ntmps29 rfl rfl hw ?_
  repeat' (first | apply (zs1 ?_) | apply (zs2 ?_) | (apply zg4; refine zs9 ?_) | apply (zs65 ?_) | apply (zs68 ?_) | apply (zs69 ?_) | apply (zs70 ?_) | apply (zs73 ?_) | fail)
  refine VC_loop1 (fun (i : Nat) => [(11, .int .i64 i), (10, .int .i64 a.length), (9, .slice A1 a.length c1), (0, .slice A1 a.length c1), (1, .slice A2 b.length c2)]) (fun _ => H) (fun i => i ≤ a.length ∧ i ≤ b.length ∧ lexLt a b = lexLt (a.drop i) (b.drop i) ∧ lexLt b a = lexLt (b.drop i) (a.drop i)) (fun i => a.length - i) 0 ⟨Nat.zero_le _, Nat.zero_le _, rfl, rfl⟩ ?_ (fun w hw => hw) ?_
  · (repeat (first | exact sub_nil _ | (apply sub_cons; first | exact rfl | exact congrArg (fun z : Int => some (Value.int .i64 z)) (by omega))))
  rintro i ⟨hi, hib, e1, e2⟩ K hK
  by_cases hlt : i < a.length
  · obtain ⟨x, hx⟩ : ∃ x, a[i]? = some x := ⟨_, List.getElem?_eq_getElem hlt⟩
    by_cases hltb : i < b.length
    · obtain ⟨y, hy⟩ : ∃ y, b[i]? = some y := ⟨_, List.getElem?_eq_getElem hltb⟩
      have d1 := lex_drop hx hy
      have d2 := lex_drop hy hx
      have hcm := fun {w : World} (hw : St B w0 H w) => cmpI_spec x y hw
      by_cases hxy : x = y
      · rw [if_neg (fun h => h hxy)] at d1
        rw [if_neg (fun h => h hxy.symm)] at d2
        rw [show cmpI x y = 0 by unfold cmpI; rw [if_neg (by omega), if_neg (by omega)]] at hcm
        repeat' (first | ((first | apply VL_callt en54 | apply VL_callq en54); (repeat (first | exact args_nil | (apply args_cons; exact rfl))); exact rfl; exact fun _ hw => (hcm hw)) | apply (zs1 ?_) | apply (zs2 ?_) | (apply zg3; refine zs60 ?_) | (apply zg4; refine zs9 ?_) | (apply zg5; refine zs57 ?_) | (apply zg8; (refine zs16 ?_ ?_ <;> intro _ <;> try (exfalso; omega))) | (apply (zs17 ?_ ?_) <;> intro _ <;> try (exfalso; omega)) | (apply (zs20 ?_ ?_) <;> intro _ <;> try (exfalso; omega)) | (apply zg13; refine zs30 ?_) | apply (zs65 ?_) | apply (zs68 ?_) | apply (zs69 ?_) | apply (zs70 ?_) | (apply zg27; first | refine zs71 ?_ | refine zs72 ?_) | apply (zs73 ?_) | apply (zs76 ?_) | apply (zs79 ?_) | fail)
        apply hK (i + 1)
        · exact ⟨by omega, by omega, e1.trans d1, e2.trans d2⟩
        · omega
        · (repeat (first | exact sub_nil _ | (apply sub_cons; first | exact rfl | exact congrArg (fun z : Int => some (Value.int .i64 z)) (by omega))))
        · exact fun w hw => hw
      · rw [if_pos hxy] at d1
        rw [if_pos (Ne.symm hxy)] at d2
        clear hK
        rcases Int.lt_or_gt_of_ne hxy with h | h
        · rw [show cmpI x y = -1 by unfold cmpI; rw [if_pos h]] at hcm
          have hv : cmpV a b = -1 := by unfold cmpV; rw [e1, d1, if_pos (decide_eq_true h)]
          rw [hv]
          repeat' (first | ((first | apply VL_callt en54 | apply VL_callq en54); (repeat (first | exact args_nil | (apply args_cons; exact rfl))); exact rfl; exact fun _ hw => (hcm hw)) | apply (zs1 ?_) | apply (zs2 ?_) | (apply zg3; refine zs60 ?_) | (apply zg4; refine zs9 ?_) | (apply zg5; refine zs57 ?_) | (apply zg8; (refine zs16 ?_ ?_ <;> intro _ <;> try (exfalso; omega))) | (apply (zs17 ?_ ?_) <;> intro _ <;> try (exfalso; omega)) | (apply (zs20 ?_ ?_) <;> intro _ <;> try (exfalso; omega)) | apply (zs65 ?_) | apply (zs68 ?_) | apply (zs69 ?_) | apply (zs70 ?_) | (apply zg27; first | refine zs71 ?_ | refine zs72 ?_) | apply (zs73 ?_) | apply (zs74 ?_) | apply (zs76 ?_) | apply (zs77 ?_) | apply (zs78 ?_) | fail)
          apply VQ_ret1; exact rfl; exact rfl; exact ⟨rfl, rfl⟩
        · rw [show cmpI x y = 1 by unfold cmpI; rw [if_neg (by omega), if_pos h]] at hcm
          have hv : cmpV a b = 1 := by unfold cmpV; rw [e1, d1, decide_eq_false (by omega), if_neg (by decide), e2, d2, if_pos (decide_eq_true h)]
          rw [hv]
          repeat' (first | ((first | apply VL_callt en54 | apply VL_callq en54); (repeat (first | exact args_nil | (apply args_cons; exact rfl))); exact rfl; exact fun _ hw => (hcm hw)) | apply (zs1 ?_) | apply (zs2 ?_) | (apply zg3; refine zs60 ?_) | (apply zg4; refine zs9 ?_) | (apply zg5; refine zs57 ?_) | (apply zg8; (refine zs16 ?_ ?_ <;> intro _ <;> try (exfalso; omega))) | (apply (zs17 ?_ ?_) <;> intro _ <;> try (exfalso; omega)) | (apply (zs20 ?_ ?_) <;> intro _ <;> try (exfalso; omega)) | apply (zs65 ?_) | apply (zs68 ?_) | apply (zs69 ?_) | apply (zs70 ?_) | (apply zg27; first | refine zs71 ?_ | refine zs72 ?_) | apply (zs73 ?_) | apply (zs74 ?_) | apply (zs76 ?_) | apply (zs77 ?_) | apply (zs78 ?_) | fail)
          apply VQ_ret1; exact rfl; exact rfl; exact ⟨rfl, rfl⟩
    · obtain rfl : i = b.length := by omega
      clear hK
      have hv : cmpV a b = 1 := by
        unfold cmpV
        rw [e1, e2, List.drop_length, List.drop_eq_getElem_cons hlt]
        rfl
      rw [hv]
      repeat' (first | apply (zs1 ?_) | apply (zs2 ?_) | (apply zg3; refine zs60 ?_) | (apply zg4; refine zs9 ?_) | (apply zg5; refine zs57 ?_) | (apply (zs17 ?_ ?_) <;> intro _ <;> try (exfalso; omega)) | (apply (zs20 ?_ ?_) <;> intro _ <;> try (exfalso; omega)) | apply (zs65 ?_) | apply (zs68 ?_) | apply (zs69 ?_) | apply (zs70 ?_) | (apply zg27; refine zs71 ?_) | apply (zs73 ?_) | apply (zs74 ?_) | apply (zs76 ?_) | apply (zs77 ?_) | apply (zs78 ?_) | fail)
      apply VQ_ret1; exact rfl; exact rfl; exact ⟨rfl, rfl⟩
  · obtain rfl : i = a.length := by omega
    clear hK
    rw [List.drop_length] at e1 e2
    by_cases hl : a.length < b.length
    · have hv : cmpV a b = -1 := by
        unfold cmpV
        rw [e1, List.drop_eq_getElem_cons hl]
        rfl
      rw [hv]
      repeat' (first | apply (zs1 ?_) | apply (zs2 ?_) | (apply zg4; refine zs9 ?_) | (apply (zs17 ?_ ?_) <;> intro _ <;> try (exfalso; omega)) | apply (zs65 ?_) | apply (zs68 ?_) | apply (zs69 ?_) | apply (zs70 ?_) | (apply zg27; first | refine zs71 ?_ | refine zs72 ?_) | apply (zs74 ?_) | apply (zs75 ?_) | apply (zs77 ?_) | apply (zs80 ?_) | apply (zs81 ?_) | fail)
      apply VQ_ret1; exact rfl; exact rfl; exact ⟨rfl, rfl⟩
    · have hv : cmpV a b = 0 := by
        unfold cmpV
        rw [e1, e2, List.drop_eq_nil_of_le (by omega)]
        rfl
      rw [hv]
      repeat' (first | apply (zs1 ?_) | apply (zs2 ?_) | (apply zg4; refine zs9 ?_) | (apply (zs17 ?_ ?_) <;> intro _ <;> try (exfalso; omega)) | apply (zs65 ?_) | apply (zs68 ?_) | apply (zs69 ?_) | apply (zs70 ?_) | (apply zg27; refine zs72 ?_) | apply (zs74 ?_) | apply (zs75 ?_) | apply (zs76 ?_) | apply (zs80 ?_) | apply (zs81 ?_) | fail)
      apply VQ_ret1; exact rfl; exact rfl; exact ⟨rfl, rfl⟩
theorem proves1_spec (a b : List Int) (hla : a.length ≤ 1000000000000) (hlb : b.length ≤ 1000000000000) {A1 A2 : Option Addr} {c1 c2 B : Nat} {w0 : World} {H : List HP} {w : World} (hr1 : Rd B w0 H A1 (a.flatMap numF)) (hr2 : Rd B w0 H A2 (b.flatMap numF)) (hw : St B w0 H w) :
    Calls Try.prog 28 ([Value.slice A1 a.length c1, .slice A2 b.length c2] ++ []).toArray w (Post B w0 fun v K => v = .int .i64 (cmpV a b) ∧ K = H) := by
  refine Calls_of_VC Try.func28 Try.ntmps28 rfl rfl hw ?_
  repeat' (first | ((first | apply VL_callt en29 | apply VL_callq en29); (repeat (first | exact args_nil | (apply args_cons; exact rfl))); exact rfl; exact fun _ hw => (compareL_spec a b hla hlb hr1 hr2 hw)) | apply (zs1 ?_) | apply (zs2 ?_) | apply (zs65 ?_) | apply (zs68 ?_) | apply (zs69 ?_) | apply (zs70 ?_) | apply (zs74 ?_) | fail)
  apply VQ_ret1; exact rfl; exact rfl; exact ⟨rfl, rfl⟩
/-- Two routes, the second one not less. -/
theorem sorted2_spec (p q : RowM) (hlp : p.xs.length ≤ 1000000000000) (hlq : q.xs.length ≤ 1000000000000) (hlx : lexLt q.xs p.xs = false) {A : Option Addr} {cap B : Nat} {w0 : World} {H : List HP} {w : World} (hr : Rd B w0 H A ([p, q].flatMap rowF)) (hp : Rd B w0 H p.A (p.xs.flatMap numF)) (hq : Rd B w0 H q.A (q.xs.flatMap numF)) (hw : St B w0 H w) :
    Calls Try.prog 27 [.slice A 2 cap, .func (.func 28) #[] #[]].toArray w (Post B w0 fun v K => v = .bool true ∧ K = H) := by
  refine Calls_of_VC Try.func27 Try.ntmps27 rfl rfl hw ?_
  have hx1 : [p, q][(1 : Int).toNat]? = some q := rfl
  have hx0 : [p, q][((1 : Int) - 1).toNat]? = some p := rfl
  have hcm := fun {w : World} (hw : St B w0 H w) => proves1_spec q.xs p.xs hlq hlp (c1 := q.cap) (c2 := p.cap) hq hp hw
  obtain ⟨c, hc, hc0, hc1⟩ : ∃ c, cmpV q.xs p.xs = c ∧ 0 ≤ c ∧ c ≤ 1 := by
    unfold cmpV
    rw [hlx, if_neg (by decide)]
    split <;> exact ⟨_, rfl, by decide, by decide⟩
  rw [hc] at hcm
  repeat' (first | apply (zs1 ?_) | apply (zs2 ?_) | (apply zg4; refine zs9 ?_) | (apply zg14; refine zs31 ?_) | apply (zs65 ?_) | apply (zs68 ?_) | apply (zs69 ?_) | apply (zs70 ?_) | apply (zs73 ?_) | fail)
  refine VC_loop1 (fun (i : Int) => [(5, .int .i64 i), (0, .slice A 2 cap), (1, .func (.func 28) #[] #[])]) (fun _ => H) (fun i => i = 0 ∨ i = 1) (fun i => i.toNat) 1 (.inr rfl) ?_ (fun w hw => hw) ?_
  · (repeat (first | exact sub_nil _ | (apply sub_cons; first | exact rfl | exact congrArg (fun z : Int => some (Value.int .i64 z)) (by omega))))
  rintro i (rfl | rfl) K hK
  · clear hK
    repeat' (first | apply (zs1 ?_) | apply (zs2 ?_) | (apply (zs19 ?_ ?_) <;> intro _ <;> try (exfalso; omega)) | apply (zs65 ?_) | apply (zs68 ?_) | apply (zs69 ?_) | apply (zs70 ?_) | (apply zg27; refine zs72 ?_) | apply (zs74 ?_) | apply (zs75 ?_) | apply (zs80 ?_) | apply (zs81 ?_) | fail)
    apply VQ_ret1; exact rfl; exact rfl; exact ⟨rfl, rfl⟩
  · skip
    repeat' (first | (apply VL_index_rd T (f := rowF) (l := [p, q]); exact rfl; exact rfl; exact hr; exact rfl; exact fun _ => rfl; exact rfl; exact rfl; (simp only [List.length_cons, List.length_nil]; omega)) | (apply VL_load_rd0 T (f := rowF) (l := [p, q]); exact rfl; exact hr; (first | exact hx0 | exact hx1); exact fun _ => rfl; exact rfl; exact rfl; exact rfl; exact rfl) | apply (zs1 ?_) | (apply (zs19 ?_ ?_) <;> intro _ <;> try (exfalso; omega)) | (apply zg14; refine zs31 ?_) | apply (zs65 ?_) | apply (zs68 ?_) | apply (zs69 ?_) | apply (zs70 ?_) | (apply zg27; refine zs71 ?_) | apply (zs73 ?_) | apply (zs76 ?_) | (apply zg28; refine zs84 ?_) | fail)
    apply VL_callvq (cs := [])
    exact rfl
    exact en28
    (repeat (first | exact args_nil | (apply args_cons; exact rfl)))
    exact rfl
    exact fun _ hw => hcm hw
    repeat' (first | apply (zs1 ?_) | apply (zs2 ?_) | (apply (zs17 ?_ ?_) <;> intro _ <;> try (exfalso; omega)) | (apply zg14; refine zs31 ?_) | apply (zs65 ?_) | apply (zs66 ?_) | apply (zs68 ?_) | apply (zs70 ?_) | (apply zg27; refine zs72 ?_) | apply (zs76 ?_) | apply (zs79 ?_) | fail)
    apply hK 0
    · exact .inl rfl
    · decide
    · (repeat (first | exact sub_nil _ | (apply sub_cons; first | exact rfl | exact congrArg (fun z : Int => some (Value.int .i64 z)) (by omega))))
    · exact fun w hw => hw
end Go.Proofs.Ytleldppdflgmgaa

/- Walks: the law RouteBelow. -/
namespace Go.Proofs.Ytleldppdflgmgaa
open Go.RowKit Go.Eng Go.Nw Go.Rt

theorem disj_two {a b : List Int} (h : disjE a b = true) : 2 ≤ a.length := by
  unfold disjE at h
  exact (of_decide_eq_true (and_left_ h)).1
theorem short_len (n : Net) (s t : Int) : (shortE n s t).1.length ≤ 9 := by
  unfold shortE
  repeat' split
  all_goals (first | (simp; done) | (simp only; omega))

set_option maxRecDepth 10000 in
set_option maxHeartbeats 2000000 in
theorem law_below (n : NetM) (a b pin pout : List Int) (hla : a.length ≤ 9223372036854775807) (hlb : b.length ≤ 9223372036854775807) (hli : pin.length ≤ 9223372036854775807) (hlo : pout.length ≤ 9223372036854775807) {Aa Ab A1 A2 : Option Addr} {ca cb c1 c2 : Nat} (hca : a.length ≤ ca) (hcb : b.length ≤ cb) {B : Nat} {w0 : World} {H : List HP} {w : World} (hin : n.In B w0 H) (hra : Rd B w0 H Aa (a.flatMap numF)) (hrb : Rd B w0 H Ab (b.flatMap numF)) (hri : Rd B w0 H A1 (pin.flatMap numF)) (hro : Rd B w0 H A2 (pout.flatMap numF)) (hw : St B w0 H w) :
    Calls Try.prog 7 [n.val, .slice Aa a.length ca, .slice Ab b.length cb, .agg #[.slice A1 pin.length c1, .slice A2 pout.length c2]].toArray w (Post B w0 fun v K => v = .bool true ∧ ∀ w, St B w0 K w → St B w0 H w) := by
  refine Calls_of_VC Try.func7 Try.ntmps7 rfl rfl hw ?_
  (apply VC_seq; apply VC_region; apply VL_box_agg; exact rfl; exact rfl; intro g)
  have hfe := fun {H : List HP} {w : World} (hin : n.In B w0 H) (hw : St B w0 H w) => few_spec n hin hw
  cases hfew : fewE n.net with
  | false =>
    rw [hfew] at hfe
    repeat' (first | ((first | apply VL_callt en10 | apply VL_callq en10); (repeat (first | exact args_nil | (apply args_cons; exact rfl))); exact rfl; exact fun _ hw => (awakeR_spec hw)) | ((first | apply VL_callt en13 | apply VL_callq en13); (repeat (first | exact args_nil | (apply args_cons; exact rfl))); exact rfl; exact fun _ hw => (hfe hin.cons.cons hw)) | apply (zs1 ?_) | apply (zs2 ?_) | (apply zg1; refine zs3 ?_) | (apply zg3; refine zs8 ?_) | (apply zg6; refine zs11 ?_) | (apply zg20; first | refine zs47 ?_ | refine zs48 ?_) | (apply zg23; (refine zs52 ?_; intro _)) | apply (zs65 ?_) | apply (zs68 ?_) | apply (zs69 ?_) | apply (zs70 ?_) | (apply zg27; first | refine zs71 ?_ | refine zs72 ?_) | apply (zs74 ?_) | apply (zs76 ?_) | apply (zs77 ?_) | fail)
    apply VQ_ret1; exact rfl; exact rfl
    exact ⟨rfl, fun w hw => hw.tail.tail⟩
  | true =>
    rw [hfew] at hfe
    by_cases hbig : 12 < a.length ∨ 12 < b.length ∨ 40 < pin.length ∨ 40 < pout.length
    · skip
      repeat' (first | ((first | apply VL_callt en10 | apply VL_callq en10); (repeat (first | exact args_nil | (apply args_cons; exact rfl))); exact rfl; exact fun _ hw => (awakeR_spec hw)) | ((first | apply VL_callt en13 | apply VL_callq en13); (repeat (first | exact args_nil | (apply args_cons; exact rfl))); exact rfl; exact fun _ hw => (hfe hin.cons.cons hw)) | apply (zs1 ?_) | apply (zs2 ?_) | (apply zg1; first | refine zs3 ?_ | refine zs4 ?_) | (apply zg2; refine zs6 ?_) | (apply zg3; first | refine zs7 ?_ | refine zs8 ?_) | (apply zg4; refine zs9 ?_) | (apply zg6; first | refine zs11 ?_ | refine zs12 ?_) | (apply (zs19 ?_ ?_) <;> intro _ <;> try (exfalso; omega)) | (apply zg20; refine zs47 ?_) | (apply zg23; (refine zs52 ?_; intro _)) | apply (zs65 ?_) | apply (zs68 ?_) | apply (zs69 ?_) | apply (zs70 ?_) | (apply zg27; first | refine zs71 ?_ | refine zs72 ?_) | apply (zs74 ?_) | apply (zs76 ?_) | apply (zs77 ?_) | fail)
      all_goals (apply VQ_ret1; exact rfl; exact rfl; exact ⟨rfl, fun w hw => hw.tail.tail⟩)
    have h8 : checkE n.net = 0 → n.net.nodes ≤ 8 := fun he => by
      have h1 := (check_ok he).p0
      have h3 := hfew
      unfold fewE at h3
      have h4 := (of_decide_eq_true h3).2.1
      omega
    have hcp := fun {H : List HP} {w : World} (hin : n.In B w0 H) (r1 : Rd B w0 H Aa (a.flatMap numF)) (hw : St B w0 H w) => Cost_spec n a (cap := ca) hin r1 hla hca hw
    have hcq := fun {H : List HP} {w : World} (hin : n.In B w0 H) (r1 : Rd B w0 H Ab (b.flatMap numF)) (hw : St B w0 H w) => Cost_spec n b (cap := cb) hin r1 hlb hcb hw
    have hdj := fun {H : List HP} {w : World} (r1 : Rd B w0 H Aa (a.flatMap numF)) (r2 : Rd B w0 H Ab (b.flatMap numF)) (hw : St B w0 H w) => disjoint_spec a b (by omega) (by omega) (c1 := ca) (c2 := cb) r1 r2 hw
    have hbel := below_sem n.net a b pin pout
    obtain ⟨⟨xa, ea⟩, hxa⟩ : ∃ z, CostE n.net a = z := ⟨_, rfl⟩
    obtain ⟨⟨xb, eb⟩, hxb⟩ : ∃ z, CostE n.net b = z := ⟨_, rfl⟩
    rw [hxa] at hcp hbel
    rw [hxb] at hcq hbel
    dsimp only at hcp hcq hbel
    by_cases hea : ea = 0
    rotate_left
    · skip
      repeat' (first | ((first | apply VL_callt en10 | apply VL_callq en10); (repeat (first | exact args_nil | (apply args_cons; exact rfl))); exact rfl; exact fun _ hw => (awakeR_spec hw)) | ((first | apply VL_callt en13 | apply VL_callq en13); (repeat (first | exact args_nil | (apply args_cons; exact rfl))); exact rfl; exact fun _ hw => (hfe hin.cons.cons hw)) | apply (zs1 ?_) | apply (zs2 ?_) | (apply zg1; refine zs4 ?_) | (apply zg2; refine zs6 ?_) | (apply zg3; first | refine zs7 ?_ | refine zs8 ?_) | (apply zg4; refine zs9 ?_) | (apply zg6; refine zs12 ?_) | (apply (zs19 ?_ ?_) <;> intro _ <;> try (exfalso; omega)) | (apply zg20; refine zs47 ?_) | (apply zg23; (refine zs52 ?_; intro _)) | apply (zs65 ?_) | apply (zs68 ?_) | apply (zs69 ?_) | apply (zs70 ?_) | (apply zg27; refine zs72 ?_) | apply (zs76 ?_) | fail)
      first | apply VL_callt en22 | apply VL_callq en22
      (repeat (first | exact args_nil | (apply args_cons; exact rfl)))
      exact rfl
      exact fun _ hw => (hcp hin.cons.cons hra.cons.cons hw)
      repeat' (first | apply (zs1 ?_) | apply (zs2 ?_) | (apply zg3; refine zs8 ?_) | apply (zs13 ?_) | apply (zs65 ?_) | apply (zs68 ?_) | apply (zs69 ?_) | apply (zs70 ?_) | fail)
      first | apply VL_callt en22 | apply VL_callq en22
      (repeat (first | exact args_nil | (apply args_cons; exact rfl)))
      exact rfl
      exact fun _ hw => (hcq hin.cons.cons hrb.cons.cons hw)
      repeat' (first | apply (zs1 ?_) | apply (zs2 ?_) | (apply zg1; refine zs3 ?_) | (apply zg6; refine zs11 ?_) | apply (zs13 ?_) | (apply zg8; (refine zs16 ?_ ?_ <;> intro _ <;> try (exfalso; omega))) | apply (zs65 ?_) | apply (zs68 ?_) | apply (zs69 ?_) | apply (zs70 ?_) | (apply zg27; refine zs71 ?_) | apply (zs74 ?_) | apply (zs77 ?_) | fail)
      apply VQ_ret1; exact rfl; exact rfl
      exact ⟨rfl, fun w hw => hw.tail.tail⟩
    by_cases heb : eb = 0
    rotate_left
    · skip
      repeat' (first | ((first | apply VL_callt en10 | apply VL_callq en10); (repeat (first | exact args_nil | (apply args_cons; exact rfl))); exact rfl; exact fun _ hw => (awakeR_spec hw)) | ((first | apply VL_callt en13 | apply VL_callq en13); (repeat (first | exact args_nil | (apply args_cons; exact rfl))); exact rfl; exact fun _ hw => (hfe hin.cons.cons hw)) | apply (zs1 ?_) | apply (zs2 ?_) | (apply zg1; refine zs4 ?_) | (apply zg2; refine zs6 ?_) | (apply zg3; first | refine zs7 ?_ | refine zs8 ?_) | (apply zg4; refine zs9 ?_) | (apply zg6; refine zs12 ?_) | (apply (zs19 ?_ ?_) <;> intro _ <;> try (exfalso; omega)) | (apply zg20; refine zs47 ?_) | (apply zg23; (refine zs52 ?_; intro _)) | apply (zs65 ?_) | apply (zs68 ?_) | apply (zs69 ?_) | apply (zs70 ?_) | (apply zg27; refine zs72 ?_) | apply (zs76 ?_) | fail)
      first | apply VL_callt en22 | apply VL_callq en22
      (repeat (first | exact args_nil | (apply args_cons; exact rfl)))
      exact rfl
      exact fun _ hw => (hcp hin.cons.cons hra.cons.cons hw)
      repeat' (first | apply (zs1 ?_) | apply (zs2 ?_) | (apply zg3; refine zs8 ?_) | apply (zs13 ?_) | apply (zs65 ?_) | apply (zs68 ?_) | apply (zs69 ?_) | apply (zs70 ?_) | fail)
      first | apply VL_callt en22 | apply VL_callq en22
      (repeat (first | exact args_nil | (apply args_cons; exact rfl)))
      exact rfl
      exact fun _ hw => (hcq hin.cons.cons hrb.cons.cons hw)
      repeat' (first | apply (zs1 ?_) | apply (zs2 ?_) | (apply zg1; first | refine zs3 ?_ | refine zs4 ?_) | (apply zg6; first | refine zs11 ?_ | refine zs12 ?_) | apply (zs13 ?_) | (apply zg8; (refine zs16 ?_ ?_ <;> intro _ <;> try (exfalso; omega))) | apply (zs65 ?_) | apply (zs68 ?_) | apply (zs69 ?_) | apply (zs70 ?_) | (apply zg27; refine zs71 ?_) | apply (zs74 ?_) | apply (zs77 ?_) | fail)
      apply VQ_ret1; exact rfl; exact rfl
      exact ⟨rfl, fun w hw => hw.tail.tail⟩
    cases hdis : disjE a b with
    | false =>
      rw [hdis] at hdj
      repeat' (first | ((first | apply VL_callt en10 | apply VL_callq en10); (repeat (first | exact args_nil | (apply args_cons; exact rfl))); exact rfl; exact fun _ hw => (awakeR_spec hw)) | ((first | apply VL_callt en13 | apply VL_callq en13); (repeat (first | exact args_nil | (apply args_cons; exact rfl))); exact rfl; exact fun _ hw => (hfe hin.cons.cons hw)) | apply (zs1 ?_) | apply (zs2 ?_) | (apply zg1; refine zs4 ?_) | (apply zg2; refine zs6 ?_) | (apply zg3; first | refine zs7 ?_ | refine zs8 ?_) | (apply zg4; refine zs9 ?_) | (apply zg6; refine zs12 ?_) | (apply (zs19 ?_ ?_) <;> intro _ <;> try (exfalso; omega)) | (apply zg20; refine zs47 ?_) | (apply zg23; (refine zs52 ?_; intro _)) | apply (zs65 ?_) | apply (zs68 ?_) | apply (zs69 ?_) | apply (zs70 ?_) | (apply zg27; refine zs72 ?_) | apply (zs76 ?_) | fail)
      first | apply VL_callt en22 | apply VL_callq en22
      (repeat (first | exact args_nil | (apply args_cons; exact rfl)))
      exact rfl
      exact fun _ hw => (hcp hin.cons.cons hra.cons.cons hw)
      repeat' (first | apply (zs1 ?_) | apply (zs2 ?_) | (apply zg3; refine zs8 ?_) | apply (zs13 ?_) | apply (zs65 ?_) | apply (zs68 ?_) | apply (zs69 ?_) | apply (zs70 ?_) | fail)
      first | apply VL_callt en22 | apply VL_callq en22
      (repeat (first | exact args_nil | (apply args_cons; exact rfl)))
      exact rfl
      exact fun _ hw => (hcq hin.cons.cons hrb.cons.cons hw)
      repeat' (first | apply (zs1 ?_) | apply (zs2 ?_) | (apply zg1; refine zs4 ?_) | (apply zg6; refine zs12 ?_) | apply (zs13 ?_) | (apply zg8; (refine zs16 ?_ ?_ <;> intro _ <;> try (exfalso; omega))) | apply (zs65 ?_) | apply (zs68 ?_) | apply (zs69 ?_) | apply (zs70 ?_) | fail)
      first | apply VL_callt en11 | apply VL_callq en11
      (repeat (first | exact args_nil | (apply args_cons; exact rfl)))
      exact rfl
      exact fun _ hw => (hdj hra.cons.cons hrb.cons.cons hw)
      repeat' (first | apply (zs2 ?_) | (apply zg1; refine zs4 ?_) | (apply zg6; refine zs12 ?_) | (apply zg20; refine zs48 ?_) | apply (zs65 ?_) | apply (zs68 ?_) | apply (zs69 ?_) | apply (zs70 ?_) | (apply zg27; refine zs71 ?_) | apply (zs74 ?_) | apply (zs77 ?_) | fail)
      apply VQ_ret1; exact rfl; exact rfl
      exact ⟨rfl, fun w hw => hw.tail.tail⟩
    | true =>
      rw [hdis] at hdj
      have hla2 := disj_two hdis
      have hbel2 := hbel hea heb hdis h8
      clear hbel
      have hsl := short_len n.net (a.getD 0 0) (a.getD (a.length - 1) 0)
      have hg0 : a[0]? = some (a.getD 0 0) := getD_get (by omega)
      have hg1 : a[a.length - 1]? = some (a.getD (a.length - 1) 0) := getD_get (by omega)
      have hgi : ((a.length : Int) - 1).toNat = a.length - 1 := by omega
      rw [← hgi] at hg1
      generalize a.getD 0 0 = s at hbel2 hsl hg0
      rw [← hgi] at hbel2 hsl
      generalize a.getD ((a.length : Int) - 1).toNat 0 = t at hbel2 hsl hg1
      repeat' (first | ((first | apply VL_callt en10 | apply VL_callq en10); (repeat (first | exact args_nil | (apply args_cons; exact rfl))); exact rfl; exact fun _ hw => (awakeR_spec hw)) | ((first | apply VL_callt en13 | apply VL_callq en13); (repeat (first | exact args_nil | (apply args_cons; exact rfl))); exact rfl; exact fun _ hw => (hfe hin.cons.cons hw)) | apply (zs1 ?_) | apply (zs2 ?_) | (apply zg1; refine zs4 ?_) | (apply zg2; refine zs6 ?_) | (apply zg3; first | refine zs7 ?_ | refine zs8 ?_) | (apply zg4; refine zs9 ?_) | (apply zg6; refine zs12 ?_) | (apply (zs19 ?_ ?_) <;> intro _ <;> try (exfalso; omega)) | (apply zg20; refine zs47 ?_) | (apply zg23; (refine zs52 ?_; intro _)) | apply (zs65 ?_) | apply (zs68 ?_) | apply (zs69 ?_) | apply (zs70 ?_) | (apply zg27; refine zs72 ?_) | apply (zs76 ?_) | fail)
      first | apply VL_callt en22 | apply VL_callq en22
      (repeat (first | exact args_nil | (apply args_cons; exact rfl)))
      exact rfl
      exact fun _ hw => (hcp hin.cons.cons hra.cons.cons hw)
      repeat' (first | apply (zs1 ?_) | apply (zs2 ?_) | (apply zg3; refine zs8 ?_) | apply (zs13 ?_) | apply (zs65 ?_) | apply (zs68 ?_) | apply (zs69 ?_) | apply (zs70 ?_) | fail)
      first | apply VL_callt en22 | apply VL_callq en22
      (repeat (first | exact args_nil | (apply args_cons; exact rfl)))
      exact rfl
      exact fun _ hw => (hcq hin.cons.cons hrb.cons.cons hw)
      repeat' (first | apply (zs1 ?_) | apply (zs2 ?_) | (apply zg1; refine zs4 ?_) | (apply zg6; refine zs12 ?_) | apply (zs13 ?_) | (apply zg8; (refine zs16 ?_ ?_ <;> intro _ <;> try (exfalso; omega))) | apply (zs65 ?_) | apply (zs68 ?_) | apply (zs69 ?_) | apply (zs70 ?_) | fail)
      first | apply VL_callt en11 | apply VL_callq en11
      (repeat (first | exact args_nil | (apply args_cons; exact rfl)))
      exact rfl
      exact fun _ hw => (hdj hra.cons.cons hrb.cons.cons hw)
      repeat' (first | apply (zs1 ?_) | apply (zs2 ?_) | (apply zg1; refine zs4 ?_) | (apply zg3; first | refine zs8 ?_ | refine zs60 ?_) | (apply zg4; refine zs9 ?_) | (apply zg5; refine zs57 ?_) | (apply zg6; refine zs12 ?_) | (apply zg14; refine zs31 ?_) | (apply zg20; refine zs47 ?_) | apply (zs65 ?_) | apply (zs66 ?_) | apply (zs68 ?_) | apply (zs69 ?_) | apply (zs70 ?_) | (apply zg27; refine zs72 ?_) | apply (zs76 ?_) | (apply zg28; refine zs83 ?_) | fail)
      apply VL_call _ en14
      (repeat (first | exact args_nil | (apply args_cons; exact rfl)))
      exact rfl
      exact fun _ hw => (shortest_spec n s t hin.cons.cons (hw))
      rintro _ _ ⟨A3, c3, rfl, _, hdd, rfl⟩
      obtain ⟨_, r, p, q, h1, h2, h3, h4, h5, h6, h7, h8', h9, ⟨h10, h11, h12, h13, h14⟩, h15⟩ := hbel2 hdd
      clear hbel2 hdd
      rw [h1] at hsl ⊢
      dsimp only at hsl ⊢
      refine VL_capA (e := 3) (size := 1) (k := r.length) (cap := c3) (A := A3) (xs := r.flatMap numF) (by (focus repeat (first | with_reducible exact List.mem_cons_self | with_reducible apply List.mem_cons_of_mem | assumption))) fun hc3 => ?_
      have hcr := fun {H : List HP} {w : World} (hin : n.In B w0 H) (r1 : Rd B w0 H A3 (r.flatMap numF)) (hw : St B w0 H w) => Cost_spec n r (cap := c3) hin r1 (by omega) hc3 hw
      rw [h2] at hcr
      obtain ⟨cr, hcre⟩ : ∃ z, costE n.net r = z := ⟨_, rfl⟩
      obtain ⟨cp, hcpe⟩ : ∃ z, costE n.net p = z := ⟨_, rfl⟩
      obtain ⟨cq, hcqe⟩ : ∃ z, costE n.net q = z := ⟨_, rfl⟩
      rw [hcre] at hcr h6 h7 h9 h10
      rw [hcpe] at h4 h8' h9 h11 h15
      rw [hcqe] at h5 h8' h9 h12 h15
      dsimp only at hcr
      repeat' (first | apply (zs1 ?_) | apply (zs2 ?_) | (apply zg3; refine zs8 ?_) | apply (zs13 ?_) | apply (zs65 ?_) | apply (zs68 ?_) | apply (zs69 ?_) | apply (zs70 ?_) | fail)
      first | apply VL_callt en22 | apply VL_callq en22
      (repeat (first | exact args_nil | (apply args_cons; exact rfl)))
      exact rfl
      exact fun _ hw => (hcr hin.cons.cons.cons (.sl (by (focus repeat (first | with_reducible exact List.mem_cons_self | with_reducible apply List.mem_cons_of_mem | assumption)))) hw)
      repeat' (first | apply (zs1 ?_) | apply (zs2 ?_) | (apply zg3; refine zs8 ?_) | apply (zs13 ?_) | apply (zs65 ?_) | apply (zs68 ?_) | apply (zs69 ?_) | apply (zs70 ?_) | fail)
      apply VL_call _ en17
      (repeat (first | exact args_nil | (apply args_cons; exact rfl)))
      exact rfl
      exact fun _ hw => (Pair_spec n s t 100000 _ (Nat.le_refl _) h3 hin.cons.cons.cons (hw))
      rintro _ _ ⟨g1, A4, c4, A5, c5, rfl, ⟨k1, k2, k3⟩, _, rfl⟩
      dsimp only at k1 k2 k3 ⊢
      refine VL_capA (e := 3) (size := 1) (k := p.length) (cap := c4) (A := A4) (xs := p.flatMap numF) (by (focus repeat (first | with_reducible exact List.mem_cons_self | with_reducible apply List.mem_cons_of_mem | assumption))) fun hc4 => ?_
      refine VL_capA (e := 3) (size := 1) (k := q.length) (cap := c5) (A := A5) (xs := q.flatMap numF) (by (focus repeat (first | with_reducible exact List.mem_cons_self | with_reducible apply List.mem_cons_of_mem | assumption))) fun hc5 => ?_
      have hkp := fun {H : List HP} {w : World} (hin : n.In B w0 H) (r1 : Rd B w0 H A4 (p.flatMap numF)) (hw : St B w0 H w) => Cost_spec n p (cap := c4) hin r1 (by omega) hc4 hw
      have hkq := fun {H : List HP} {w : World} (hin : n.In B w0 H) (r1 : Rd B w0 H A5 (q.flatMap numF)) (hw : St B w0 H w) => Cost_spec n q (cap := c5) hin r1 (by omega) hc5 hw
      rw [h4] at hkp
      rw [h5] at hkq
      dsimp only at hkp hkq
      have hbo := fun {H : List HP} {w : World} (hin : n.In B w0 H) (r1 : Rd B w0 H A1 (pin.flatMap numF)) (r2 : Rd B w0 H A2 (pout.flatMap numF)) (hw : St B w0 H w) => bound_spec n s t pin pout (c1 := c1) (c2 := c2) (by omega) (by omega) hin r1 r2 hw
      obtain ⟨⟨bv, be⟩, hbv⟩ : ∃ z, boundE n.net s t pin pout = z := ⟨_, rfl⟩
      rw [hbv] at hbo h15
      dsimp only at hbo h15
      have hx0 : [(⟨A4, c4, p⟩ : RowM), ⟨A5, c5, q⟩][(0 : Int).toNat]? = some ⟨A4, c4, p⟩ := rfl
      have hx1 : [(⟨A4, c4, p⟩ : RowM), ⟨A5, c5, q⟩][(1 : Int).toNat]? = some ⟨A5, c5, q⟩ := rfl
      repeat' (first | apply (zs1 ?_) | apply (zs2 ?_) | (apply zg1; refine zs4 ?_) | (apply zg3; first | refine zs8 ?_ | refine zs60 ?_) | (apply zg4; refine zs9 ?_) | (apply zg5; refine zs10 ?_) | (apply zg6; refine zs12 ?_) | apply (zs13 ?_) | (apply zg8; (refine zs16 ?_ ?_ <;> intro _ <;> try (exfalso; omega))) | (apply (zs19 ?_ ?_) <;> intro _ <;> try (exfalso; omega)) | (apply (zs25 ?_ ?_) <;> intro _ <;> try (exfalso; omega)) | apply (zs65 ?_) | apply (zs68 ?_) | apply (zs69 ?_) | apply (zs70 ?_) | (apply zg27; refine zs72 ?_) | apply (zs76 ?_) | (apply zg28; refine zs84 ?_) | fail)
      all_goals (
        first | apply VL_callt en22 | apply VL_callq en22
        (repeat (first | exact args_nil | (apply args_cons; exact rfl)))
        exact rfl
        exact fun _ hw => (hkp hin.cons.cons.cons.cons.cons.cons (.sl (by (focus repeat (first | with_reducible exact List.mem_cons_self | with_reducible apply List.mem_cons_of_mem | assumption)))) hw)
        repeat' (first | apply (zs1 ?_) | apply (zs2 ?_) | (apply zg3; first | refine zs8 ?_ | refine zs60 ?_) | (apply zg5; refine zs10 ?_) | apply (zs13 ?_) | apply (zs66 ?_) | apply (zs68 ?_) | apply (zs69 ?_) | (apply zg28; refine zs84 ?_) | fail)
        first | apply VL_callt en22 | apply VL_callq en22
        (repeat (first | exact args_nil | (apply args_cons; exact rfl)))
        exact rfl
        exact fun _ hw => (hkq hin.cons.cons.cons.cons.cons.cons (.sl (by (focus repeat (first | with_reducible exact List.mem_cons_self | with_reducible apply List.mem_cons_of_mem | assumption)))) hw)
        repeat' (first | apply (zs1 ?_) | apply (zs2 ?_) | (apply zg1; refine zs4 ?_) | (apply zg3; refine zs8 ?_) | (apply zg6; refine zs12 ?_) | apply (zs13 ?_) | (apply zg8; (refine zs16 ?_ ?_ <;> intro _ <;> try (exfalso; omega))) | (apply (zs19 ?_ ?_) <;> intro _ <;> try (exfalso; omega)) | (apply zg13; refine zs30 ?_) | (apply zg15; refine zs32 ?_) | apply (zs65 ?_) | apply (zs66 ?_) | apply (zs68 ?_) | apply (zs69 ?_) | apply (zs70 ?_) | (apply zg27; refine zs72 ?_) | apply (zs76 ?_) | fail)
        first | apply VL_callt en20 | apply VL_callq en20
        (repeat (first | exact args_nil | (apply args_cons; exact rfl)))
        exact rfl
        exact fun _ hw => (hbo hin.cons.cons.cons.cons.cons.cons hri.cons.cons.cons.cons.cons.cons hro.cons.cons.cons.cons.cons.cons hw)
        repeat' (first | apply (zs1 ?_) | apply (zs2 ?_) | (apply zg1; first | refine zs3 ?_ | refine zs4 ?_) | (apply zg6; first | refine zs11 ?_ | refine zs12 ?_) | apply (zs13 ?_) | (apply zg8; (refine zs16 ?_ ?_ <;> intro _ <;> try (exfalso; omega))) | (apply (zs18 ?_ ?_) <;> intro _ <;> try (exfalso; omega)) | (apply zg13; refine zs30 ?_) | apply (zs65 ?_) | apply (zs68 ?_) | apply (zs69 ?_) | apply (zs70 ?_) | apply (zs74 ?_) | fail)
        all_goals (apply VQ_ret1; exact rfl; exact rfl; exact ⟨rfl, fun w hw => hw.tail.tail.tail.tail.tail.tail⟩))
end Go.Proofs.Ytleldppdflgmgaa

/- From arguments that came in to rows that are only read. -/
namespace Go.Eng
open Go.ChangeShapes Go.WideShapes Go.ChangeAt Go.RowKit Go.Deep

/-- In this world the cells xs lie from A on. -/
def Old (W : World) (A : Option Addr) (xs : List Value) : Prop := ∀ j v, xs[j]? = some v → ∃ g o, A = some ⟨g, o, none⟩ ∧ g < W.heap.size ∧ W.cell? ⟨g, o + j, none⟩ = some v
theorem Old.rd {W : World} {H : List HP} {A : Option Addr} {xs : List Value} (h : Old W A xs) : Rd W.heap.size W H A xs := Rd.old h

theorem cell_lt {W : World} {a : Addr} {v : Value} (h : W.cell? a = some v) : a.block < W.heap.size := by
  unfold World.cell? at h
  rcases Nat.lt_or_ge a.block W.heap.size with h1 | h1
  · exact h1
  · rw [Array.getElem?_eq_none h1] at h; cases h

section
variable {H : Type} {enc : TypeId × Value → H} {P : Program} {W : World} {held : Bool}

/-- A slice that came in: its elements, and where they lie; f: an element's cells; good: what is known of an element. -/
theorem open_rows {α : Type} {f : α → List Value} {good : α → Prop} {t e q : Nat} {fuel : Nat} {A : Option Addr} {len cap : Nat} {x : DataW H × List MemPlace} {spare : Nat → Bool} (ht : P.underlying t = some (.slice e)) (hc : P.cellsOf e = q) (h0 : 0 < q)
    (hel : ∀ n cs y, cs.length = q → DataW.trod enc P W 0 spare held n e cs = some y → ∃ a, cs = f a ∧ good a) (h : DataW.trod enc P W 0 spare held fuel t [.slice A len cap] = some x) :
    ∃ l : List α, l.length = len ∧ Old W A (l.flatMap f) ∧ (∀ a ∈ l, good a) ∧ len ≤ maxLen ∧ (∀ a ∈ l, (f a).length = q) := by
  rcases open_slice ht h with ⟨h1, _⟩ | ⟨a, len', cap', m, n, D, Pl, h1, _, hl, hm, hmm, hxx, hx⟩
  · injection h1 with h1 _
    injection h1 with h1 h2 h3
    subst h1 h2 h3
    exact ⟨[], rfl, (fun j v hv => by simp at hv), (fun a ha => by cases ha), Nat.zero_le _, (fun a ha => by cases ha)⟩
  · injection h1 with h1 _
    injection h1 with h1 h2 h3
    subst h1 h2 h3
    have hle : len ≤ m := by rw [hmm]; split <;> omega
    rw [hc] at hx
    have key : ∀ i, i < len → ∃ b : α, W.cells? 0 (a.add (i * q)) q = some (f b) ∧ good b := fun i hi => by
      obtain ⟨cs', h2, h3⟩ := hx i (by omega)
      obtain ⟨_, h5, _⟩ := World.cells?_some h2
      obtain ⟨b, rfl, hb⟩ := hel n cs' _ h5 h3
      exact ⟨b, h2, hb⟩
    obtain ⟨l, hlen, hl2⟩ : ∃ l : List α, l.length = len ∧ ∀ i b, l[i]? = some b → W.cells? 0 (a.add (i * q)) q = some (f b) ∧ good b := by
      clear hx hmm hle h hl hm hxx
      induction len with
      | zero => exact ⟨[], rfl, fun i b hb => by simp at hb⟩
      | succ k ih =>
        obtain ⟨l, h2, h3⟩ := ih (fun i hi => key i (by omega))
        obtain ⟨b, h4⟩ := key k (by omega)
        refine ⟨l ++ [b], by simp [h2], fun i c hc => ?_⟩
        by_cases hi : i < l.length
        · rw [List.getElem?_append_left hi] at hc; exact h3 i c hc
        · rw [List.getElem?_append_right (by omega)] at hc
          have hi2 : i - l.length = 0 := by
            have := (List.getElem?_eq_some_iff.1 hc).1
            simp at this; omega
          rw [hi2] at hc
          obtain rfl : b = c := by simpa using hc
          obtain rfl : i = k := by omega
          exact h4
    have hfq : ∀ b ∈ l, (f b).length = q := fun b hb => by
      obtain ⟨i, hi⟩ := List.getElem?_of_mem hb
      exact (World.cells?_some (hl2 i b hi).1).2.1
    refine ⟨l, hlen, fun j v hv => ?_, fun b hb => ?_, by omega, hfq⟩
    · have hspl : ∃ i b, l[i]? = some b ∧ ∃ r, j = i * q + r ∧ r < q ∧ (f b)[r]? = some v := by
        clear hlen hl2 key
        induction l generalizing j with
        | nil => simp at hv
        | cons b l ih =>
          rw [List.flatMap_cons] at hv
          have hb := hfq b (by simp)
          by_cases hj : j < q
          · rw [List.getElem?_append_left (by omega)] at hv
            exact ⟨0, b, rfl, j, by omega, hj, hv⟩
          · rw [List.getElem?_append_right (by omega), hb] at hv
            obtain ⟨i, b', h5, r, h6, h7, h8⟩ := ih (fun c hc => hfq c (by simp [hc])) (j - q) hv
            exact ⟨i + 1, b', by simpa using h5, r, by rw [Nat.add_mul]; omega, h7, h8⟩
      obtain ⟨i, b, h5, r, rfl, h7, h8⟩ := hspl
      have h9 := (World.cells?_some (hl2 i b h5).1).2.2 r h7
      rw [h8, add_add] at h9
      obtain ⟨ab, ao, spot⟩ := a
      have hs0 : spot = none := by
        have h10 := World.cell?_spot h9
        unfold Addr.add at h10
        split at h10
        · exact h10
        · rename_i hne
          have hi0 : i < len := by have := (List.getElem?_eq_some_iff.1 h5).1; omega
          have h11 := (World.cells?_some (hl2 0 l[0] (List.getElem?_eq_getElem (by omega))).1).2.2 0 h0
          rw [add_add, Nat.zero_mul, Nat.zero_add] at h11
          have hf0 : ((f l[0])[0]?).isSome = true := by
            rw [List.getElem?_eq_getElem (by rw [hfq _ (List.getElem_mem _)]; exact h0)]; rfl
          cases hf1 : (f l[0])[0]? with
          | none => rw [hf1] at hf0; cases hf0
          | some u =>
            rw [hf1] at h11
            exact World.cell?_spot h11
      subst hs0
      refine ⟨ab, ao, rfl, ?_, ?_⟩
      · have := cell_lt h9
        rw [Addr.add_lit] at this
        exact this
      · rw [Addr.add_lit] at h9
        exact h9
    · obtain ⟨i, hi⟩ := List.getElem?_of_mem hb
      exact (hl2 i b hi).2

/-- A slice of numbers that came in. -/
theorem open_nums {t e : Nat} {k : IntKind} {fuel : Nat} {A : Option Addr} {len cap : Nat} {x : DataW H × List MemPlace} {spare : Nat → Bool} (ht : P.underlying t = some (.slice e)) (he : P.underlying e = some (.int k)) (hc : P.cellsOf e = 1)
    (h : DataW.trod enc P W 0 spare held fuel t [.slice A len cap] = some x) :
    ∃ l : List Int, l.length = len ∧ Old W A (l.flatMap fun z => [Value.int k z]) ∧ (∀ z ∈ l, (Lit.int k z).wf = true) ∧ len ≤ maxLen := by
  obtain ⟨l, h1, h2, h3, h4, _⟩ := open_rows (f := fun z : Int => [Value.int k z]) (good := fun z => (Lit.int k z).wf = true) ht hc (by decide) (fun n cs y hl hy => by
    obtain ⟨m, rfl, rfl, hw⟩ := DataW.trod_int he hy
    exact ⟨m, rfl, hw⟩) h
  exact ⟨l, h1, h2, h3, h4⟩
end
end Go.Eng

/- From arguments that came in to what the walks speak of: openers, built up as types are. -/
namespace Go.Eng
open Go.ChangeShapes Go.WideShapes Go.ChangeAt Go.RowKit Go.Deep

/-- A slice: where it lies, its capacity, its elements. -/
structure SlM (α : Type) where
  A : Option Addr
  cap : Nat
  xs : List α
def SlM.val {α : Type} (s : SlM α) : Value := .slice s.A s.xs.length s.cap

section
variable {H : Type} {enc : TypeId × Value → H} {P : Program} {W : World} {spare : Nat → Bool} {held : Bool}

/-- Cells that are read as a value of type t are those of some a that is good. -/
def Opn (enc : TypeId × Value → H) (P : Program) (W : World) (spare : Nat → Bool) (held : Bool) (t : TypeId) {α : Type} (f : α → List Value) (good : α → Prop) : Prop :=
  ∀ fuel cs y, DataW.trod enc P W 0 spare held fuel t cs = some y → ∃ a, cs = f a ∧ good a

theorem op_map {t : TypeId} {α β : Type} {f : α → List Value} {good : α → Prop} {f' : β → List Value} {good' : β → Prop} (h : Opn enc P W spare held t f good) (g : α → β) (hf : ∀ a, f a = f' (g a)) (hg : ∀ a, good a → good' (g a)) : Opn enc P W spare held t f' good' := by
  intro fuel cs y hy
  obtain ⟨a, h1, h2⟩ := h fuel cs y hy
  exact ⟨g a, h1.trans (hf a), hg a h2⟩

theorem op_int {t : TypeId} {k : IntKind} (ht : P.underlying t = some (.int k)) : Opn enc P W spare held t (fun z : Int => [Value.int k z]) (fun z => (Lit.int k z).wf = true) := by
  intro fuel cs y hy
  obtain ⟨m, rfl, rfl, hw⟩ := DataW.trod_int ht hy
  exact ⟨m, rfl, hw⟩

/-- What is known of a slice that came in. -/
structure SlG {α : Type} (W : World) (f : α → List Value) (good : α → Prop) (s : SlM α) : Prop where
  old : Old W s.A (s.xs.flatMap f)
  good : ∀ a ∈ s.xs, good a
  len : s.xs.length ≤ maxLen
  cap : s.xs.length ≤ s.cap

theorem op_slice {t e q : TypeId} {α : Type} {f : α → List Value} {good : α → Prop} (ht : P.underlying t = some (.slice e)) (hc : P.cellsOf e = q) (h0 : 0 < q) (h : Opn enc P W spare held e f good) : Opn enc P W spare held t (fun s : SlM α => [s.val]) (SlG W f good) := by
  intro fuel cs y hy
  rcases open_slice ht hy with ⟨rfl, _⟩ | ⟨a, len, cap, m, n, D, Pl, rfl, _, hlc, _⟩
  · exact ⟨⟨none, 0, []⟩, rfl, ⟨(fun j v hv => by simp at hv), (fun a ha => by cases ha), Nat.zero_le _, Nat.zero_le _⟩⟩
  · obtain ⟨l, h1, h2, h3, h4, _⟩ := open_rows ht hc h0 (fun n cs y _ hy => h n cs y hy) hy
    subst h1
    exact ⟨⟨some a, cap, l⟩, rfl, h2, h3, h4, hlc⟩

/-- The same for the fields of a struct, one behind the other. -/
def FOpn (enc : TypeId × Value → H) (P : Program) (W : World) (spare : Nat → Bool) (held : Bool) (ts : List TypeId) {α : Type} (f : α → List Value) (good : α → Prop) : Prop :=
  ∀ (n : Nat) (cs : List Value), cs.length = (ts.map P.cellsOf).sum → (∀ i t, ts[i]? = some t → ∃ y, DataW.trod enc P W 0 spare held n t ((cs.drop ((ts.take i).map P.cellsOf).sum).take (P.cellsOf t)) = some y) → ∃ a, cs = f a ∧ good a

theorem fop_nil : FOpn enc P W spare held [] (fun _ : Unit => []) (fun _ => True) := fun n cs h _ => ⟨(), List.eq_nil_of_length_eq_zero (by simpa using h), trivial⟩
theorem fop_cons {t : TypeId} {ts : List TypeId} {α β : Type} {f : α → List Value} {good : α → Prop} {g : β → List Value} {good' : β → Prop} (h : Opn enc P W spare held t f good) (hs : FOpn enc P W spare held ts g good') :
    FOpn enc P W spare held (t :: ts) (fun x : α × β => f x.1 ++ g x.2) (fun x => good x.1 ∧ good' x.2) := by
  intro n cs hl hx
  simp only [List.map_cons, List.sum_cons] at hl
  obtain ⟨y, hy⟩ := hx 0 t rfl
  simp only [List.take_zero, List.map_nil, List.sum_nil, List.drop_zero] at hy
  obtain ⟨a, h1, h2⟩ := h n _ y hy
  obtain ⟨b, h3, h4⟩ := hs n (cs.drop (P.cellsOf t)) (by simp; omega) (fun i u hu => by
    obtain ⟨y, hy⟩ := hx (i + 1) u (by simpa using hu)
    refine ⟨y, ?_⟩
    rw [List.drop_drop]
    simpa using hy)
  exact ⟨(a, b), by show cs = f a ++ g b; rw [← h1, ← h3, List.take_append_drop], h2, h4⟩

def offs (P : Program) : List TypeId → Nat → List Nat
  | [], _ => []
  | t :: ts, o => o :: offs P ts (o + P.cellsOf t)
theorem offs_get (P : Program) : ∀ (ts : List TypeId) (o i : Nat), i < ts.length → (offs P ts o)[i]? = some (o + ((ts.take i).map P.cellsOf).sum)
  | [], _, _, h => by simp at h
  | t :: ts, o, 0, _ => by simp [offs]
  | t :: ts, o, i + 1, h => by
    rw [offs, List.getElem?_cons_succ, offs_get P ts _ i (by simpa using h)]
    simp [Nat.add_assoc]
/-- A struct whose fields have these types, one behind the other. -/
def structB (P : Program) (t : TypeId) (ts : List TypeId) : Bool :=
  match P.underlying t with
  | some (.struct fs) => (fs.toList.map (·.type) == ts) && (fs.toList.map (·.offset) == offs P ts 0) && (P.cellsOf t == (ts.map P.cellsOf).sum)
  | _ => false

theorem op_struct {t : TypeId} {ts : List TypeId} {α : Type} {f : α → List Value} {good : α → Prop} (hB : structB P t ts = true) (h : FOpn enc P W spare held ts f good) : Opn enc P W spare held t f good := by
  intro fuel cs y hy
  unfold structB at hB
  cases hu : P.underlying t with
  | none => rw [hu] at hB; cases hB
  | some d =>
    rw [hu] at hB
    cases d with
    | struct fs =>
      simp only [Bool.and_eq_true, beq_iff_eq] at hB
      obtain ⟨⟨h1, h2⟩, h3⟩ := hB
      obtain ⟨xs, n, _, _, hl, hn, hx⟩ := DataW.trod_struct hu hy
      refine h n cs (hl.trans h3) fun i u hi => ?_
      have hlt : i < ts.length := (List.getElem?_eq_some_iff.1 hi).1
      have hlf : i < fs.toList.length := by rw [← h1] at hlt; simpa using hlt
      have hf : fs[i]? = some (fs.toList[i]) := by rw [← Array.getElem?_toList, List.getElem?_eq_getElem hlf]
      have ht : (fs.toList[i]).type = u := by
        rw [← h1, List.getElem?_map, List.getElem?_eq_getElem hlf] at hi
        simpa using hi
      have ho : (fs.toList[i]).offset = ((ts.take i).map P.cellsOf).sum := by
        have h5 := offs_get P ts 0 i hlt
        rw [← h2, List.getElem?_map, List.getElem?_eq_getElem hlf] at h5
        simpa using h5
      have h6 := hx i _ hf
      rw [ht, ho] at h6
      have hlx : i < xs.length := by rw [hn]; simpa using hlf
      exact ⟨xs[i], by rw [h6, List.getElem?_eq_getElem hlx]⟩
    | _ => cases hB

theorem wf_i64 {z : Int} (h : (Lit.int .i64 z).wf = true) : -9223372036854775808 ≤ z ∧ z ≤ 9223372036854775807 := by
  simp only [Lit.wf, Bool.and_eq_true, decide_eq_true_eq] at h
  have e1 : IntKind.min .i64 = -9223372036854775808 := by decide
  have e2 : IntKind.max .i64 = 9223372036854775807 := by decide
  omega
end
end Go.Eng

/- A network that came in as an argument. -/
namespace Go.Proofs.Ytleldppdflgmgaa
open Go.ChangeShapes Go.WideShapes Go.ChangeAt Go.RowKit Go.Eng Go.Nw

section
variable {H : Type} {enc : TypeId × Value → H} {W : World} {spare : Nat → Bool} {held : Bool}
abbrev I64 (z : Int) : Prop := (Lit.int .i64 z).wf = true
theorem op_i : Opn enc Try.prog W spare held 3 numF I64 := op_int Try.underlying3
theorem op_ints : Opn enc Try.prog W spare held 22 (fun s : SlM Int => [s.val]) (SlG W numF I64) := op_slice (q := 1) Try.underlying22 (by kernel_rfl) (by decide) op_i
theorem op_rows : Opn enc Try.prog W spare held 26 (fun s : SlM (SlM Int) => [s.val]) (SlG W (fun s : SlM Int => [s.val]) (SlG W numF I64)) := op_slice (q := 1) Try.underlying26 (by kernel_rfl) (by decide) op_ints
theorem op_link : Opn enc Try.prog W spare held 68 lkF (fun l => I64 l.1 ∧ I64 l.2.1 ∧ I64 l.2.2) :=
  op_map (op_struct (ts := [3, 3, 3]) (by kernel_rfl) (fop_cons op_i (fop_cons op_i (fop_cons op_i fop_nil)))) (fun x => (x.1, x.2.1, x.2.2.1)) (fun _ => rfl) (fun _ h => ⟨h.1, h.2.1, h.2.2.1⟩)
theorem op_links : Opn enc Try.prog W spare held 27 (fun s : SlM Lk => [s.val]) (SlG W lkF fun l => I64 l.1 ∧ I64 l.2.1 ∧ I64 l.2.2) := op_slice (q := 3) Try.underlying27 (by kernel_rfl) (by decide) op_link

structure NetG (W : World) (n : NetM) : Prop where
  nodes : I64 n.nodes
  pw : Old W n.pA (n.rows.flatMap rowF)
  rw_ : ∀ r ∈ n.rows, Old W r.A (r.xs.flatMap numF)
  noise : I64 n.noise
  thr : I64 n.thr
  lk : Old W n.lA (n.links.flatMap lkF)
  mg : Old W n.mA (n.margin.flatMap numF)
  s1 : n.rows.length ≤ 9223372036854775807
  s2 : ∀ r ∈ n.rows, r.xs.length ≤ 9223372036854775807
  s3 : n.links.length ≤ 9223372036854775807
  s4 : n.margin.length ≤ 9223372036854775807
  w1 : ∀ r ∈ n.rows, ∀ z ∈ r.xs, I64 z
  w2 : ∀ l ∈ n.links, I64 l.1 ∧ I64 l.2.1 ∧ I64 l.2.2
  w3 : ∀ z ∈ n.margin, I64 z
  c3 : n.links.length ≤ n.lcap
  c4 : n.margin.length ≤ n.mcap
theorem NetG.In {n : NetM} {K : List HP} (h : NetG W n) : n.In W.heap.size W K := ⟨h.pw.rd, fun r hr => (h.rw_ r hr).rd, h.lk.rd, h.mg.rd, h.s1, h.s2, h.s3, h.s4⟩

def netF (n : NetM) : List Value := [.int .i64 n.nodes, .slice n.pA n.rows.length n.pcap, .int .i64 n.noise, .int .i64 n.thr, .slice n.lA n.links.length n.lcap, .slice n.mA n.margin.length n.mcap]
def rowOf (s : SlM Int) : RowM := ⟨s.A, s.cap, s.xs⟩
theorem flat_rowOf (l : List (SlM Int)) : (l.map rowOf).flatMap rowF = l.flatMap fun s => [s.val] := by rw [List.flatMap_map]; rfl
theorem maxL : maxLen ≤ 9223372036854775807 := by decide
theorem op_net : Opn enc Try.prog W spare held 29 netF (NetG W) :=
  op_map (op_struct (ts := [3, 26, 3, 3, 27, 22]) (by kernel_rfl) (fop_cons op_i (fop_cons op_rows (fop_cons op_i (fop_cons op_i (fop_cons op_links (fop_cons op_ints fop_nil)))))))
    (fun x => ⟨x.1, x.2.1.A, x.2.1.cap, x.2.1.xs.map rowOf, x.2.2.1, x.2.2.2.1, x.2.2.2.2.1.A, x.2.2.2.2.1.cap, x.2.2.2.2.1.xs, x.2.2.2.2.2.1.A, x.2.2.2.2.2.1.cap, x.2.2.2.2.2.1.xs⟩)
    (fun x => by simp [netF, numF, SlM.val])
    (fun x h => by
      obtain ⟨h1, h2, h3, h4, h5, h6, _⟩ := h
      have hm := maxL
      refine ⟨h1, ?_, ?_, h3, h4, h5.old, h6.old, ?_, ?_, Nat.le_trans h5.len hm, Nat.le_trans h6.len hm, ?_, h5.good, h6.good, h5.cap, h6.cap⟩
      · rw [flat_rowOf]; exact h2.old
      · intro r hr
        obtain ⟨s, hs, rfl⟩ := List.mem_map.1 hr
        exact (h2.good s hs).old
      · rw [List.length_map]; exact Nat.le_trans h2.len hm
      · intro r hr
        obtain ⟨s, hs, rfl⟩ := List.mem_map.1 hr
        exact Nat.le_trans (h2.good s hs).len hm
      · intro r hr
        obtain ⟨s, hs, rfl⟩ := List.mem_map.1 hr
        exact (h2.good s hs).good)

set_option maxRecDepth 100000 in
theorem open_net {r : Reach} {b0 : Nat} {v : Value} {d : DataW H} {p : List MemPlace} (hv : Value.okWide Try.prog W r b0 29 v) (h : DataW.Trod enc Try.prog W 0 spare held 29 v d p) : ∃ n : NetM, v = n.val ∧ NetG W n := by
  obtain ⟨cs, rfl, _⟩ := okWide_struct Try.underlying29 hv
  obtain ⟨fuel, hf⟩ := h
  obtain ⟨n, h1, h2⟩ := op_net fuel _ _ hf
  refine ⟨n, ?_, h2⟩
  have : cs = (netF n).toArray := by rw [← h1]; simp [Value.cells]
  rw [this]; rfl
end
end Go.Proofs.Ytleldppdflgmgaa

/- Routes and potentials that came in as arguments. -/
namespace Go.Proofs.Ytleldppdflgmgaa
open Go.ChangeShapes Go.WideShapes Go.ChangeAt Go.RowKit Go.Eng Go.Nw

section
variable {H : Type} {enc : TypeId × Value → H} {W : World} {spare : Nat → Bool} {held : Bool}
/-- A route as it came in. -/
structure RtG (W : World) (r : RowM) : Prop where
  old : Old W r.A (r.xs.flatMap numF)
  len : r.xs.length ≤ 9223372036854775807
  cap : r.xs.length ≤ r.cap
  good : ∀ z ∈ r.xs, I64 z
theorem op_route : Opn enc Try.prog W spare held 23 rowF (RtG W) :=
  op_map (op_slice (q := 1) Try.underlying23 (by kernel_rfl) (by decide) op_i) rowOf (fun _ => rfl) (fun _ h => ⟨h.old, Nat.le_trans h.len maxL, h.cap, h.good⟩)
theorem op_nums : Opn enc Try.prog W spare held 22 rowF (RtG W) :=
  op_map op_ints rowOf (fun _ => rfl) (fun _ h => ⟨h.old, Nat.le_trans h.len maxL, h.cap, h.good⟩)
set_option maxRecDepth 100000 in
theorem open_route {r : Reach} {b0 : Nat} {v : Value} {d : DataW H} {p : List MemPlace} (hv : Value.okWide Try.prog W r b0 23 v) (h : DataW.Trod enc Try.prog W 0 spare held 23 v d p) : ∃ n : RowM, v = .slice n.A n.xs.length n.cap ∧ RtG W n := by
  obtain ⟨A, len, cap, rfl⟩ := okWide_slice Try.underlying23 hv
  obtain ⟨fuel, hf⟩ := h
  obtain ⟨s, h1, h2⟩ := op_route fuel _ _ hf
  refine ⟨s, ?_, h2⟩
  injection h1
def potV (i o : RowM) : Value := .agg #[.slice i.A i.xs.length i.cap, .slice o.A o.xs.length o.cap]
theorem op_pot : Opn enc Try.prog W spare held 40 (fun p : RowM × RowM => rowF p.1 ++ rowF p.2) (fun p => RtG W p.1 ∧ RtG W p.2) :=
  op_map (op_struct (ts := [22, 22]) (by kernel_rfl) (fop_cons op_nums (fop_cons op_nums fop_nil))) (fun x => (x.1, x.2.1)) (fun x => by simp [rowF]) (fun x h => ⟨h.1, h.2.1⟩)
set_option maxRecDepth 100000 in
theorem open_pot {r : Reach} {b0 : Nat} {v : Value} {d : DataW H} {p : List MemPlace} (hv : Value.okWide Try.prog W r b0 40 v) (h : DataW.Trod enc Try.prog W 0 spare held 40 v d p) : ∃ n : RowM × RowM, v = potV n.1 n.2 ∧ (RtG W n.1 ∧ RtG W n.2) := by
  obtain ⟨cs, rfl, _⟩ := okWide_struct Try.underlying40 hv
  obtain ⟨fuel, hf⟩ := h
  obtain ⟨n, h1, h2⟩ := op_pot fuel _ _ hf
  refine ⟨n, ?_, h2⟩
  have h3 : cs.toList = rowF n.1 ++ rowF n.2 := h1
  have : cs = (rowF n.1 ++ rowF n.2).toArray := by rw [← h3]
  rw [this]; rfl
end
end Go.Proofs.Ytleldppdflgmgaa

/- From a walk to a row: a law that returns true and leaves memory below as it was. -/
namespace Go.Proofs.Ytleldppdflgmgaa
open Go.ChangeShapes Go.WideShapes Go.ChangeAt Go.RowKit

section
variable {H : Type} {enc : TypeId × Value → H} {P : Program}

theorem trodAll_keep (hl : laidOutB P = true) {W W' : World} {sp : Nat → Bool} : ∀ {ts : List TypeId} {vs : List Value} {ds : List (DataW H)} {ps : List MemPlace}, (ts.all fun t => P.readableRec t && decide (t < P.types.size)) = true →
    DataW.TrodAll enc P W 0 (fun _ => true) true ts vs ds ps → (∀ p ∈ ps, W.sameAt W' p) → (∀ p ∈ ps, sp p.block = true) → DataW.TrodAll enc P W' 0 sp true ts vs ds ps
  | [], [], [], _, _, h, _, _ => h
  | [], [], _ :: _, _, _, h, _, _ => h.elim
  | [], _ :: _, _, _, _, h, _, _ => h.elim
  | _ :: _, [], _, _, _, h, _, _ => h.elim
  | _ :: _, _ :: _, [], _, _, h, _, _ => h.elim
  | t :: ts, v :: vs, d :: ds, ps, hr, h, hs, hp => by
    obtain ⟨p, q, h1, h2, rfl⟩ := h
    simp only [List.all_cons, Bool.and_eq_true, decide_eq_true_eq] at hr
    exact ⟨p, q, WideElems.Trod_stays hl hr.1.1 hr.1.2 h1 (fun x hx => hs x (by simp [hx])) (fun x hx => hp x (by simp [hx])), trodAll_keep hl hr.2 h2 (fun x hx => hs x (by simp [hx])) (fun x hx => hp x (by simp [hx])), rfl⟩

/-- The call returned true, and below the heap's old end nothing is changed: what the row asks. -/
theorem post_true {f : Func} {s : ChangeSpec} {apart fresh handsOn again : Bool} {W W' : World} {args : Array Value} {ds gs : List (DataW H)} {before : List MemPlace} {tb : TypeId} (hl : laidOutB P = true)
    (hrd : (f.params.toList.all fun t => P.readableRec t && decide (t < P.types.size)) = true) (hv : s.vars = []) (hrt : f.resultTypes = #[tb]) (htb : P.underlying tb = some .bool)
    (hW : DataW.Whole enc P f.params.toList s.vars apart W args.toList ds gs before) (hb : Below W.heap.size W W')
    (hres : (s.fn H (ds ++ gs)).results = [.lit (.bool true)]) (hargs : (s.fn H (ds ++ gs)).args = ds) (hvars : (s.fn H (ds ++ gs)).vars = []) :
    s.post enc P f apart fresh handsOn again W args (.bool true) W' := by
  have hlt : ∀ p ∈ before, p.block < W.heap.size := fun p hp => hW.lt p hp
  have hW0 := hW
  obtain ⟨p, q, hA, hV, rfl, hz, hn⟩ := hW
  rw [hv] at hV
  have hq : gs = [] ∧ q = [] := by
    cases gs with
    | nil => exact ⟨rfl, hV⟩
    | cons _ _ => exact hV.elim
  obtain ⟨rfl, rfl⟩ := hq
  have hkeep : ∀ sp : Nat → Bool, (∀ x ∈ p ++ [], sp x.block = true) → DataW.TrodAll enc P W' 0 sp true f.params.toList args.toList ds p := fun sp hsp =>
    trodAll_keep hl hrd hA (fun x hx => hb.same (hlt x (by simpa using hx))) (fun x hx => hsp x (by simpa using hx))
  have hR : ∀ (b : Nat) (sp : Nat → Bool) (hd : Bool), DataW.TrodAll enc P W' b sp hd f.resultTypes.toList ((Value.bool true).resultList f.resultTypes.size) (s.fn H (ds ++ [])).results [] := by
    intro b sp hd
    rw [hres, hrt]
    exact trodAll_mk1 (shut_bool htb true)
  have hok := ok_one (P := P) (W' := W') (f := f) (v := .bool true) hrt rfl (okWide_bool_mk htb true)
  have hold : ∀ x ∈ p ++ [], (fun b => decide (b < W.heap.size)) x.block = true := fun x hx => by simpa using hlt x hx
  refine ⟨ds, [], p ++ [], [], p, [], hW0, hR _ _ _, by rw [hargs]; exact hkeep _ hold, by rw [hvars, hv]; rfl, World.keptBut_mono (fun x hx => ⟨hx, Or.inr (by simpa using hx)⟩) (hb.frame (· ∈ p ++ [])), fun _ => ?_⟩
  refine ⟨hok, _, _, ([] ++ p) ++ [], ⟨[] ++ p, [], trodAll_append (hkeep _ (fun _ _ => rfl)) (hR _ _ _), (show DataW.TrodVars enc P W' (fun _ => true) s.vars [] [] by rw [hv]; rfl), rfl, ?_, ?_⟩, ?_⟩
  · intro b off hp
    have hin : MemPlace.cell b off ∈ p ++ [] := by simpa using hp
    rw [hb.frozen (hlt _ hin)]
    exact hz b off hin
  · intro ha
    simpa using hn ha
  · intro x hx _
    simpa using hx
end
end Go.Proofs.Ytleldppdflgmgaa

/- From a walk to a row: more arguments; bounds of numbers. -/
namespace Go.Proofs.Ytleldppdflgmgaa
open Go.ChangeShapes Go.WideShapes Go.ChangeAt Go.RowKit
section
variable {H : Type} {enc : TypeId × Value → H} {P : Program} {w : World} {base : Nat} {spare : Nat → Bool} {held : Bool}
theorem trodAll_five {t t1 t2 t3 t4 : TypeId} {args : Array Value} {ds : List (DataW H)} {ps : List MemPlace} (h : DataW.TrodAll enc P w base spare held [t, t1, t2, t3, t4] args.toList ds ps) :
    ∃ v v1 v2 v3 v4 d d1 d2 d3 d4 p p1 p2 p3 p4, args = #[v, v1, v2, v3, v4] ∧ ds = [d, d1, d2, d3, d4] ∧ ps = p ++ p1 ++ p2 ++ p3 ++ p4 ∧ DataW.Trod enc P w base spare held t v d p ∧ DataW.Trod enc P w base spare held t1 v1 d1 p1 ∧ DataW.Trod enc P w base spare held t2 v2 d2 p2 ∧ DataW.Trod enc P w base spare held t3 v3 d3 p3 ∧ DataW.Trod enc P w base spare held t4 v4 d4 p4 := by
  obtain ⟨v, vs, d, ds', p, q, hargs, rfl, rfl, hd, hrest⟩ := trodAll_cons h
  obtain ⟨v1, vs1, d1, ds1, p1, q1, rfl, rfl, rfl, hd1, hrest1⟩ := trodAll_cons hrest
  obtain ⟨v2, vs2, d2, ds2, p2, q2, rfl, rfl, rfl, hd2, hrest2⟩ := trodAll_cons hrest1
  obtain ⟨v3, vs3, d3, ds3, p3, q3, rfl, rfl, rfl, hd3, hrest3⟩ := trodAll_cons hrest2
  obtain ⟨v4, vs4, d4, ds4, p4, q4, rfl, rfl, rfl, hd4, hrest4⟩ := trodAll_cons hrest3
  obtain ⟨rfl, rfl, rfl⟩ := trodAll_nil hrest4
  exact ⟨v, v1, v2, v3, v4, d, d1, d2, d3, d4, p, p1, p2, p3, p4, by cases args; simp_all, rfl, by simp, hd, hd1, hd2, hd3, hd4⟩
end
theorem wf_u32 {z : Int} (h : (Lit.int .u32 z).wf = true) : 0 ≤ z ∧ z ≤ 4294967295 := by
  simp only [Lit.wf, Bool.and_eq_true, decide_eq_true_eq] at h
  have e1 : IntKind.min .u32 = 0 := by decide
  have e2 : IntKind.max .u32 = 4294967295 := by decide
  omega
theorem wf_u8 {z : Int} (h : (Lit.int .u8 z).wf = true) : 0 ≤ z ∧ z ≤ 255 := by
  simp only [Lit.wf, Bool.and_eq_true, decide_eq_true_eq] at h
  have e1 : IntKind.min .u8 = 0 := by decide
  have e2 : IntKind.max .u8 = 255 := by decide
  omega
end Go.Proofs.Ytleldppdflgmgaa

/- The law RouteBelow returns true at every input, and its arguments read behind the call as they read before: the statement Rows.RouteBelowSaid. No condition. -/
namespace Go.Proofs.Ytleldppdflgmgaa
open Go.ChangeShapes Go.WideShapes Go.ChangeAt Go.RowKit Go.Eng
open Go.ChangeMaps (open_string)

theorem Try.own : ownKnob Try.prog.godebug = none := by kernel_rfl
theorem Try.laidOut : laidOutB Try.prog = true := by kernel_rfl

set_option maxRecDepth 100000 in
theorem rbelow_lifted (os : Os) (started : os.Started) (H : Type) (enc : TypeId × Value → H) :
    ReturnsInHanded {} Try.checked os 7 .any (Rows.routeBelowSpec.pre6 enc Try.prog Try.f7 Rows.routeBelowRow.domain false) (Rows.routeBelowSpec.post enc Try.prog Try.f7 false true false false) := by
  refine returnsInHanded_of_change (C := Try.checked) Try.own started (by kernel_rfl) Try.func7
    (ChangeSpec.witness6 (enc := enc) (C := Try.checked) false ⟨#[], #[.agg #[.int .i64 0, .slice none 0 0, .int .i64 0, .int .i64 0, .slice none 0 0, .slice none 0 0], .slice none 0 0, .slice none 0 0, .agg #[.slice none 0 0, .slice none 0 0]], []⟩ 8 (by kernel_rfl) (by kernel_rfl) (by kernel_rfl) (by kernel_rfl)) ?_
  intro W base args ds gs before hval0 hW hcnd _
  have hval : ∀ (j : Nat) t v, Try.f7.params[j]? = some t → args[j]? = some v → Value.okWide Try.prog W .any base t v := hval0
  have hW' : DataW.Whole enc Try.prog Try.f7.params.toList Rows.routeBelowSpec.vars false W args.toList ds gs before := hW
  obtain ⟨p, q, hA0, hV, rfl, hfz, hnd⟩ := hW
  have hA : DataW.TrodAll enc Try.prog W 0 (fun _ => true) true Try.f7.params.toList args.toList ds p := hA0
  obtain ⟨rfl, rfl⟩ := trodVars_none hV
  rw [Try.params7] at hA hval
  obtain ⟨v0, v1, v2, v3, d0, d1, d2, d3, p0, p1, p2, p3, rfl, rfl, rfl, h0, h1, h2, h3⟩ := trodAll_four hA
  obtain ⟨n, rfl, hn⟩ := open_net (hval 0 _ v0 rfl rfl) h0
  obtain ⟨a, rfl, ha⟩ := open_route (hval 1 _ v1 rfl rfl) h1
  obtain ⟨b, rfl, hb⟩ := open_route (hval 2 _ v2 rfl rfl) h2
  obtain ⟨p, rfl, hp⟩ := open_pot (hval 3 _ v3 rfl rfl) h3
  refine (law_below n a.xs b.xs p.1.xs p.2.xs ha.len hb.len hp.1.len hp.2.len ha.cap hb.cap hn.In ha.old.rd hb.old.rd hp.1.old.rd hp.2.old.rd (St.start W)).mono ?_
  rintro e' W' ⟨v, K, rfl, hst, rfl, -⟩
  exact ⟨_, rfl, post_true Try.laidOut (by kernel_rfl) rfl rfl Try.underlying4 hW' hst.below rfl rfl rfl⟩

theorem rbelow_holds : Rows.RouteBelowSaid :=
  OpenClaim.holds_of_wide 7 Try.f7 rfl rfl rfl rfl rfl rfl rfl ⟨rfl, rfl, rfl, rfl, rfl⟩ rfl rfl rfl rfl rfl (by kernel_rfl) Try.func7 (by kernel_rfl)
    (of_decide_eq_true (by kernel_rfl)) (by unfold Func.isWrapper; first | (rw [if_pos (by decide +kernel)]; kernel_rfl) | (rw [if_neg (by decide +kernel)]; exact ⟨rfl, rfl⟩))
    (fun os started H enc _ => rbelow_lifted os started H enc)
end Go.Proofs.Ytleldppdflgmgaa
