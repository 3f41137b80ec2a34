/- The law RouteShortest returns true at every input, and its arguments read behind the call as they read before: the statement Rows.RouteShortestSaid. No condition. -/
import Derived.Deep.Slices
import Derived.Lib.SmallJoins
import Derived.OpenShut
import Derived.ProofKit
import Derived.Below
import Derived.ChangeSame
import Derived.Carry
import Derived.Test.YtleldppdflgmgaaRows
import Derived.Test.YtleldppdflgmgaaQ5

/- Walk: awake. -/
namespace Go.Proofs.Ytleldppdflgmgaa
open Go.RowKit Go.Eng Go.Nw Go.Rt

set_option maxRecDepth 10000 in
set_option maxHeartbeats 2000000 in
theorem awakeR_spec {B : Nat} {w0 : World} {H : List HP} {w : World} (hw : St B w0 H w) :
    Calls Try.prog 10 [].toArray w (Post B w0 fun v K => v = .bool true ∧ K = H) := by
  refine Calls_of_VC Try.func10 Try.ntmps10 rfl rfl hw ?_
  repeat' (first | apply (zs2 ?_) | apply (zs65 ?_) | apply (zs68 ?_) | apply (zs69 ?_) | apply (zs70 ?_) | fail)
  apply VL_call _ en30
  (repeat (first | exact args_nil | (apply args_cons; exact rfl)))
  exact rfl
  exact fun _ hw => (exampleR_spec (hw))
  rintro _ K ⟨n, rfl, hN, hin, hK⟩
  have hsh := fun {H : List HP} {w : World} (hin : n.In B w0 H) (hw : St B w0 H w) => shortest_spec n 0 3 hin hw
  rw [hN, ex_short] at hsh
  have hpa := fun {H : List HP} {w : World} (hin : n.In B w0 H) (hw : St B w0 H w) => Pair_spec n 0 3 30 _ (by omega) (by rw [hN]; exact ex_pair) hin hw
  have hpr := fun {H : List HP} {w : World} (hin : n.In B w0 H) (hw : St B w0 H w) => prove_spec n 0 3 30 _ (by omega) (by rw [hN]; exact ex_prove) hin hw
  have hb1 := fun {A1 A2 : Option Addr} {c1 c2 : Nat} {H : List HP} {w : World} (hin : n.In B w0 H) (h1 : Rd B w0 H A1 (([0, 1, 1, 3] : List Int).flatMap numF)) (h2 : Rd B w0 H A2 (([0, 1, 1, 2] : List Int).flatMap numF)) (hw : St B w0 H w) => bound_spec n 0 3 [0, 1, 1, 3] [0, 1, 1, 2] (c1 := c1) (c2 := c2) (by simp) (by simp) hin h1 h2 hw
  rw [hN, ex_bound1] at hb1
  have hb2 := fun {A1 A2 : Option Addr} {c1 c2 : Nat} {H : List HP} {w : World} (hin : n.In B w0 H) (h1 : Rd B w0 H A1 (([3, 2, 2, 3] : List Int).flatMap numF)) (h2 : Rd B w0 H A2 (([0, 2, 2, 3] : List Int).flatMap numF)) (hw : St B w0 H w) => bound_spec n 0 3 [3, 2, 2, 3] [0, 2, 2, 3] (c1 := c1) (c2 := c2) (by simp) (by simp) hin h1 h2 hw
  rw [hN, ex_bound2] at hb2
  dsimp only at hsh hpa hpr hb1 hb2
  clear hN
  repeat' (first | (apply zg3; refine zs8 ?_) | (apply zg22; refine zs51 ?_) | (apply zg24; (refine zs54 ?_; intro _)) | apply (zs65 ?_) | apply (zs68 ?_) | apply (zs69 ?_) | apply (zs70 ?_) | fail)
  apply VL_call _ en14
  (repeat (first | exact args_nil | (apply args_cons; exact rfl)))
  exact rfl
  exact fun _ hw => (hsh hin.cons (hw))
  rintro _ _ ⟨Ar, cr, rfl, _, _, rfl⟩
  repeat' (first | apply (zs1 ?_) | apply (zs2 ?_) | (apply zg3; refine zs8 ?_) | apply (zs13 ?_) | apply (zs65 ?_) | apply (zs68 ?_) | apply (zs69 ?_) | apply (zs70 ?_) | fail)
  apply VL_call _ en17
  (repeat (first | exact args_nil | (apply args_cons; exact rfl)))
  exact rfl
  exact fun _ hw => (hpa hin.cons.cons (hw))
  rintro _ _ ⟨gL, A1, c1, A2, c2, rfl, _, _, rfl⟩
  repeat' (first | apply (zs1 ?_) | apply (zs2 ?_) | (apply zg3; refine zs8 ?_) | apply (zs13 ?_) | (apply zg25; refine zs55 ?_) | (apply zg26; (refine zs56 ?_; intro _)) | apply (zs65 ?_) | apply (zs68 ?_) | apply (zs69 ?_) | apply (zs70 ?_) | fail)
  rename_i g25 g26
  apply VL_call _ en20
  (repeat (first | exact args_nil | (apply args_cons; exact rfl)))
  exact rfl
  exact fun _ hw => (hb1 (A1 := some ⟨g25, 0, none⟩) (A2 := some ⟨g26, 0, none⟩) (c1 := 4) (c2 := 4) hin.cons.cons.cons.cons.cons.cons.cons (Rd.blk (cs := #[.int .i64 0, .int .i64 1, .int .i64 1, .int .i64 3]) (by (focus repeat (first | with_reducible exact List.mem_cons_self | with_reducible apply List.mem_cons_of_mem | assumption)))) (Rd.blk (cs := #[.int .i64 0, .int .i64 1, .int .i64 1, .int .i64 2]) (by (focus repeat (first | with_reducible exact List.mem_cons_self | with_reducible apply List.mem_cons_of_mem | assumption)))) (hw))
  rintro _ _ ⟨rfl, rfl⟩
  repeat' (first | apply (zs1 ?_) | apply (zs2 ?_) | (apply zg3; refine zs8 ?_) | apply (zs13 ?_) | apply (zs65 ?_) | apply (zs68 ?_) | apply (zs69 ?_) | apply (zs70 ?_) | fail)
  apply VL_call _ en26
  (repeat (first | exact args_nil | (apply args_cons; exact rfl)))
  exact rfl
  exact fun _ hw => (hpr hin.cons.cons.cons.cons.cons.cons.cons (hw))
  rintro _ _ ⟨A3, c3, A4, c4, rfl, _, rfl⟩
  repeat' (first | apply (zs1 ?_) | apply (zs2 ?_) | (apply zg3; refine zs8 ?_) | apply (zs13 ?_) | (apply zg22; refine zs51 ?_) | (apply zg24; (refine zs54 ?_; intro _)) | apply (zs65 ?_) | apply (zs68 ?_) | apply (zs69 ?_) | apply (zs70 ?_) | fail)
  apply VL_call _ en20
  (repeat (first | exact args_nil | (apply args_cons; exact rfl)))
  exact rfl
  exact fun _ hw => (hb2 (A1 := A3) (A2 := A4) (c1 := c3) (c2 := c4) hin.cons.cons.cons.cons.cons.cons.cons.cons.cons.cons (.sl (by (focus repeat (first | with_reducible exact List.mem_cons_self | with_reducible apply List.mem_cons_of_mem | assumption)))) (.sl (by (focus repeat (first | with_reducible exact List.mem_cons_self | with_reducible apply List.mem_cons_of_mem | assumption)))) (hw))
  rintro _ _ ⟨rfl, rfl⟩
  repeat' (first | apply (zs1 ?_) | apply (zs2 ?_) | apply (zs13 ?_) | apply (zs65 ?_) | apply (zs68 ?_) | apply (zs69 ?_) | fail)
  refine VC_st (sl 23 1 (some ⟨gL, 0, none⟩) 2 2 ([(⟨A1, c1, [0, 1, 3]⟩ : RowM), ⟨A2, c2, [0, 2, 3]⟩].flatMap rowF) :: ints A1 c1 [0, 1, 3] :: ints A2 c2 [0, 2, 3] :: ints Ar cr [0, 1, 3] :: K) (by (intro w hw; refine hw.perm ?_; focus repeat (first | exact Perm.refl _ | (apply perm_take; focus ((repeat (first | exact rem_here | apply rem_there)); done)) | apply Perm.dropK))) ?_
  refine VC_sub [(2, .slice Ar 3 cr), (3, .int .i64 0), (4, .slice (some ⟨gL, 0, none⟩) 2 2), (5, .int .i64 0), (6, .int .i64 4), (7, .int .i64 0), (9, .int .i64 0), (10, .int .i64 5), (11, .int .i64 0)] ?_ ?_
  · (repeat (first | exact sub_nil _ | (apply sub_cons; first | exact rfl | exact congrArg (fun z : Int => some (Value.int .i64 z)) (by omega))))
  have hx0 : [(⟨A1, c1, [0, 1, 3]⟩ : RowM), ⟨A2, c2, [0, 2, 3]⟩][(0 : Int).toNat]? = some ⟨A1, c1, [0, 1, 3]⟩ := rfl
  have hx1 : [(⟨A1, c1, [0, 1, 3]⟩ : RowM), ⟨A2, c2, [0, 2, 3]⟩][(1 : Int).toNat]? = some ⟨A2, c2, [0, 2, 3]⟩ := rfl
  have heq := fun {g : Nat} {H : List HP} {w : World} (h1 : Rd B w0 H Ar (([0, 1, 3] : List Int).flatMap numF)) (h2 : blk g (.cells #[.int .i64 0, .int .i64 1, .int .i64 3] 3 (0, 0)) ∈ H) (hw : St B w0 H w) => equal_route [0, 1, 3] [0, 1, 3] (by simp) (by simp) (cap := cr) (cap2 := 3) h1 (Rd.blk h2) hw
  rw [decide_eq_true (rfl : ([0, 1, 3] : List Int) = [0, 1, 3])] at heq
  have hdj := fun {H : List HP} {w : World} (h1 : Rd B w0 H A1 (([0, 1, 3] : List Int).flatMap numF)) (h2 : Rd B w0 H A2 (([0, 2, 3] : List Int).flatMap numF)) (hw : St B w0 H w) => disjoint_spec [0, 1, 3] [0, 2, 3] (by simp) (by simp) (c1 := c1) (c2 := c2) h1 h2 hw
  rw [ex_disj] at hdj
  have hsm := fun {g g5 g6 : Nat} {H : List HP} {w : World} (hl : sl 23 1 (some ⟨gL, 0, none⟩) 2 2 ([(⟨A1, c1, [0, 1, 3]⟩ : RowM), ⟨A2, c2, [0, 2, 3]⟩].flatMap rowF) ∈ H) (h1 : Rd B w0 H A1 (([0, 1, 3] : List Int).flatMap numF)) (h2 : Rd B w0 H A2 (([0, 2, 3] : List Int).flatMap numF)) (h3 : blk g (.cells #[.slice (some ⟨g5, 0, none⟩) 3 3, .slice (some ⟨g6, 0, none⟩) 3 3] 23 (0, 0)) ∈ H) (h4 : blk g5 (.cells #[.int .i64 0, .int .i64 1, .int .i64 3] 3 (0, 0)) ∈ H) (h5 : blk g6 (.cells #[.int .i64 0, .int .i64 2, .int .i64 3] 3 (0, 0)) ∈ H) (hw : St B w0 H w) => calls_val (congrArg Value.bool (decide_eq_true rfl)) (fun _ hw => sameRoutes_spec [⟨A1, c1, [0, 1, 3]⟩, ⟨A2, c2, [0, 2, 3]⟩] [⟨some ⟨g5, 0, none⟩, 3, [0, 1, 3]⟩, ⟨some ⟨g6, 0, none⟩, 3, [0, 2, 3]⟩] (cap := 2) (cap2 := 2) (A := some ⟨gL, 0, none⟩) (A2 := some ⟨g, 0, none⟩) (by simp) (by simp) (by simp) (by simp) (.sl hl) (Rd.blk h3) (fun r hr => by
    simp only [List.mem_cons, List.not_mem_nil, or_false] at hr
    rcases hr with rfl | rfl
    · exact h1
    · exact h2) (fun r hr => by
    simp only [List.mem_cons, List.not_mem_nil, or_false] at hr
    rcases hr with rfl | rfl
    · exact Rd.blk h4
    · exact Rd.blk h5) hw) hw
  apply VC_tree (.n1 0 (.n1 1 (.n1 2 (.n1 3 (.n1 4 (.n1 5 (.n1 6 (.n1 7 (.n1 8 (.n1 9 (.n1 10 (.n1 11 (.n1 12 (.n2 13 (.n1 14 (.n1 15 (.n1 16 (.n1 17 (.n1 18 (.n1 19 (.n1 20 (.n1 21 (.n1 22 (.n1 23 (.n1 24 (.n1 25 (.n1 26 (.n1 27 (.n1 28 (.n1 29 (.n1 30 (.n1 31 (.n1 32 (.n1 33 (.n1 34 (.n1 35 (.n1 36 (.n1 37 (.n1 38 (.n1 39 (.n1 40 (.n1 41 (.n1 42 (.n1 43 (.n1 44 (.n1 45 (.n1 46 (.n1 47 .done)))))))))))))))))))))))))))))))))) 14 (.n1 13 (.n1 15 (.n1 16 (.n1 17 (.n1 18 (.n1 19 (.n1 20 (.n1 21 (.n1 22 (.n1 23 (.n1 24 (.n1 25 (.n1 26 (.n1 27 (.n1 28 (.n1 29 (.n1 30 (.n1 31 (.n1 32 (.n1 33 (.n1 34 (.n1 35 (.n1 36 (.n1 37 (.n1 38 (.n1 39 (.n1 40 (.n1 41 (.n1 42 (.n1 43 (.n1 44 (.n1 45 (.n1 46 (.n1 47 .done)))))))))))))))))))))))))))))))))))))))))))))))) [] [true, true, true, true]
  kernel_rfl
  kernel_rfl
  (repeat (first | with_reducible exact split_nil | with_reducible apply split_t | with_reducible apply split_f))
  exact rfl
  repeat' (first | apply (zs1 ?_) | (apply zg1; refine zs4 ?_) | (apply zg7; (refine zs15 ?_ ?_ <;> intro _ <;> try (exfalso; omega))) | (apply zg26; (refine zs56 ?_; intro _)) | apply (zs65 ?_) | (apply VL_nilh; (repeat (first | with_reducible exact app_nil | with_reducible apply app_cons))) | apply (zs87 ?_) | (apply VQ_heldq; (repeat (first | with_reducible exact pull_nil | (with_reducible apply pull_cons; (repeat (first | with_reducible exact rem_here | with_reducible apply rem_there)))))) | apply (zs90 ?_) | (apply VQ_treeq; (repeat (first | with_reducible exact pull_nil | (with_reducible apply pull_cons; (repeat (first | with_reducible exact rem_here | with_reducible apply rem_there)))))) | fail)
  · skip
    first | apply VL_callt en16 | apply VL_callq en16
    (repeat (first | exact args_nil | (apply args_cons; exact rfl)))
    exact rfl
    exact fun _ hw => (heq (.sl (by (focus repeat (first | with_reducible exact List.mem_cons_self | with_reducible apply List.mem_cons_of_mem | assumption)))) (by (focus repeat (first | with_reducible exact List.mem_cons_self | with_reducible apply List.mem_cons_of_mem | assumption))) hw)
    repeat' (first | apply (zs1 ?_) | (apply zg1; refine zs4 ?_) | (apply zg6; refine zs11 ?_) | (apply zg7; (refine zs15 ?_ ?_ <;> intro _ <;> try (exfalso; omega))) | (apply zg26; (refine zs56 ?_; intro _)) | apply (zs65 ?_) | (apply VL_nilh; (repeat (first | with_reducible exact app_nil | with_reducible apply app_cons))) | apply (zs87 ?_) | (apply VQ_heldq; (repeat (first | with_reducible exact pull_nil | (with_reducible apply pull_cons; (repeat (first | with_reducible exact rem_here | with_reducible apply rem_there)))))) | apply (zs90 ?_) | apply (zs91 ?_ ?_) | (apply VQ_treeq; (repeat (first | with_reducible exact pull_nil | (with_reducible apply pull_cons; (repeat (first | with_reducible exact rem_here | with_reducible apply rem_there)))))) | fail)
    all_goals (
      first | apply VL_callt en19 | apply VL_callq en19
      (repeat (first | exact args_nil | (apply args_cons; exact rfl)))
      exact rfl
      exact fun _ hw => (hsm (by (focus repeat (first | with_reducible exact List.mem_cons_self | with_reducible apply List.mem_cons_of_mem | assumption))) (.sl (by (focus repeat (first | with_reducible exact List.mem_cons_self | with_reducible apply List.mem_cons_of_mem | assumption)))) (.sl (by (focus repeat (first | with_reducible exact List.mem_cons_self | with_reducible apply List.mem_cons_of_mem | assumption)))) (by (focus repeat (first | with_reducible exact List.mem_cons_self | with_reducible apply List.mem_cons_of_mem | assumption))) (by (focus repeat (first | with_reducible exact List.mem_cons_self | with_reducible apply List.mem_cons_of_mem | assumption))) (by (focus repeat (first | with_reducible exact List.mem_cons_self | with_reducible apply List.mem_cons_of_mem | assumption))) hw)
      repeat' (first | (apply VL_index_rd T (f := rowF) (l := [(⟨A1, c1, [0, 1, 3]⟩ : RowM), ⟨A2, c2, [0, 2, 3]⟩]); exact rfl; exact rfl; exact .sl (by (focus repeat (first | with_reducible exact List.mem_cons_self | with_reducible apply List.mem_cons_of_mem | assumption))); exact rfl; exact fun _ => rfl; exact rfl; exact rfl; (simp only [List.length_cons, List.length_nil]; omega)) | (apply VL_load_rd0 T (f := rowF) (l := [(⟨A1, c1, [0, 1, 3]⟩ : RowM), ⟨A2, c2, [0, 2, 3]⟩]); exact rfl; exact .sl (by (focus repeat (first | with_reducible exact List.mem_cons_self | with_reducible apply List.mem_cons_of_mem | assumption))); (first | exact hx0 | exact hx1); exact fun _ => rfl; exact rfl; exact rfl; exact rfl; exact rfl) | apply (zs1 ?_) | (apply zg1; refine zs4 ?_) | (apply zg6; refine zs11 ?_) | (apply zg7; (refine zs15 ?_ ?_ <;> intro _ <;> try (exfalso; omega))) | apply (zs65 ?_) | (apply VL_nilh; (repeat (first | with_reducible exact app_nil | with_reducible apply app_cons))) | apply (zs87 ?_) | (apply VQ_heldq; (repeat (first | with_reducible exact pull_nil | (with_reducible apply pull_cons; (repeat (first | with_reducible exact rem_here | with_reducible apply rem_there)))))) | apply (zs90 ?_) | (apply VQ_treeq; (repeat (first | with_reducible exact pull_nil | (with_reducible apply pull_cons; (repeat (first | with_reducible exact rem_here | with_reducible apply rem_there)))))) | fail)
      first | apply VL_callt en11 | apply VL_callq en11
      (repeat (first | exact args_nil | (apply args_cons; exact rfl)))
      exact rfl
      exact fun _ hw => (hdj (.sl (by (focus repeat (first | with_reducible exact List.mem_cons_self | with_reducible apply List.mem_cons_of_mem | assumption)))) (.sl (by (focus repeat (first | with_reducible exact List.mem_cons_self | with_reducible apply List.mem_cons_of_mem | assumption)))) hw)
      repeat' (first | apply (zs2 ?_) | (apply zg6; refine zs11 ?_) | apply (zs65 ?_) | (apply VL_nilh; (repeat (first | with_reducible exact app_nil | with_reducible apply app_cons))) | apply (zs68 ?_) | apply (zs74 ?_) | (apply VQ_heldq; (repeat (first | with_reducible exact pull_nil | (with_reducible apply pull_cons; (repeat (first | with_reducible exact rem_here | with_reducible apply rem_there)))))) | (apply VT_done; (repeat (first | with_reducible exact app_nil | with_reducible apply app_cons))) | apply (zs90 ?_) | (apply VQ_treeq; (repeat (first | with_reducible exact pull_nil | (with_reducible apply pull_cons; (repeat (first | with_reducible exact rem_here | with_reducible apply rem_there)))))) | apply (zs93 ?_) | apply (zs94 ?_) | fail)
      apply VQ_st H
      · intro w hw
        refine hK w ?_
        revert w
        (intro w hw; refine hw.perm ?_; focus repeat (first | with_reducible exact Perm.refl _ | (with_reducible apply perm_take; focus ((repeat (first | with_reducible exact rem_here | with_reducible apply rem_there)); done)) | with_reducible apply Perm.dropK))
      apply VQ_ret1; exact rfl; exact rfl
      exact ⟨rfl, rfl⟩)
end Go.Proofs.Ytleldppdflgmgaa

/- Walks: the reference's Loss, Sum, Cost, Check; the law RouteChecks. -/
namespace Go.Proofs.Ytleldppdflgmgaa
open Go.RowKit Go.Eng Go.Nw Go.Rt

theorem loss_spec (n : NetM) (a b : Int) (hg : goodE n.net a b = true) {B : Nat} {w0 : World} {H : List HP} {w : World} (hin : n.In B w0 H) (hw : St B w0 H w) :
    Calls Try.prog 59 [n.val, .int .i64 a, .int .i64 b].toArray w (Post B w0 fun v K => v = .int .i64 (lossE n.net a b) ∧ K = H) := by
  refine Calls_of_VC Try.func59 Try.ntmps59 rfl rfl hw ?_
  obtain ⟨hpw, hrw, hlk, hmg, hs1, hs2, hs3, hs4⟩ := id hin
  (apply VC_seq; apply VC_region; apply VL_box_agg; exact rfl; exact rfl; intro g)
  have hf := good_find hg
  have hfl := find_lt hf
  have e7 : n.net.links = n.links := rfl
  rw [e7] at hfl
  have hlx : n.links[(findE n.net a b).toNat]? = some (lnk n.net (findE n.net a b).toNat) := lnk_some n.net hfl
  have hfi := fun {H : List HP} {w : World} (hin : n.In B w0 H) (hw : St B w0 H w) => rfind_spec n a b hin hw
  have hlo : lossE n.net a b = (lnk n.net (findE n.net a b).toNat).2.2 := rfl
  obtain ⟨fi, hfi2⟩ : ∃ x, findE n.net a b = x := ⟨_, rfl⟩
  rw [hfi2] at hfi hlx hf hfl hlo
  obtain ⟨lk, hlk2⟩ : ∃ x, lnk n.net fi.toNat = x := ⟨_, rfl⟩
  rw [hlk2] at hlx hlo
  have hlk3 : Rd B w0 (netB g n :: H) n.lA (n.links.flatMap lkF) := hlk.cons
  rw [hlo]
  repeat' (first | ((first | apply VL_callt en69 | apply VL_callq en69); (repeat (first | exact args_nil | (apply args_cons; exact rfl))); exact rfl; exact fun _ hw => (hfi hin.cons hw)) | apply (zs1 ?_) | apply (zs2 ?_) | (apply zg2; first | refine zs6 ?_ | refine zs58 ?_) | (apply zg3; first | refine zs7 ?_ | refine zs8 ?_ | refine zs59 ?_) | (apply zg5; refine zs57 ?_) | apply (zs65 ?_) | apply (zs66 ?_) | apply (zs68 ?_) | apply (zs69 ?_) | apply (zs74 ?_) | (apply zg28; refine zs84 ?_) | fail)
  (repeat apply VQ_tail); apply VQ_ret1; exact rfl; exact rfl
  exact ⟨rfl, rfl⟩

theorem sum_spec (n : NetM) (r : List Int) {A : Option Addr} {cap B : Nat} {w0 : World} {H : List HP} {w : World} (hin : n.In B w0 H) (hck : checkE n.net = 0) (hbr : brokenE n.net r = false) (hr : Rd B w0 H A (r.flatMap numF)) (hlen : 1 ≤ r.length ∧ r.length ≤ 1000) (hw : St B w0 H w) :
    Calls Try.prog 38 [n.val, .slice A r.length cap].toArray w (Post B w0 fun v K => v = .int .i64 (costE n.net r) ∧ K = H) := by
  have hok := check_ok hck
  refine Calls_of_VC Try.func38 Try.ntmps38 rfl rfl hw ?_
  (apply VC_seq; apply VC_region; apply VL_box_agg; exact rfl; exact rfl; intro g)
  repeat' (first | apply (zs2 ?_) | apply (zs65 ?_) | apply (zs68 ?_) | apply (zs69 ?_) | apply (zs70 ?_) | apply (zs73 ?_) | fail)
  refine VC_loop1 (fun (k : Nat) => [(6, .int .i64 ((k : Int) + 1)), (5, .int .i64 (costTo n.net r k)), (1, .slice A r.length cap), (2, .pointer (some ⟨g, 0, none⟩))]) (fun _ => netB g n :: H) (fun k => k + 1 ≤ r.length) (fun k => r.length - k) 0 hlen.1 ?_ (fun w hw => hw) ?_
  · (repeat (first | exact sub_nil _ | (apply sub_cons; first | exact rfl | exact congrArg (fun z : Int => some (Value.int .i64 z)) (by omega))))
  intro k hk K hK
  have hbd := costTo_bd hok r k
  by_cases hlt : k + 1 < r.length
  · have hgk := getD_get (l := r) (i := k) (by omega)
    have hgk1 := getD_get (l := r) (i := k + 1) (by omega)
    have ei : ((k : Int) + 1 - 1).toNat = k := by omega
    have ei1 : ((k : Int) + 1).toNat = k + 1 := by omega
    have hgood := broken_good hbr hlt
    have hlo := loss_bd hok (r.getD k 0) (r.getD (k + 1) 0)
    have hst : costTo n.net r (k + 1) = costTo n.net r k + (lossE n.net (r.getD k 0) (r.getD (k + 1) 0) + 1) := rfl
    obtain ⟨x, hx⟩ : ∃ x, r.getD k 0 = x := ⟨_, rfl⟩
    obtain ⟨y, hy⟩ : ∃ y, r.getD (k + 1) 0 = y := ⟨_, rfl⟩
    rw [hx] at hgk hgood hlo hst
    rw [hy] at hgk1 hgood hlo hst
    rw [← ei] at hgk
    rw [← ei1] at hgk1
    have hls := fun {H : List HP} {w : World} (hin : n.In B w0 H) (hw : St B w0 H w) => loss_spec n x y hgood hin hw
    obtain ⟨lo, hlo2⟩ : ∃ z, lossE n.net x y = z := ⟨_, rfl⟩
    rw [hlo2] at hlo hst hls
    repeat' (first | ((first | apply VL_callt en59 | apply VL_callq en59); (repeat (first | exact args_nil | (apply args_cons; exact rfl))); exact rfl; exact fun _ hw => (hls hin.cons hw)) | apply (zs1 ?_) | apply (zs2 ?_) | (apply zg3; first | refine zs8 ?_ | refine zs60 ?_) | (apply zg4; refine zs9 ?_) | (apply zg5; refine zs57 ?_) | (apply (zs17 ?_ ?_) <;> intro _ <;> try (exfalso; omega)) | (apply zg13; refine zs30 ?_) | (apply zg14; refine zs31 ?_) | apply (zs65 ?_) | apply (zs66 ?_) | apply (zs68 ?_) | apply (zs69 ?_) | apply (zs70 ?_) | (apply zg27; refine zs71 ?_) | apply (zs73 ?_) | apply (zs76 ?_) | apply (zs79 ?_) | (apply zg28; refine zs84 ?_) | fail)
    apply hK (k + 1)
    · omega
    · omega
    · rw [hst]; (repeat (first | exact sub_nil _ | (apply sub_cons; first | exact rfl | exact congrArg (fun z : Int => some (Value.int .i64 z)) (by omega))))
    · exact fun w hw => hw
  · repeat' (first | apply (zs1 ?_) | apply (zs2 ?_) | (apply zg4; refine zs9 ?_) | (apply (zs17 ?_ ?_) <;> intro _ <;> try (exfalso; omega)) | apply (zs65 ?_) | apply (zs68 ?_) | apply (zs69 ?_) | apply (zs70 ?_) | (apply zg27; refine zs72 ?_) | apply (zs74 ?_) | apply (zs75 ?_) | apply (zs80 ?_) | apply (zs81 ?_) | fail)
    (repeat apply VQ_tail); apply VQ_ret1; exact rfl; exact rfl
    have ek : r.length - 1 = k := by omega
    exact ⟨by unfold costE; rw [ek], rfl⟩

theorem rCost_spec (n : NetM) (r : List Int) {A : Option Addr} {cap B : Nat} {w0 : World} {H : List HP} {w : World} (hin : n.In B w0 H) (hr : Rd B w0 H A (r.flatMap numF)) (hlen : r.length ≤ 1000000000000) (hw : St B w0 H w) :
    Calls Try.prog 23 [n.val, .slice A r.length cap].toArray w (Post B w0 fun v K => v = .tuple #[.int .i64 (CostE n.net r).1, .int .i64 (CostE n.net r).2] ∧ K = H) := by
  refine Calls_of_VC Try.func23 Try.ntmps23 rfl rfl hw ?_
  unfold CostE
  by_cases h0 : checkE n.net = 0
  rotate_left
  · rw [if_pos h0]
    repeat' (first | ((first | apply VL_callt en49 | apply VL_callq en49); (repeat (first | exact args_nil | (apply args_cons; exact rfl))); exact rfl; exact fun _ hw => (rcheck_spec n hin.cons hw)) | apply (zs2 ?_) | (apply zg3; refine zs8 ?_) | (apply zg8; (refine zs16 ?_ ?_ <;> intro _ <;> try (exfalso; omega))) | (apply zg23; (refine zs52 ?_; intro _)) | apply (zs65 ?_) | apply (zs68 ?_) | apply (zs69 ?_) | apply (zs70 ?_) | (apply zg27; refine zs71 ?_) | apply (zs74 ?_) | apply (zs77 ?_) | fail)
    (repeat apply VQ_tail); apply VQ_ret2; exact rfl; exact rfl; exact rfl; exact ⟨rfl, rfl⟩
  rw [if_neg (fun h => h h0)]
  have hck := fun {H : List HP} {w : World} (hin : n.In B w0 H) (hw : St B w0 H w) => rcheck_spec n hin hw
  rw [h0] at hck
  dsimp only
  have hf := fun {H : List HP} {w : World} (s t : Int) (hin : n.In B w0 H) (hr : Rd B w0 H A (r.flatMap numF)) (hw : St B w0 H w) => rfault_spec n s t r (cap := cap) hin h0 hr hlen hw
  by_cases hz : r.length = 0
  · have hf0 : faultE n.net (r.getD 0 0) (r.getD (r.length - 1) 0) r = 9 := by unfold faultE; rw [if_pos (by omega)]
    have hf1 : faultE n.net 0 0 r = 9 := by unfold faultE; rw [if_pos (by omega)]
    have hff := fun {H : List HP} {w : World} (hin : n.In B w0 H) (hr : Rd B w0 H A (r.flatMap numF)) (hw : St B w0 H w) => hf 0 0 hin hr hw
    rw [hf1] at hff
    rw [hf0, if_pos (by decide)]
    repeat' (first | ((first | apply VL_callt en49 | apply VL_callq en49); (repeat (first | exact args_nil | (apply args_cons; exact rfl))); exact rfl; exact fun _ hw => (hck hin.cons hw)) | ((first | apply VL_callt en50 | apply VL_callq en50); (repeat (first | exact args_nil | (apply args_cons; exact rfl))); exact rfl; exact fun _ hw => (hff hin.cons hr.cons hw)) | apply (zs1 ?_) | apply (zs2 ?_) | (apply zg3; refine zs8 ?_) | (apply zg4; refine zs9 ?_) | (apply zg8; (refine zs16 ?_ ?_ <;> intro _ <;> try (exfalso; omega))) | (apply (zs19 ?_ ?_) <;> intro _ <;> try (exfalso; omega)) | (apply zg23; (refine zs52 ?_; intro _)) | apply (zs65 ?_) | apply (zs68 ?_) | apply (zs69 ?_) | apply (zs70 ?_) | (apply zg27; first | refine zs71 ?_ | refine zs72 ?_) | apply (zs74 ?_) | apply (zs76 ?_) | apply (zs77 ?_) | fail)
    (repeat apply VQ_tail); apply VQ_ret2; exact rfl; exact rfl; exact rfl; exact ⟨rfl, rfl⟩
  · have hg0 := getD_get (l := r) (i := 0) (by omega)
    have hg1 := getD_get (l := r) (i := r.length - 1) (by omega)
    have hgi : ((r.length : Int) - 1).toNat = r.length - 1 := by omega
    rw [← hgi] at hg1
    have hff := fun {H : List HP} {w : World} (hin : n.In B w0 H) (hr : Rd B w0 H A (r.flatMap numF)) (hw : St B w0 H w) => hf (r.getD 0 0) (r.getD (r.length - 1) 0) hin hr hw
    obtain ⟨e, he⟩ : ∃ e, faultE n.net (r.getD 0 0) (r.getD (r.length - 1) 0) r = e := ⟨_, rfl⟩
    rw [he] at hff
    rw [he]
    rw [← hgi] at hff
    by_cases hez : e = 0
    · subst hez
      obtain ⟨⟨f1, f2⟩, _, _, _, f3⟩ := fault_ok he
      rw [if_neg (by simp)]
      repeat' (first | ((first | apply VL_callt en49 | apply VL_callq en49); (repeat (first | exact args_nil | (apply args_cons; exact rfl))); exact rfl; exact fun _ hw => (hck hin.cons hw)) | ((first | apply VL_callt en50 | apply VL_callq en50); (repeat (first | exact args_nil | (apply args_cons; exact rfl))); exact rfl; exact fun _ hw => (hff hin.cons hr.cons hw)) | ((first | apply VL_callt en38 | apply VL_callq en38); (repeat (first | exact args_nil | (apply args_cons; exact rfl))); exact rfl; exact fun _ hw => (sum_spec n r hin.cons h0 f3 hr.cons (by omega) hw)) | apply (zs1 ?_) | apply (zs2 ?_) | (apply zg3; first | refine zs8 ?_ | refine zs60 ?_) | (apply zg4; refine zs9 ?_) | (apply zg5; refine zs57 ?_) | (apply zg8; (refine zs16 ?_ ?_ <;> intro _ <;> try (exfalso; omega))) | (apply (zs19 ?_ ?_) <;> intro _ <;> try (exfalso; omega)) | (apply zg14; refine zs31 ?_) | (apply zg23; (refine zs52 ?_; intro _)) | apply (zs65 ?_) | apply (zs66 ?_) | apply (zs68 ?_) | apply (zs69 ?_) | apply (zs70 ?_) | (apply zg27; first | refine zs71 ?_ | refine zs72 ?_) | apply (zs74 ?_) | apply (zs76 ?_) | (apply zg28; refine zs83 ?_) | fail)
      (repeat apply VQ_tail); apply VQ_ret2; exact rfl; exact rfl; exact rfl; exact ⟨rfl, rfl⟩
    · rw [if_pos hez]
      repeat' (first | ((first | apply VL_callt en49 | apply VL_callq en49); (repeat (first | exact args_nil | (apply args_cons; exact rfl))); exact rfl; exact fun _ hw => (hck hin.cons hw)) | ((first | apply VL_callt en50 | apply VL_callq en50); (repeat (first | exact args_nil | (apply args_cons; exact rfl))); exact rfl; exact fun _ hw => (hff hin.cons hr.cons hw)) | apply (zs1 ?_) | apply (zs2 ?_) | (apply zg3; first | refine zs8 ?_ | refine zs60 ?_) | (apply zg4; refine zs9 ?_) | (apply zg5; refine zs57 ?_) | (apply zg8; (refine zs16 ?_ ?_ <;> intro _ <;> try (exfalso; omega))) | (apply (zs19 ?_ ?_) <;> intro _ <;> try (exfalso; omega)) | (apply zg14; refine zs31 ?_) | (apply zg23; (refine zs52 ?_; intro _)) | apply (zs65 ?_) | apply (zs66 ?_) | apply (zs68 ?_) | apply (zs69 ?_) | apply (zs70 ?_) | (apply zg27; first | refine zs71 ?_ | refine zs72 ?_) | apply (zs74 ?_) | apply (zs76 ?_) | apply (zs77 ?_) | (apply zg28; refine zs83 ?_) | fail)
      (repeat apply VQ_tail); apply VQ_ret2; exact rfl; exact rfl; exact rfl; exact ⟨rfl, rfl⟩

theorem rCheck_spec (n : NetM) (s t : Int) (r : List Int) {A : Option Addr} {cap B : Nat} {w0 : World} {H : List HP} {w : World} (hin : n.In B w0 H) (hr : Rd B w0 H A (r.flatMap numF)) (hlen : r.length ≤ 1000000000000) (hw : St B w0 H w) :
    Calls Try.prog 25 [n.val, .int .i64 s, .int .i64 t, .slice A r.length cap].toArray w (Post B w0 fun v K => v = .int .i64 (CheckR n.net s t r) ∧ K = H) := by
  refine Calls_of_VC Try.func25 Try.ntmps25 rfl rfl hw ?_
  unfold CheckR
  by_cases h0 : endsE n.net s t = 0
  · have hck := (ends_ok h0).1
    have hen := fun {H : List HP} {w : World} (hin : n.In B w0 H) (hw : St B w0 H w) => rends_spec n s t hin hw
    rw [h0] at hen
    rw [if_neg (fun h => h h0)]
    repeat' (first | ((first | apply VL_callt en36 | apply VL_callq en36); (repeat (first | exact args_nil | (apply args_cons; exact rfl))); exact rfl; exact fun _ hw => (hen hin.cons hw)) | ((first | apply VL_callt en50 | apply VL_callq en50); (repeat (first | exact args_nil | (apply args_cons; exact rfl))); exact rfl; exact fun _ hw => (rfault_spec n s t r hin.cons hck hr.cons hlen hw)) | apply (zs1 ?_) | apply (zs2 ?_) | (apply zg3; refine zs8 ?_) | (apply zg8; (refine zs16 ?_ ?_ <;> intro _ <;> try (exfalso; omega))) | (apply zg23; (refine zs52 ?_; intro _)) | apply (zs65 ?_) | apply (zs68 ?_) | apply (zs69 ?_) | apply (zs70 ?_) | (apply zg27; refine zs72 ?_) | apply (zs74 ?_) | apply (zs76 ?_) | fail)
    (repeat apply VQ_tail); apply VQ_ret1; exact rfl; exact rfl; exact ⟨rfl, rfl⟩
  · rw [if_pos h0]
    repeat' (first | ((first | apply VL_callt en36 | apply VL_callq en36); (repeat (first | exact args_nil | (apply args_cons; exact rfl))); exact rfl; exact fun _ hw => (rends_spec n s t hin.cons hw)) | apply (zs1 ?_) | apply (zs2 ?_) | (apply zg3; refine zs8 ?_) | (apply zg8; (refine zs16 ?_ ?_ <;> intro _ <;> try (exfalso; omega))) | (apply zg23; (refine zs52 ?_; intro _)) | apply (zs65 ?_) | apply (zs68 ?_) | apply (zs69 ?_) | apply (zs70 ?_) | (apply zg27; refine zs71 ?_) | apply (zs74 ?_) | apply (zs77 ?_) | fail)
    (repeat apply VQ_tail); apply VQ_ret1; exact rfl; exact rfl; exact ⟨rfl, rfl⟩

theorem law_checksR (n : NetM) (s t : Int) (r : List Int) (hrl : r.length ≤ 9223372036854775807) {A : Option Addr} {cap B : Nat} (hcap : r.length ≤ cap) {w0 : World} {H : List HP} {w : World} (hin : n.In B w0 H) (hr : Rd B w0 H A (r.flatMap numF)) (hw : St B w0 H w) :
    Calls Try.prog 8 [n.val, .int .i64 s, .int .i64 t, .slice A r.length cap].toArray w (Post B w0 fun v K => v = .bool true ∧ ∀ w, St B w0 K w → St B w0 H w) := by
  refine Calls_of_VC Try.func8 Try.ntmps8 rfl rfl hw ?_
  (apply VC_seq; apply VC_region; apply VL_box_agg; exact rfl; exact rfl; intro g)
  have hfe := fun {H : List HP} {w : World} (hin : n.In B w0 H) (hw : St B w0 H w) => few_spec n hin hw
  cases hfew : fewE n.net with
  | false =>
    rw [hfew] at hfe
    repeat' (first | ((first | apply VL_callt en10 | apply VL_callq en10); (repeat (first | exact args_nil | (apply args_cons; exact rfl))); exact rfl; exact fun _ hw => (awakeR_spec hw)) | ((first | apply VL_callt en13 | apply VL_callq en13); (repeat (first | exact args_nil | (apply args_cons; exact rfl))); exact rfl; exact fun _ hw => (hfe hin.cons hw)) | apply (zs1 ?_) | apply (zs2 ?_) | (apply zg1; refine zs3 ?_) | (apply zg3; refine zs8 ?_) | (apply zg6; refine zs11 ?_) | (apply zg20; first | refine zs47 ?_ | refine zs48 ?_) | apply (zs65 ?_) | apply (zs68 ?_) | apply (zs69 ?_) | apply (zs70 ?_) | (apply zg27; first | refine zs71 ?_ | refine zs72 ?_) | apply (zs74 ?_) | apply (zs76 ?_) | apply (zs77 ?_) | fail)
    apply VQ_ret1; exact rfl; exact rfl
    exact ⟨rfl, fun w hw => hw.tail⟩
  | true =>
    rw [hfew] at hfe
    by_cases hbig : 12 < r.length
    · skip
      repeat' (first | ((first | apply VL_callt en10 | apply VL_callq en10); (repeat (first | exact args_nil | (apply args_cons; exact rfl))); exact rfl; exact fun _ hw => (awakeR_spec hw)) | ((first | apply VL_callt en13 | apply VL_callq en13); (repeat (first | exact args_nil | (apply args_cons; exact rfl))); exact rfl; exact fun _ hw => (hfe hin.cons hw)) | apply (zs1 ?_) | apply (zs2 ?_) | (apply zg1; refine zs4 ?_) | (apply zg3; refine zs8 ?_) | (apply zg4; refine zs9 ?_) | (apply zg6; refine zs12 ?_) | (apply (zs19 ?_ ?_) <;> intro _ <;> try (exfalso; omega)) | (apply zg20; refine zs47 ?_) | apply (zs65 ?_) | apply (zs68 ?_) | apply (zs69 ?_) | apply (zs70 ?_) | (apply zg27; first | refine zs71 ?_ | refine zs72 ?_) | apply (zs74 ?_) | apply (zs76 ?_) | apply (zs77 ?_) | fail)
      apply VQ_ret1; exact rfl; exact rfl
      exact ⟨rfl, fun w hw => hw.tail⟩
    · skip
      repeat' (first | ((first | apply VL_callt en10 | apply VL_callq en10); (repeat (first | exact args_nil | (apply args_cons; exact rfl))); exact rfl; exact fun _ hw => (awakeR_spec hw)) | ((first | apply VL_callt en13 | apply VL_callq en13); (repeat (first | exact args_nil | (apply args_cons; exact rfl))); exact rfl; exact fun _ hw => (hfe hin.cons hw)) | ((first | apply VL_callt en22 | apply VL_callq en22); (repeat (first | exact args_nil | (apply args_cons; exact rfl))); exact rfl; exact fun _ hw => (Cost_spec n r hin.cons hr.cons hrl hcap hw)) | ((first | apply VL_callt en23 | apply VL_callq en23); (repeat (first | exact args_nil | (apply args_cons; exact rfl))); exact rfl; exact fun _ hw => (rCost_spec n r hin.cons hr.cons (by omega) hw)) | ((first | apply VL_callt en24 | apply VL_callq en24); (repeat (first | exact args_nil | (apply args_cons; exact rfl))); exact rfl; exact fun _ hw => (Check_spec n s t r hin.cons hr.cons hrl hcap hw)) | ((first | apply VL_callt en25 | apply VL_callq en25); (repeat (first | exact args_nil | (apply args_cons; exact rfl))); exact rfl; exact fun _ hw => (rCheck_spec n s t r hin.cons hr.cons (by omega) hw)) | apply (zs1 ?_) | apply (zs2 ?_) | (apply zg1; refine zs4 ?_) | (apply zg3; refine zs8 ?_) | (apply zg4; refine zs9 ?_) | (apply zg6; first | refine zs11 ?_ | refine zs12 ?_) | apply (zs13 ?_) | (apply zg7; (refine zs15 ?_ ?_ <;> intro _ <;> try (exfalso; omega))) | (apply (zs19 ?_ ?_) <;> intro _ <;> try (exfalso; omega)) | (apply zg20; refine zs47 ?_) | apply (zs65 ?_) | apply (zs66 ?_) | apply (zs68 ?_) | apply (zs69 ?_) | apply (zs70 ?_) | (apply zg27; refine zs72 ?_) | apply (zs74 ?_) | apply (zs76 ?_) | (apply zg28; refine zs84 ?_) | fail)
      all_goals (
        apply VQ_ret1; exact rfl; exact rfl
        exact ⟨rfl, fun w hw => hw.tail⟩)
end Go.Proofs.Ytleldppdflgmgaa

/- Walks: the reference's Shortest; the law RouteShortest. -/
namespace Go.Proofs.Ytleldppdflgmgaa
open Go.RowKit Go.Eng Go.Nw Go.Rt

/-! ### Arcs of a network -/
def dearW (n : Net) (u v : Int) : Int := (lossE n u v + 1) * 33 + 1
theorem mem_arcsE {n : Net} (h : Ok n) {u v c : Int} : (u, v, c) ∈ arcsE n ↔ goodE n u v = true ∧ c = lossE n u v + 1 := by
  unfold arcsE
  rw [mem_arcs]
  constructor
  · rintro ⟨i, hi, hu, he⟩
    unfold arcAt at he
    simp only [Prod.mk.injEq] at he
    obtain ⟨rfl, rfl, rfl⟩ := he
    rw [usable_good h hi] at hu
    refine ⟨hu, ?_⟩
    unfold lossE
    rw [find_self h hi, Int.toNat_natCast]
  · rintro ⟨hg, rfl⟩
    have hf := good_find hg
    have hl := find_lt hf
    obtain ⟨e1, e2⟩ := find_key hf
    refine ⟨(findE n u v).toNat, hl, ?_, ?_⟩
    · rw [usable_good h hl, e1, e2]; exact hg
    · unfold arcAt lossE; rw [e1, e2]
theorem dear_net {n : Net} (h : Ok n) : Net3 (goodE n) (dearW n) ((arcsE n).map dear) := by
  refine ⟨fun u v c => ?_, fun u v _ => ?_⟩
  · constructor
    · intro hm
      obtain ⟨⟨a1, a2, a3⟩, ha, he⟩ := List.mem_map.1 hm
      unfold dear at he
      simp only [Prod.mk.injEq] at he
      obtain ⟨rfl, rfl, rfl⟩ := he
      obtain ⟨hg, rfl⟩ := (mem_arcsE h).1 ha
      exact ⟨hg, rfl⟩
    · rintro ⟨hg, rfl⟩
      exact List.mem_map.2 ⟨(u, v, lossE n u v + 1), (mem_arcsE h).2 ⟨hg, rfl⟩, rfl⟩
  · have := loss_bd h u v
    unfold dearW
    omega
theorem good_range {n : Net} (h : Ok n) {u v : Int} (hg : goodE n u v = true) : (0 ≤ u ∧ u < n.nodes) ∧ (0 ≤ v ∧ v < n.nodes) := by
  have hf := good_find hg
  obtain ⟨e1, e2⟩ := find_key hf
  have hl := h.lk _ (find_lt hf)
  have h1 := hl.f0; have h2 := hl.f1; have h3 := hl.t0; have h4 := hl.t1
  rw [e1] at h1 h2
  rw [e2] at h3 h4
  omega

/-! ### Costs, once more -/
theorem costTo_cons (n : Net) (u : Int) (r : List Int) : ∀ k, costTo n (u :: r) (k + 1) = (lossE n u (r.getD 0 0) + 1) + costTo n r k
  | 0 => by simp [costTo]
  | k + 1 => by
    have := costTo_cons n u r k
    rw [costTo, this]
    simp only [costTo, List.getD_cons_succ]
    omega
theorem costE_key (n : Net) : ∀ r : List Int, costE n r = keyG (fun u v => lossE n u v + 1) r
  | [] => rfl
  | [_] => rfl
  | u :: v :: r => by
    have h1 := costE_key n (v :: r)
    have h2 := costTo_cons n u (v :: r) r.length
    unfold costE at h1 ⊢
    simp only [List.length_cons, Nat.add_sub_cancel] at h1 ⊢
    rw [h2, keyG, ← h1]
    rfl
theorem dear_key (n : Net) : ∀ r : List Int, r ≠ [] → keyG (dearW n) r = 33 * costE n r + ((r.length : Int) - 1)
  | [], h => absurd rfl h
  | [_], _ => by simp [keyG, costE, costTo]
  | u :: v :: r, _ => by
    have h1 := dear_key n (v :: r) (by simp)
    rw [costE_key] at h1 ⊢
    simp only [keyG, List.length_cons] at h1 ⊢
    rw [h1]
    unfold dearW
    omega

/-! ### All routes -/
def allE (n : Net) (s t : Int) : List (List Int) := walkN n n.nodes.toNat t (n.nodes.toNat - 1) [s]
theorem walk_count {st : Int → Int → Bool} {nodes : Nat} {to : Int} : ∀ (f : Nat) (r : List Int), (walkG st nodes to f r).length ≤ (nodes + 1) ^ f
  | 0, r => by
    unfold walkG
    split <;> simp
  | f + 1, r => by
    unfold walkG
    split
    · rw [List.length_singleton]
      exact Nat.one_le_pow _ _ (by omega)
    · have : ∀ k, ((List.range k).flatMap fun b : Nat => if st (lastOf r) b = true ∧ (b : Int) ∉ r then walkG st nodes to f (r ++ [(b : Int)]) else []).length ≤ k * (nodes + 1) ^ f := by
        intro k
        induction k with
        | zero => simp
        | succ k ih =>
          have h1 : (if st (lastOf r) k = true ∧ (k : Int) ∉ r then walkG st nodes to f (r ++ [(k : Int)]) else []).length ≤ (nodes + 1) ^ f := by
            split
            · exact walk_count f _
            · exact Nat.zero_le _
          rw [List.range_succ, List.flatMap_append, List.length_append, Nat.add_mul, Nat.one_mul]
          have h2 : ([k].flatMap fun b : Nat => if st (lastOf r) b = true ∧ (b : Int) ∉ r then walkG st nodes to f (r ++ [(b : Int)]) else []).length ≤ (nodes + 1) ^ f := by
            simpa using h1
          omega
      have h3 := this nodes
      have h4 : nodes * (nodes + 1) ^ f ≤ (nodes + 1) ^ f * (nodes + 1) := by rw [Nat.mul_comm]; exact Nat.mul_le_mul_left _ (by omega)
      rw [Nat.pow_succ]
      omega
theorem all_count {n : Net} (h8 : n.nodes ≤ 8) (s t : Int) : (allE n s t).length ≤ 4782969 := by
  unfold allE walkN
  have h1 := walk_count (st := goodE n) (nodes := n.nodes.toNat) (to := t) (n.nodes.toNat - 1) [s]
  have h2 : (n.nodes.toNat + 1) ^ (n.nodes.toNat - 1) ≤ 9 ^ 7 := Nat.le_trans (Nat.pow_le_pow_left (by omega) _) (Nat.pow_le_pow_right (by omega) (by omega))
  have h3 : 9 ^ 7 = 4782969 := by decide
  omega
theorem path_good {n : Net} {nodes : Nat} {to u : Int} {p : List Int} (h : PathG (goodE n) nodes to u p) : ∀ i, i < p.length → goodE n ((u :: p).getD i 0) ((u :: p).getD (i + 1) 0) = true := by
  induction h with
  | done => intro i hi; simp at hi
  | step hu hs hv h ih =>
    intro i hi
    cases i with
    | zero => exact hs
    | succ i => exact ih i (by simpa using hi)
theorem path_last {n : Net} {nodes : Nat} {to u : Int} {p : List Int} (h : PathG (goodE n) nodes to u p) : (u :: p).getD p.length 0 = to := by
  induction h with
  | done => rfl
  | step hu hs hv h ih => exact ih
/-- What a route of the list is. -/
theorem all_ok {n : Net} (hok : Ok n) {s t : Int} (hs : 0 ≤ s ∧ s < n.nodes) {q : List Int} (hq : q ∈ allE n s t) : ∃ p, q = s :: p ∧ PathG (goodE n) n.nodes.toNat t s p ∧ q.Nodup ∧ (∀ x ∈ q, 0 ≤ x ∧ x < n.nodes) ∧ brokenE n q = false ∧ 1 ≤ q.length ∧ q.length ≤ n.nodes.toNat := by
  unfold allE at hq
  obtain ⟨p, rfl, hp⟩ := walk_mem _ _ _ hq
  have hnd := walk_nodup _ _ _ (by simp) hq
  have hp : PathG (goodE n) n.nodes.toNat t s p := hp
  have hm : ∀ x ∈ [s] ++ p, 0 ≤ x ∧ x < n.nodes := fun x hx => by
    have hn0 := hok.n0
    rcases List.mem_append.1 hx with h | h
    · obtain rfl := List.mem_singleton.1 h; exact hs
    · have := path_mem hp x h; omega
  have hl := Rt.nodup_len n.nodes.toNat _ hnd fun x hx => by have := hm x hx; omega
  refine ⟨p, rfl, hp, hnd, hm, ?_, by simp, hl⟩
  unfold brokenE
  rw [List.any_eq_false]
  intro i hi
  have hi := List.mem_range.1 hi
  show ¬ (!goodE n ((s :: p).getD i 0) ((s :: p).getD (i + 1) 0)) = true
  rw [path_good hp i (by simpa using hi)]
  simp
theorem all_short {n : Net} (hok : Ok n) {s t : Int} (hs : 0 ≤ s ∧ s < n.nodes) (ht : 0 ≤ t ∧ t < n.nodes) (hd : Dist n.nodes.toNat ((arcsE n).map dear) t (distC n.nodes.toNat ((arcsE n).map dear) t)) : (shortR n s t = [] ∧ allE n s t = []) ∨ (shortR n s t ≠ [] ∧ FirstMin (keyG (dearW n)) (allE n s t) (shortR n s t)) := by
  have hn0 := hok.n0
  have hn1 := hok.n1
  unfold shortR wayF
  by_cases hfar : noneC ≤ farAt (distC n.nodes.toNat ((arcsE n).map dear) t) s
  · left
    rw [if_pos hfar]
    refine ⟨rfl, List.eq_nil_iff_forall_not_mem.2 fun q hq => ?_⟩
    obtain ⟨p, rfl, hp, hnd, hm, _, _, hl⟩ := all_ok hok hs hq
    have := (path_far (dear_net hok) hd hp (by simp only [List.length_cons] at hl; omega)).2
    omega
  · right
    rw [if_neg hfar]
    refine ⟨by simp, ?_⟩
    have := (way_first (dear_net hok) (dear_ok hok) hd ⟨ht.1, by omega⟩ (fun u v hg => by have := (good_range hok hg).2; omega) (by omega) (farAt (distC n.nodes.toNat ((arcsE n).map dear) t) s).toNat (n.nodes.toNat - 1) [s] s (by simp) (by simp) rfl hs.1 (by omega) (by omega) (Nat.le_refl _) (fun x hx => by obtain rfl := List.mem_singleton.1 hx; exact ⟨⟨hs.1, by omega⟩, Int.le_refl _⟩) (by simp only [List.length_singleton]; omega)).1
    exact this

set_option maxRecDepth 10000 in
theorem All_spec (n : NetM) (s t : Int) (hck : checkE n.net = 0) (h8 : n.net.nodes ≤ 8) (hs : 0 ≤ s ∧ s < n.net.nodes) {B : Nat} {w0 : World} {H : List HP} {w : World} (hin : n.In B w0 H) (hw : St B w0 H w) :
    Calls Try.prog 37 [n.val, .int .i64 s, .int .i64 t].toArray w (Post B w0 fun v K => ∃ A cap rs, v = .slice A rs.length cap ∧ rs.map (·.xs) = allE n.net s t ∧ K = rtes A cap rs H) := by
  refine Calls_of_VC Try.func37 Try.ntmps37 rfl rfl hw ?_
  have hok := check_ok hck
  have hn0 := hok.n0
  have hnn : n.nodes = ((n.net.nodes.toNat : Nat) : Int) := by have : n.net.nodes = n.nodes := rfl; omega
  have hcnt := all_count h8 s t
  (apply VC_seq; apply VC_region; apply VL_box_agg; exact rfl; exact rfl; intro g)
  repeat' (first | (apply VL_buildSlice0 T; exact rfl; exact rfl; intro _) | apply (zs1 ?_) | apply (zs2 ?_) | (apply zg3; refine zs8 ?_) | (apply zg26; (refine zs56 ?_; intro _)) | apply (zs65 ?_) | apply (zs68 ?_) | apply (zs69 ?_) | apply (zs70 ?_) | fail)
  rename_i g1 g2
  apply VL_st (rtes (some ⟨g2, 0, none⟩) 0 [] (blk g1 (.cells #[.int .i64 s] 3 (0, 0)) :: netB g n :: H))
  · intro w hw
    exact hw.perm (.cons _ (.noMany _))
  apply VL_call _ en58
  (repeat (first | exact args_nil | (apply args_cons; exact rfl)))
  exact rfl
  exact fun _ hw => (walk_spec n n.net.nodes.toNat t hck hnn (n.net.nodes.toNat - 1) [s] [] (some ⟨g1, 0, none⟩) (some ⟨g2, 0, none⟩) 1 0 B w0 _ _ (by simp) (by simp) (fun x hx => by obtain rfl := List.mem_singleton.1 hx; omega) (by simp only [List.length_singleton]; omega) (by unfold allE at hcnt; simp only [List.length_nil]; omega) hin.cons.cons (Rd.blk (cs := #[.int .i64 s]) List.mem_cons_self) (hw))
  rintro _ _ ⟨A, cap, rs, rfl, hrs, rfl⟩
  repeat' (first | apply (zs2 ?_) | apply (zs65 ?_) | apply (zs68 ?_) | apply (zs74 ?_) | fail)
  apply VQ_st (rtes A cap rs H)
  · unfold rtes
    (intro w hw; refine hw.perm ?_; focus repeat (first | with_reducible exact Perm.refl _ | (with_reducible apply perm_take; focus ((repeat (first | with_reducible exact rem_here | with_reducible apply rem_there)); done)) | with_reducible apply Perm.dropK))
  apply VQ_ret1; exact rfl; exact rfl
  exact ⟨A, cap, rs, rfl, hrs, rfl⟩
structure Bz2 where
  k : Nat
  b : RowM
set_option maxRecDepth 10000 in
set_option maxHeartbeats 2000000 in
theorem rshortest_spec (n : NetM) (s t : Int) (h80 : endsE n.net s t = 0 → n.net.nodes ≤ 8) (hd : endsE n.net s t = 0 → Dist n.net.nodes.toNat ((arcsE n.net).map dear) t (distC n.net.nodes.toNat ((arcsE n.net).map dear) t)) {B : Nat} {w0 : World} {H : List HP} {w : World} (hin : n.In B w0 H) (hw : St B w0 H w) :
    Calls Try.prog 15 [n.val, .int .i64 s, .int .i64 t].toArray w (Post B w0 fun v K => ∃ A cap, v = .tuple #[.slice A (shortE n.net s t).1.length cap, .int .i64 (shortE n.net s t).2] ∧ K = ints A cap (shortE n.net s t).1 :: H) := by
  refine Calls_of_VC Try.func15 Try.ntmps15 rfl rfl hw ?_
  (apply VC_seq; apply VC_region; apply VL_box_agg; exact rfl; exact rfl; intro g)
  unfold shortE
  by_cases he : endsE n.net s t = 0
  rotate_left
  · rw [if_pos he]
    repeat' (first | ((first | apply VL_callt en36 | apply VL_callq en36); (repeat (first | exact args_nil | (apply args_cons; exact rfl))); exact rfl; exact fun _ hw => (rends_spec n s t hin.cons hw)) | apply (zs1 ?_) | apply (zs2 ?_) | (apply zg3; refine zs8 ?_) | (apply zg8; (refine zs16 ?_ ?_ <;> intro _ <;> try (exfalso; omega))) | apply (zs65 ?_) | apply (zs68 ?_) | apply (zs69 ?_) | apply (zs70 ?_) | (apply zg27; refine zs71 ?_) | apply (zs74 ?_) | apply (zs77 ?_) | fail)
    (repeat apply VQ_tail)
    apply VQ_nilSlice 3 1
    apply VQ_ret2; exact rfl; exact rfl; exact rfl
    exact ⟨none, 0, rfl, rfl⟩
  rw [if_neg (fun h => h he)]
  obtain ⟨hck, ⟨s0, s1⟩, ⟨t0, t1⟩, hst⟩ := ends_ok he
  have hen := fun {H : List HP} {w : World} (hin : n.In B w0 H) (hw : St B w0 H w) => rends_spec n s t hin hw
  rw [he] at hen
  have hok := check_ok hck
  have hn1 := hok.n1
  have h8 := h80 he
  have hcnt := all_count h8 s t
  repeat' (first | ((first | apply VL_callt en36 | apply VL_callq en36); (repeat (first | exact args_nil | (apply args_cons; exact rfl))); exact rfl; exact fun _ hw => (hen hin.cons hw)) | apply (zs1 ?_) | apply (zs2 ?_) | (apply zg3; refine zs8 ?_) | (apply zg8; (refine zs16 ?_ ?_ <;> intro _ <;> try (exfalso; omega))) | apply (zs65 ?_) | apply (zs68 ?_) | apply (zs69 ?_) | apply (zs70 ?_) | (apply zg27; refine zs72 ?_) | apply (zs76 ?_) | fail)
  apply VL_call _ en37
  (repeat (first | exact args_nil | (apply args_cons; exact rfl)))
  exact rfl
  exact fun _ hw => (All_spec n s t hck h8 ⟨s0, s1⟩ hin.cons (hw))
  rintro _ _ ⟨A, cap, rs, rfl, hrs, rfl⟩
  have hlen : rs.length = (allE n.net s t).length := by have := congrArg List.length hrs; rwa [List.length_map] at this
  rcases all_short hok ⟨s0, s1⟩ ⟨t0, t1⟩ (hd he) with ⟨h1, h2⟩ | ⟨h1, h2⟩
  · rw [if_pos h1]
    rw [h2] at hlen
    have hl0 : rs.length = 0 := hlen
    unfold rtes
    repeat' (first | apply (zs1 ?_) | apply (zs2 ?_) | (apply zg4; refine zs9 ?_) | (apply zg7; (refine zs15 ?_ ?_ <;> intro _ <;> try (exfalso; omega))) | apply (zs65 ?_) | apply (zs68 ?_) | apply (zs69 ?_) | apply (zs70 ?_) | (apply zg27; refine zs71 ?_) | apply (zs74 ?_) | apply (zs77 ?_) | fail)
    apply VQ_st (ints none 0 [] :: H)
    · intro w hw
      exact hw.tail.tail.tail.nilSlice _ _
    apply VQ_ret2; exact rfl; exact rfl; exact rfl
    exact ⟨none, 0, rfl, rfl⟩
  · rw [if_neg h1]
    have hne : 1 ≤ rs.length := by
      rw [hlen]
      exact List.length_pos_of_mem h2.mem
    obtain ⟨R, hR⟩ : ∃ R, shortR n.net s t = R := ⟨_, rfl⟩
    rw [hR] at h2 ⊢
    have hrow : ∀ r ∈ rs, brokenE n.net r.xs = false ∧ 1 ≤ r.xs.length ∧ r.xs.length ≤ 32 := fun r hr => by
      have hm : r.xs ∈ allE n.net s t := by rw [← hrs]; exact List.mem_map.2 ⟨r, hr, rfl⟩
      obtain ⟨_, _, _, _, _, h3, h4, h5⟩ := all_ok hok ⟨s0, s1⟩ hm
      exact ⟨h3, h4, by omega⟩
    obtain ⟨r0, hr0⟩ : ∃ r, rs[0]? = some r := ⟨_, List.getElem?_eq_getElem (by omega)⟩
    unfold rtes
    repeat' (first | apply (zs1 ?_) | apply (zs2 ?_) | (apply zg3; refine zs60 ?_) | (apply zg4; refine zs9 ?_) | (apply zg5; refine zs10 ?_) | (apply zg7; (refine zs15 ?_ ?_ <;> intro _ <;> try (exfalso; omega))) | apply (zs65 ?_) | apply (zs68 ?_) | apply (zs69 ?_) | apply (zs70 ?_) | (apply zg27; refine zs72 ?_) | apply (zs73 ?_) | apply (zs76 ?_) | fail)
    refine VC_loop1 (fun (z : Bz2) => [(11, .int .i64 ((z.k : Int) + 1)), (10, .slice z.b.A z.b.xs.length z.b.cap), (9, .slice A rs.length cap), (3, .pointer (some ⟨g, 0, none⟩))]) (fun _ => sl 23 1 A rs.length cap (rs.flatMap rowF) :: many (rs.map rowQ) :: netB g n :: H) (fun z => z.k + 1 ≤ rs.length ∧ z.b ∈ rs ∧ FirstMin (keyG (dearW n.net)) ((allE n.net s t).take (z.k + 1)) z.b.xs) (fun z => rs.length - z.k) ⟨0, r0⟩ ⟨hne, List.mem_of_getElem? hr0, ?_⟩ ?_ (fun w hw => hw) ?_
    · have h3 : (allE n.net s t).take (0 + 1) = [r0.xs] := by
        rw [← hrs]
        cases rs with
        | nil => simp at hne
        | cons x xs =>
          obtain rfl : x = r0 := by simpa using hr0
          rfl
      simp only
      rw [h3]
      exact .one _ _
    · (repeat (first | exact sub_nil _ | (apply sub_cons; first | exact rfl | exact congrArg (fun z : Int => some (Value.int .i64 z)) (by omega))))
    rintro ⟨k, b⟩ ⟨hk, hb, hfm⟩ K hK
    simp only at hk hb hfm ⊢
    obtain ⟨b1, b2, b3⟩ := hrow b hb
    by_cases hlt : k + 1 < rs.length
    · obtain ⟨q, hq⟩ : ∃ q, rs[k + 1]? = some q := ⟨_, List.getElem?_eq_getElem hlt⟩
      have hqm := List.mem_of_getElem? hq
      obtain ⟨q1, q2, q3⟩ := hrow q hqm
      have hq' : rs[((k : Int) + 1).toNat]? = some q := by rw [show ((k : Int) + 1).toNat = k + 1 by omega]; exact hq
      have hrq : ∀ {X1 X2 : HP}, Rd B w0 (X1 :: many (rs.map rowQ) :: X2 :: H) q.A (q.xs.flatMap numF) := Rd.manyT (H := rs.map rowQ) (.sl (e := 3) (size := 1) (k := q.xs.length) (cap := q.cap) (List.mem_map.2 ⟨q, hqm, rfl⟩)) (by (focus repeat (first | with_reducible exact List.mem_cons_self | with_reducible apply List.mem_cons_of_mem | assumption)))
      have hrb : ∀ {X1 X2 : HP}, Rd B w0 (X1 :: many (rs.map rowQ) :: X2 :: H) b.A (b.xs.flatMap numF) := Rd.manyT (H := rs.map rowQ) (.sl (e := 3) (size := 1) (k := b.xs.length) (cap := b.cap) (List.mem_map.2 ⟨b, hb, rfl⟩)) (by (focus repeat (first | with_reducible exact List.mem_cons_self | with_reducible apply List.mem_cons_of_mem | assumption)))
      have hsq := fun {X1 X2 : HP} {w : World} (hin : n.In B w0 (X1 :: many (rs.map rowQ) :: X2 :: H)) (hw : St B w0 (X1 :: many (rs.map rowQ) :: X2 :: H) w) => sum_spec n q.xs (cap := q.cap) hin hck q1 hrq ⟨q2, by omega⟩ hw
      have hsb := fun {X1 X2 : HP} {w : World} (hin : n.In B w0 (X1 :: many (rs.map rowQ) :: X2 :: H)) (hw : St B w0 (X1 :: many (rs.map rowQ) :: X2 :: H) w) => sum_spec n b.xs (cap := b.cap) hin hck b1 hrb ⟨b2, by omega⟩ hw
      have kq := dear_key n.net q.xs (by intro h; rw [h] at q2; simp at q2)
      have kb := dear_key n.net b.xs (by intro h; rw [h] at b2; simp at b2)
      have hfs := hfm.snoc (y := q.xs)
      have htk : (allE n.net s t).take (k + 1 + 1) = (allE n.net s t).take (k + 1) ++ [q.xs] := by
        rw [List.take_add_one, ← hrs, List.getElem?_map, hq]; rfl
      rw [← htk] at hfs
      obtain ⟨cq, hcq⟩ : ∃ x, costE n.net q.xs = x := ⟨_, rfl⟩
      obtain ⟨cb, hcb⟩ : ∃ x, costE n.net b.xs = x := ⟨_, rfl⟩
      rw [hcq] at hsq kq
      rw [hcb] at hsb kb
      rw [kq, kb] at hfs
      by_cases hbet : cq < cb ∨ (cq = cb ∧ q.xs.length < b.xs.length)
      · rw [if_pos (by omega)] at hfs
        repeat' (first | apply (zs1 ?_) | (apply zg3; first | refine zs8 ?_ | refine zs60 ?_) | (apply zg4; refine zs9 ?_) | (apply zg5; refine zs10 ?_) | (apply (zs17 ?_ ?_) <;> intro _ <;> try (exfalso; omega)) | apply (zs65 ?_) | apply (zs68 ?_) | apply (zs69 ?_) | apply (zs70 ?_) | (apply zg27; refine zs71 ?_) | apply (zs73 ?_) | apply (zs76 ?_) | (apply zg28; refine zs84 ?_) | fail)
        first | apply VL_callt en38 | apply VL_callq en38
        (repeat (first | exact args_nil | (apply args_cons; exact rfl)))
        exact rfl
        exact fun _ hw => (hsq hin.cons.cons.cons hw)
        repeat' (first | apply (zs1 ?_) | (apply zg3; refine zs8 ?_) | fail)
        first | apply VL_callt en38 | apply VL_callq en38
        (repeat (first | exact args_nil | (apply args_cons; exact rfl)))
        exact rfl
        exact fun _ hw => (hsb hin.cons.cons.cons hw)
        repeat' (first | apply (zs1 ?_) | apply (zs2 ?_) | (apply zg1; first | refine zs3 ?_ | refine zs4 ?_) | (apply zg3; refine zs60 ?_) | (apply zg4; refine zs9 ?_) | (apply zg5; refine zs10 ?_) | (apply zg6; first | refine zs11 ?_ | refine zs12 ?_) | (apply zg7; (refine zs15 ?_ ?_ <;> intro _ <;> try (exfalso; omega))) | (apply (zs17 ?_ ?_) <;> intro _ <;> try (exfalso; omega)) | (apply zg13; refine zs30 ?_) | apply (zs65 ?_) | apply (zs66 ?_) | apply (zs68 ?_) | apply (zs69 ?_) | apply (zs70 ?_) | (apply zg27; refine zs71 ?_) | apply (zs79 ?_) | fail)
        all_goals (
          apply hK ⟨k + 1, q⟩
          · exact ⟨by simp only; omega, hqm, hfs⟩
          · simp only; omega
          · (repeat (first | exact sub_nil _ | (apply sub_cons; first | exact rfl | exact congrArg (fun z : Int => some (Value.int .i64 z)) (by omega))))
          · exact fun w hw => hw)
      · rw [if_neg (by omega)] at hfs
        repeat' (first | apply (zs1 ?_) | (apply zg3; first | refine zs8 ?_ | refine zs60 ?_) | (apply zg4; refine zs9 ?_) | (apply zg5; refine zs10 ?_) | (apply (zs17 ?_ ?_) <;> intro _ <;> try (exfalso; omega)) | apply (zs65 ?_) | apply (zs68 ?_) | apply (zs69 ?_) | apply (zs70 ?_) | (apply zg27; refine zs71 ?_) | apply (zs73 ?_) | apply (zs76 ?_) | (apply zg28; refine zs84 ?_) | fail)
        first | apply VL_callt en38 | apply VL_callq en38
        (repeat (first | exact args_nil | (apply args_cons; exact rfl)))
        exact rfl
        exact fun _ hw => (hsq hin.cons.cons.cons hw)
        repeat' (first | apply (zs1 ?_) | (apply zg3; refine zs8 ?_) | fail)
        first | apply VL_callt en38 | apply VL_callq en38
        (repeat (first | exact args_nil | (apply args_cons; exact rfl)))
        exact rfl
        exact fun _ hw => (hsb hin.cons.cons.cons hw)
        repeat' (first | apply (zs1 ?_) | apply (zs2 ?_) | (apply zg1; first | refine zs3 ?_ | refine zs4 ?_) | (apply zg3; refine zs60 ?_) | (apply zg4; refine zs9 ?_) | (apply zg5; refine zs10 ?_) | (apply zg6; first | refine zs11 ?_ | refine zs12 ?_) | (apply zg7; (refine zs15 ?_ ?_ <;> intro _ <;> try (exfalso; omega))) | (apply (zs17 ?_ ?_) <;> intro _ <;> try (exfalso; omega)) | (apply zg13; refine zs30 ?_) | apply (zs65 ?_) | apply (zs66 ?_) | apply (zs68 ?_) | apply (zs69 ?_) | apply (zs70 ?_) | (apply zg27; refine zs72 ?_) | apply (zs76 ?_) | apply (zs79 ?_) | fail)
        all_goals (
          apply hK ⟨k + 1, b⟩
          · exact ⟨by simp only; omega, hb, hfs⟩
          · simp only; omega
          · (repeat (first | exact sub_nil _ | (apply sub_cons; first | exact rfl | exact congrArg (fun z : Int => some (Value.int .i64 z)) (by omega))))
          · exact fun w hw => hw)
    · clear hK
      have hall : (allE n.net s t).take (k + 1) = allE n.net s t := List.take_of_length_le (by omega)
      rw [hall] at hfm
      obtain rfl : b.xs = R := hfm.uniq h2
      obtain ⟨l1, l2, hsp⟩ := List.append_of_mem hb
      by_cases h9 : 9 < b.xs.length
      · rw [if_pos h9]
        repeat' (first | apply (zs1 ?_) | apply (zs2 ?_) | (apply zg4; refine zs9 ?_) | (apply (zs17 ?_ ?_) <;> intro _ <;> try (exfalso; omega)) | (apply (zs19 ?_ ?_) <;> intro _ <;> try (exfalso; omega)) | (apply zg14; refine zs31 ?_) | apply (zs65 ?_) | apply (zs68 ?_) | apply (zs69 ?_) | apply (zs70 ?_) | (apply zg27; first | refine zs71 ?_ | refine zs72 ?_) | apply (zs74 ?_) | apply (zs75 ?_) | apply (zs77 ?_) | apply (zs80 ?_) | apply (zs81 ?_) | fail)
        apply VQ_st (ints none 0 [] :: H)
        · intro w hw
          exact hw.tail.tail.tail.nilSlice _ _
        apply VQ_ret2; exact rfl; exact rfl; exact rfl
        exact ⟨none, 0, rfl, rfl⟩
      · rw [if_neg h9]
        repeat' (first | apply (zs1 ?_) | apply (zs2 ?_) | (apply zg4; refine zs9 ?_) | (apply (zs17 ?_ ?_) <;> intro _ <;> try (exfalso; omega)) | (apply (zs19 ?_ ?_) <;> intro _ <;> try (exfalso; omega)) | (apply zg14; refine zs31 ?_) | apply (zs65 ?_) | apply (zs68 ?_) | apply (zs69 ?_) | apply (zs70 ?_) | (apply zg27; refine zs72 ?_) | apply (zs74 ?_) | apply (zs75 ?_) | apply (zs76 ?_) | apply (zs80 ?_) | apply (zs81 ?_) | fail)
        apply VQ_st (ints b.A b.cap b.xs :: H)
        · intro w hw
          have h5 := hw.tail
          rw [hsp, List.map_append, List.map_cons] at h5
          have h6 := h5.perm (.pull _ _ _ _)
          exact h6.perm (.cons _ (.dropK (.drop _ _)))
        apply VQ_ret2; exact rfl; exact rfl; exact rfl
        exact ⟨b.A, b.cap, rfl, rfl⟩

theorem law_shortest (n : NetM) (s t : Int) {B : Nat} {w0 : World} {H : List HP} {w : World} (hin : n.In B w0 H) (hw : St B w0 H w) :
    Calls Try.prog 4 [n.val, .int .i64 s, .int .i64 t].toArray w (Post B w0 fun v K => v = .bool true ∧ ∀ w, St B w0 K w → St B w0 H w) := by
  refine Calls_of_VC Try.func4 Try.ntmps4 rfl rfl hw ?_
  (apply VC_seq; apply VC_region; apply VL_box_agg; exact rfl; exact rfl; intro g)
  have hfe := fun {H : List HP} {w : World} (hin : n.In B w0 H) (hw : St B w0 H w) => few_spec n hin hw
  cases hfew : fewE n.net with
  | false =>
    rw [hfew] at hfe
    repeat' (first | ((first | apply VL_callt en10 | apply VL_callq en10); (repeat (first | exact args_nil | (apply args_cons; exact rfl))); exact rfl; exact fun _ hw => (awakeR_spec hw)) | ((first | apply VL_callt en13 | apply VL_callq en13); (repeat (first | exact args_nil | (apply args_cons; exact rfl))); exact rfl; exact fun _ hw => (hfe hin.cons hw)) | apply (zs1 ?_) | apply (zs2 ?_) | (apply zg1; refine zs3 ?_) | (apply zg3; refine zs8 ?_) | (apply zg6; refine zs11 ?_) | (apply zg20; first | refine zs47 ?_ | refine zs48 ?_) | apply (zs65 ?_) | apply (zs68 ?_) | apply (zs69 ?_) | apply (zs70 ?_) | (apply zg27; first | refine zs71 ?_ | refine zs72 ?_) | apply (zs74 ?_) | apply (zs76 ?_) | apply (zs77 ?_) | fail)
    apply VQ_ret1; exact rfl; exact rfl
    exact ⟨rfl, fun w hw => hw.tail⟩
  | true =>
    rw [hfew] at hfe
    by_cases hbig : 7 < n.rows.length
    · skip
      repeat' (first | ((first | apply VL_callt en10 | apply VL_callq en10); (repeat (first | exact args_nil | (apply args_cons; exact rfl))); exact rfl; exact fun _ hw => (awakeR_spec hw)) | ((first | apply VL_callt en13 | apply VL_callq en13); (repeat (first | exact args_nil | (apply args_cons; exact rfl))); exact rfl; exact fun _ hw => (hfe hin.cons hw)) | apply (zs1 ?_) | apply (zs2 ?_) | (apply zg1; refine zs4 ?_) | (apply zg2; refine zs6 ?_) | (apply zg3; first | refine zs7 ?_ | refine zs8 ?_) | (apply zg4; refine zs9 ?_) | (apply zg6; refine zs12 ?_) | (apply (zs19 ?_ ?_) <;> intro _ <;> try (exfalso; omega)) | (apply zg20; refine zs47 ?_) | apply (zs65 ?_) | apply (zs68 ?_) | apply (zs69 ?_) | apply (zs70 ?_) | (apply zg27; first | refine zs71 ?_ | refine zs72 ?_) | apply (zs74 ?_) | apply (zs76 ?_) | apply (zs77 ?_) | fail)
      apply VQ_ret1; exact rfl; exact rfl
      exact ⟨rfl, fun w hw => hw.tail⟩
    · have h8 : endsE n.net s t = 0 → n.net.nodes ≤ 8 := fun he => by
        have h1 := (check_ok (ends_ok he).1).p0
        have h2 : n.net.power.length = n.rows.length := by simp [NetM.net]
        omega
      repeat' (first | ((first | apply VL_callt en10 | apply VL_callq en10); (repeat (first | exact args_nil | (apply args_cons; exact rfl))); exact rfl; exact fun _ hw => (awakeR_spec hw)) | ((first | apply VL_callt en13 | apply VL_callq en13); (repeat (first | exact args_nil | (apply args_cons; exact rfl))); exact rfl; exact fun _ hw => (hfe hin.cons hw)) | apply (zs1 ?_) | apply (zs2 ?_) | (apply zg1; refine zs4 ?_) | (apply zg2; refine zs6 ?_) | (apply zg3; first | refine zs7 ?_ | refine zs8 ?_) | (apply zg4; refine zs9 ?_) | (apply zg6; refine zs12 ?_) | (apply (zs19 ?_ ?_) <;> intro _ <;> try (exfalso; omega)) | (apply zg20; refine zs47 ?_) | apply (zs65 ?_) | apply (zs68 ?_) | apply (zs69 ?_) | apply (zs70 ?_) | (apply zg27; refine zs72 ?_) | apply (zs76 ?_) | fail)
      apply VL_call _ en14
      (repeat (first | exact args_nil | (apply args_cons; exact rfl)))
      exact rfl
      exact fun _ hw => (shortest_spec n s t hin.cons (hw))
      rintro _ _ ⟨A1, c1, rfl, _, hdd, rfl⟩
      repeat' (first | apply (zs1 ?_) | apply (zs2 ?_) | (apply zg3; refine zs8 ?_) | apply (zs13 ?_) | apply (zs65 ?_) | apply (zs68 ?_) | apply (zs69 ?_) | apply (zs70 ?_) | fail)
      apply VL_call _ en15
      (repeat (first | exact args_nil | (apply args_cons; exact rfl)))
      exact rfl
      exact fun _ hw => (rshortest_spec n s t h8 hdd hin.cons.cons (hw))
      rintro _ _ ⟨A2, c2, rfl, rfl⟩
      have hlen : (shortE n.net s t).1.length ≤ 9 := by
        unfold shortE
        repeat' split
        all_goals (first | (simp; done) | (simp only; omega))
      obtain ⟨⟨q, e⟩, hq⟩ : ∃ x, shortE n.net s t = x := ⟨_, rfl⟩
      rw [hq] at hlen ⊢
      dsimp only at hlen ⊢
      have heq := fun {H : List HP} {w : World} (h1 : Rd B w0 H A1 (q.flatMap numF)) (h2 : Rd B w0 H A2 (q.flatMap numF)) (hw : St B w0 H w) => equal_route q q (by omega) (by omega) (cap := c1) (cap2 := c2) h1 h2 hw
      rw [decide_eq_true (rfl : q = q)] at heq
      repeat' (first | apply (zs1 ?_) | apply (zs2 ?_) | apply (zs13 ?_) | apply (zs65 ?_) | apply (zs68 ?_) | apply (zs69 ?_) | apply (zs70 ?_) | fail)
      first | apply VL_callt en16 | apply VL_callq en16
      (repeat (first | exact args_nil | (apply args_cons; exact rfl)))
      exact rfl
      exact fun _ hw => (heq (.sl (by (focus repeat (first | with_reducible exact List.mem_cons_self | with_reducible apply List.mem_cons_of_mem | assumption)))) (.sl (by (focus repeat (first | with_reducible exact List.mem_cons_self | with_reducible apply List.mem_cons_of_mem | assumption)))) hw)
      repeat' (first | apply (zs1 ?_) | apply (zs2 ?_) | (apply zg1; refine zs4 ?_) | (apply zg6; refine zs11 ?_) | (apply zg7; (refine zs15 ?_ ?_ <;> intro _ <;> try (exfalso; omega))) | apply (zs65 ?_) | apply (zs68 ?_) | apply (zs74 ?_) | fail)
      apply VQ_ret1; exact rfl; exact rfl
      exact ⟨rfl, fun w hw => hw.tail.tail.tail⟩
end Go.Proofs.Ytleldppdflgmgaa

/- From arguments that came in to rows that are only read. -/
namespace Go.Eng
open Go.ChangeShapes Go.WideShapes Go.ChangeAt Go.RowKit Go.Deep

/-- In this world the cells xs lie from A on. -/
def Old (W : World) (A : Option Addr) (xs : List Value) : Prop := ∀ j v, xs[j]? = some v → ∃ g o, A = some ⟨g, o, none⟩ ∧ g < W.heap.size ∧ W.cell? ⟨g, o + j, none⟩ = some v
theorem Old.rd {W : World} {H : List HP} {A : Option Addr} {xs : List Value} (h : Old W A xs) : Rd W.heap.size W H A xs := Rd.old h

theorem cell_lt {W : World} {a : Addr} {v : Value} (h : W.cell? a = some v) : a.block < W.heap.size := by
  unfold World.cell? at h
  rcases Nat.lt_or_ge a.block W.heap.size with h1 | h1
  · exact h1
  · rw [Array.getElem?_eq_none h1] at h; cases h

section
variable {H : Type} {enc : TypeId × Value → H} {P : Program} {W : World} {held : Bool}

/-- A slice that came in: its elements, and where they lie; f: an element's cells; good: what is known of an element. -/
theorem open_rows {α : Type} {f : α → List Value} {good : α → Prop} {t e q : Nat} {fuel : Nat} {A : Option Addr} {len cap : Nat} {x : DataW H × List MemPlace} {spare : Nat → Bool} (ht : P.underlying t = some (.slice e)) (hc : P.cellsOf e = q) (h0 : 0 < q)
    (hel : ∀ n cs y, cs.length = q → DataW.trod enc P W 0 spare held n e cs = some y → ∃ a, cs = f a ∧ good a) (h : DataW.trod enc P W 0 spare held fuel t [.slice A len cap] = some x) :
    ∃ l : List α, l.length = len ∧ Old W A (l.flatMap f) ∧ (∀ a ∈ l, good a) ∧ len ≤ maxLen ∧ (∀ a ∈ l, (f a).length = q) := by
  rcases open_slice ht h with ⟨h1, _⟩ | ⟨a, len', cap', m, n, D, Pl, h1, _, hl, hm, hmm, hxx, hx⟩
  · injection h1 with h1 _
    injection h1 with h1 h2 h3
    subst h1 h2 h3
    exact ⟨[], rfl, (fun j v hv => by simp at hv), (fun a ha => by cases ha), Nat.zero_le _, (fun a ha => by cases ha)⟩
  · injection h1 with h1 _
    injection h1 with h1 h2 h3
    subst h1 h2 h3
    have hle : len ≤ m := by rw [hmm]; split <;> omega
    rw [hc] at hx
    have key : ∀ i, i < len → ∃ b : α, W.cells? 0 (a.add (i * q)) q = some (f b) ∧ good b := fun i hi => by
      obtain ⟨cs', h2, h3⟩ := hx i (by omega)
      obtain ⟨_, h5, _⟩ := World.cells?_some h2
      obtain ⟨b, rfl, hb⟩ := hel n cs' _ h5 h3
      exact ⟨b, h2, hb⟩
    obtain ⟨l, hlen, hl2⟩ : ∃ l : List α, l.length = len ∧ ∀ i b, l[i]? = some b → W.cells? 0 (a.add (i * q)) q = some (f b) ∧ good b := by
      clear hx hmm hle h hl hm hxx
      induction len with
      | zero => exact ⟨[], rfl, fun i b hb => by simp at hb⟩
      | succ k ih =>
        obtain ⟨l, h2, h3⟩ := ih (fun i hi => key i (by omega))
        obtain ⟨b, h4⟩ := key k (by omega)
        refine ⟨l ++ [b], by simp [h2], fun i c hc => ?_⟩
        by_cases hi : i < l.length
        · rw [List.getElem?_append_left hi] at hc; exact h3 i c hc
        · rw [List.getElem?_append_right (by omega)] at hc
          have hi2 : i - l.length = 0 := by
            have := (List.getElem?_eq_some_iff.1 hc).1
            simp at this; omega
          rw [hi2] at hc
          obtain rfl : b = c := by simpa using hc
          obtain rfl : i = k := by omega
          exact h4
    have hfq : ∀ b ∈ l, (f b).length = q := fun b hb => by
      obtain ⟨i, hi⟩ := List.getElem?_of_mem hb
      exact (World.cells?_some (hl2 i b hi).1).2.1
    refine ⟨l, hlen, fun j v hv => ?_, fun b hb => ?_, by omega, hfq⟩
    · have hspl : ∃ i b, l[i]? = some b ∧ ∃ r, j = i * q + r ∧ r < q ∧ (f b)[r]? = some v := by
        clear hlen hl2 key
        induction l generalizing j with
        | nil => simp at hv
        | cons b l ih =>
          rw [List.flatMap_cons] at hv
          have hb := hfq b (by simp)
          by_cases hj : j < q
          · rw [List.getElem?_append_left (by omega)] at hv
            exact ⟨0, b, rfl, j, by omega, hj, hv⟩
          · rw [List.getElem?_append_right (by omega), hb] at hv
            obtain ⟨i, b', h5, r, h6, h7, h8⟩ := ih (fun c hc => hfq c (by simp [hc])) (j - q) hv
            exact ⟨i + 1, b', by simpa using h5, r, by rw [Nat.add_mul]; omega, h7, h8⟩
      obtain ⟨i, b, h5, r, rfl, h7, h8⟩ := hspl
      have h9 := (World.cells?_some (hl2 i b h5).1).2.2 r h7
      rw [h8, add_add] at h9
      obtain ⟨ab, ao, spot⟩ := a
      have hs0 : spot = none := by
        have h10 := World.cell?_spot h9
        unfold Addr.add at h10
        split at h10
        · exact h10
        · rename_i hne
          have hi0 : i < len := by have := (List.getElem?_eq_some_iff.1 h5).1; omega
          have h11 := (World.cells?_some (hl2 0 l[0] (List.getElem?_eq_getElem (by omega))).1).2.2 0 h0
          rw [add_add, Nat.zero_mul, Nat.zero_add] at h11
          have hf0 : ((f l[0])[0]?).isSome = true := by
            rw [List.getElem?_eq_getElem (by rw [hfq _ (List.getElem_mem _)]; exact h0)]; rfl
          cases hf1 : (f l[0])[0]? with
          | none => rw [hf1] at hf0; cases hf0
          | some u =>
            rw [hf1] at h11
            exact World.cell?_spot h11
      subst hs0
      refine ⟨ab, ao, rfl, ?_, ?_⟩
      · have := cell_lt h9
        rw [Addr.add_lit] at this
        exact this
      · rw [Addr.add_lit] at h9
        exact h9
    · obtain ⟨i, hi⟩ := List.getElem?_of_mem hb
      exact (hl2 i b hi).2

/-- A slice of numbers that came in. -/
theorem open_nums {t e : Nat} {k : IntKind} {fuel : Nat} {A : Option Addr} {len cap : Nat} {x : DataW H × List MemPlace} {spare : Nat → Bool} (ht : P.underlying t = some (.slice e)) (he : P.underlying e = some (.int k)) (hc : P.cellsOf e = 1)
    (h : DataW.trod enc P W 0 spare held fuel t [.slice A len cap] = some x) :
    ∃ l : List Int, l.length = len ∧ Old W A (l.flatMap fun z => [Value.int k z]) ∧ (∀ z ∈ l, (Lit.int k z).wf = true) ∧ len ≤ maxLen := by
  obtain ⟨l, h1, h2, h3, h4, _⟩ := open_rows (f := fun z : Int => [Value.int k z]) (good := fun z => (Lit.int k z).wf = true) ht hc (by decide) (fun n cs y hl hy => by
    obtain ⟨m, rfl, rfl, hw⟩ := DataW.trod_int he hy
    exact ⟨m, rfl, hw⟩) h
  exact ⟨l, h1, h2, h3, h4⟩
end
end Go.Eng

/- From arguments that came in to what the walks speak of: openers, built up as types are. -/
namespace Go.Eng
open Go.ChangeShapes Go.WideShapes Go.ChangeAt Go.RowKit Go.Deep

/-- A slice: where it lies, its capacity, its elements. -/
structure SlM (α : Type) where
  A : Option Addr
  cap : Nat
  xs : List α
def SlM.val {α : Type} (s : SlM α) : Value := .slice s.A s.xs.length s.cap

section
variable {H : Type} {enc : TypeId × Value → H} {P : Program} {W : World} {spare : Nat → Bool} {held : Bool}

/-- Cells that are read as a value of type t are those of some a that is good. -/
def Opn (enc : TypeId × Value → H) (P : Program) (W : World) (spare : Nat → Bool) (held : Bool) (t : TypeId) {α : Type} (f : α → List Value) (good : α → Prop) : Prop :=
  ∀ fuel cs y, DataW.trod enc P W 0 spare held fuel t cs = some y → ∃ a, cs = f a ∧ good a

theorem op_map {t : TypeId} {α β : Type} {f : α → List Value} {good : α → Prop} {f' : β → List Value} {good' : β → Prop} (h : Opn enc P W spare held t f good) (g : α → β) (hf : ∀ a, f a = f' (g a)) (hg : ∀ a, good a → good' (g a)) : Opn enc P W spare held t f' good' := by
  intro fuel cs y hy
  obtain ⟨a, h1, h2⟩ := h fuel cs y hy
  exact ⟨g a, h1.trans (hf a), hg a h2⟩

theorem op_int {t : TypeId} {k : IntKind} (ht : P.underlying t = some (.int k)) : Opn enc P W spare held t (fun z : Int => [Value.int k z]) (fun z => (Lit.int k z).wf = true) := by
  intro fuel cs y hy
  obtain ⟨m, rfl, rfl, hw⟩ := DataW.trod_int ht hy
  exact ⟨m, rfl, hw⟩

/-- What is known of a slice that came in. -/
structure SlG {α : Type} (W : World) (f : α → List Value) (good : α → Prop) (s : SlM α) : Prop where
  old : Old W s.A (s.xs.flatMap f)
  good : ∀ a ∈ s.xs, good a
  len : s.xs.length ≤ maxLen
  cap : s.xs.length ≤ s.cap

theorem op_slice {t e q : TypeId} {α : Type} {f : α → List Value} {good : α → Prop} (ht : P.underlying t = some (.slice e)) (hc : P.cellsOf e = q) (h0 : 0 < q) (h : Opn enc P W spare held e f good) : Opn enc P W spare held t (fun s : SlM α => [s.val]) (SlG W f good) := by
  intro fuel cs y hy
  rcases open_slice ht hy with ⟨rfl, _⟩ | ⟨a, len, cap, m, n, D, Pl, rfl, _, hlc, _⟩
  · exact ⟨⟨none, 0, []⟩, rfl, ⟨(fun j v hv => by simp at hv), (fun a ha => by cases ha), Nat.zero_le _, Nat.zero_le _⟩⟩
  · obtain ⟨l, h1, h2, h3, h4, _⟩ := open_rows ht hc h0 (fun n cs y _ hy => h n cs y hy) hy
    subst h1
    exact ⟨⟨some a, cap, l⟩, rfl, h2, h3, h4, hlc⟩

/-- The same for the fields of a struct, one behind the other. -/
def FOpn (enc : TypeId × Value → H) (P : Program) (W : World) (spare : Nat → Bool) (held : Bool) (ts : List TypeId) {α : Type} (f : α → List Value) (good : α → Prop) : Prop :=
  ∀ (n : Nat) (cs : List Value), cs.length = (ts.map P.cellsOf).sum → (∀ i t, ts[i]? = some t → ∃ y, DataW.trod enc P W 0 spare held n t ((cs.drop ((ts.take i).map P.cellsOf).sum).take (P.cellsOf t)) = some y) → ∃ a, cs = f a ∧ good a

theorem fop_nil : FOpn enc P W spare held [] (fun _ : Unit => []) (fun _ => True) := fun n cs h _ => ⟨(), List.eq_nil_of_length_eq_zero (by simpa using h), trivial⟩
theorem fop_cons {t : TypeId} {ts : List TypeId} {α β : Type} {f : α → List Value} {good : α → Prop} {g : β → List Value} {good' : β → Prop} (h : Opn enc P W spare held t f good) (hs : FOpn enc P W spare held ts g good') :
    FOpn enc P W spare held (t :: ts) (fun x : α × β => f x.1 ++ g x.2) (fun x => good x.1 ∧ good' x.2) := by
  intro n cs hl hx
  simp only [List.map_cons, List.sum_cons] at hl
  obtain ⟨y, hy⟩ := hx 0 t rfl
  simp only [List.take_zero, List.map_nil, List.sum_nil, List.drop_zero] at hy
  obtain ⟨a, h1, h2⟩ := h n _ y hy
  obtain ⟨b, h3, h4⟩ := hs n (cs.drop (P.cellsOf t)) (by simp; omega) (fun i u hu => by
    obtain ⟨y, hy⟩ := hx (i + 1) u (by simpa using hu)
    refine ⟨y, ?_⟩
    rw [List.drop_drop]
    simpa using hy)
  exact ⟨(a, b), by show cs = f a ++ g b; rw [← h1, ← h3, List.take_append_drop], h2, h4⟩

def offs (P : Program) : List TypeId → Nat → List Nat
  | [], _ => []
  | t :: ts, o => o :: offs P ts (o + P.cellsOf t)
theorem offs_get (P : Program) : ∀ (ts : List TypeId) (o i : Nat), i < ts.length → (offs P ts o)[i]? = some (o + ((ts.take i).map P.cellsOf).sum)
  | [], _, _, h => by simp at h
  | t :: ts, o, 0, _ => by simp [offs]
  | t :: ts, o, i + 1, h => by
    rw [offs, List.getElem?_cons_succ, offs_get P ts _ i (by simpa using h)]
    simp [Nat.add_assoc]
/-- A struct whose fields have these types, one behind the other. -/
def structB (P : Program) (t : TypeId) (ts : List TypeId) : Bool :=
  match P.underlying t with
  | some (.struct fs) => (fs.toList.map (·.type) == ts) && (fs.toList.map (·.offset) == offs P ts 0) && (P.cellsOf t == (ts.map P.cellsOf).sum)
  | _ => false

theorem op_struct {t : TypeId} {ts : List TypeId} {α : Type} {f : α → List Value} {good : α → Prop} (hB : structB P t ts = true) (h : FOpn enc P W spare held ts f good) : Opn enc P W spare held t f good := by
  intro fuel cs y hy
  unfold structB at hB
  cases hu : P.underlying t with
  | none => rw [hu] at hB; cases hB
  | some d =>
    rw [hu] at hB
    cases d with
    | struct fs =>
      simp only [Bool.and_eq_true, beq_iff_eq] at hB
      obtain ⟨⟨h1, h2⟩, h3⟩ := hB
      obtain ⟨xs, n, _, _, hl, hn, hx⟩ := DataW.trod_struct hu hy
      refine h n cs (hl.trans h3) fun i u hi => ?_
      have hlt : i < ts.length := (List.getElem?_eq_some_iff.1 hi).1
      have hlf : i < fs.toList.length := by rw [← h1] at hlt; simpa using hlt
      have hf : fs[i]? = some (fs.toList[i]) := by rw [← Array.getElem?_toList, List.getElem?_eq_getElem hlf]
      have ht : (fs.toList[i]).type = u := by
        rw [← h1, List.getElem?_map, List.getElem?_eq_getElem hlf] at hi
        simpa using hi
      have ho : (fs.toList[i]).offset = ((ts.take i).map P.cellsOf).sum := by
        have h5 := offs_get P ts 0 i hlt
        rw [← h2, List.getElem?_map, List.getElem?_eq_getElem hlf] at h5
        simpa using h5
      have h6 := hx i _ hf
      rw [ht, ho] at h6
      have hlx : i < xs.length := by rw [hn]; simpa using hlf
      exact ⟨xs[i], by rw [h6, List.getElem?_eq_getElem hlx]⟩
    | _ => cases hB

theorem wf_i64 {z : Int} (h : (Lit.int .i64 z).wf = true) : -9223372036854775808 ≤ z ∧ z ≤ 9223372036854775807 := by
  simp only [Lit.wf, Bool.and_eq_true, decide_eq_true_eq] at h
  have e1 : IntKind.min .i64 = -9223372036854775808 := by decide
  have e2 : IntKind.max .i64 = 9223372036854775807 := by decide
  omega
end
end Go.Eng

/- A network that came in as an argument. -/
namespace Go.Proofs.Ytleldppdflgmgaa
open Go.ChangeShapes Go.WideShapes Go.ChangeAt Go.RowKit Go.Eng Go.Nw

section
variable {H : Type} {enc : TypeId × Value → H} {W : World} {spare : Nat → Bool} {held : Bool}
abbrev I64 (z : Int) : Prop := (Lit.int .i64 z).wf = true
theorem op_i : Opn enc Try.prog W spare held 3 numF I64 := op_int Try.underlying3
theorem op_ints : Opn enc Try.prog W spare held 22 (fun s : SlM Int => [s.val]) (SlG W numF I64) := op_slice (q := 1) Try.underlying22 (by kernel_rfl) (by decide) op_i
theorem op_rows : Opn enc Try.prog W spare held 26 (fun s : SlM (SlM Int) => [s.val]) (SlG W (fun s : SlM Int => [s.val]) (SlG W numF I64)) := op_slice (q := 1) Try.underlying26 (by kernel_rfl) (by decide) op_ints
theorem op_link : Opn enc Try.prog W spare held 68 lkF (fun l => I64 l.1 ∧ I64 l.2.1 ∧ I64 l.2.2) :=
  op_map (op_struct (ts := [3, 3, 3]) (by kernel_rfl) (fop_cons op_i (fop_cons op_i (fop_cons op_i fop_nil)))) (fun x => (x.1, x.2.1, x.2.2.1)) (fun _ => rfl) (fun _ h => ⟨h.1, h.2.1, h.2.2.1⟩)
theorem op_links : Opn enc Try.prog W spare held 27 (fun s : SlM Lk => [s.val]) (SlG W lkF fun l => I64 l.1 ∧ I64 l.2.1 ∧ I64 l.2.2) := op_slice (q := 3) Try.underlying27 (by kernel_rfl) (by decide) op_link

structure NetG (W : World) (n : NetM) : Prop where
  nodes : I64 n.nodes
  pw : Old W n.pA (n.rows.flatMap rowF)
  rw_ : ∀ r ∈ n.rows, Old W r.A (r.xs.flatMap numF)
  noise : I64 n.noise
  thr : I64 n.thr
  lk : Old W n.lA (n.links.flatMap lkF)
  mg : Old W n.mA (n.margin.flatMap numF)
  s1 : n.rows.length ≤ 9223372036854775807
  s2 : ∀ r ∈ n.rows, r.xs.length ≤ 9223372036854775807
  s3 : n.links.length ≤ 9223372036854775807
  s4 : n.margin.length ≤ 9223372036854775807
  w1 : ∀ r ∈ n.rows, ∀ z ∈ r.xs, I64 z
  w2 : ∀ l ∈ n.links, I64 l.1 ∧ I64 l.2.1 ∧ I64 l.2.2
  w3 : ∀ z ∈ n.margin, I64 z
  c3 : n.links.length ≤ n.lcap
  c4 : n.margin.length ≤ n.mcap
theorem NetG.In {n : NetM} {K : List HP} (h : NetG W n) : n.In W.heap.size W K := ⟨h.pw.rd, fun r hr => (h.rw_ r hr).rd, h.lk.rd, h.mg.rd, h.s1, h.s2, h.s3, h.s4⟩

def netF (n : NetM) : List Value := [.int .i64 n.nodes, .slice n.pA n.rows.length n.pcap, .int .i64 n.noise, .int .i64 n.thr, .slice n.lA n.links.length n.lcap, .slice n.mA n.margin.length n.mcap]
def rowOf (s : SlM Int) : RowM := ⟨s.A, s.cap, s.xs⟩
theorem flat_rowOf (l : List (SlM Int)) : (l.map rowOf).flatMap rowF = l.flatMap fun s => [s.val] := by rw [List.flatMap_map]; rfl
theorem maxL : maxLen ≤ 9223372036854775807 := by decide
theorem op_net : Opn enc Try.prog W spare held 29 netF (NetG W) :=
  op_map (op_struct (ts := [3, 26, 3, 3, 27, 22]) (by kernel_rfl) (fop_cons op_i (fop_cons op_rows (fop_cons op_i (fop_cons op_i (fop_cons op_links (fop_cons op_ints fop_nil)))))))
    (fun x => ⟨x.1, x.2.1.A, x.2.1.cap, x.2.1.xs.map rowOf, x.2.2.1, x.2.2.2.1, x.2.2.2.2.1.A, x.2.2.2.2.1.cap, x.2.2.2.2.1.xs, x.2.2.2.2.2.1.A, x.2.2.2.2.2.1.cap, x.2.2.2.2.2.1.xs⟩)
    (fun x => by simp [netF, numF, SlM.val])
    (fun x h => by
      obtain ⟨h1, h2, h3, h4, h5, h6, _⟩ := h
      have hm := maxL
      refine ⟨h1, ?_, ?_, h3, h4, h5.old, h6.old, ?_, ?_, Nat.le_trans h5.len hm, Nat.le_trans h6.len hm, ?_, h5.good, h6.good, h5.cap, h6.cap⟩
      · rw [flat_rowOf]; exact h2.old
      · intro r hr
        obtain ⟨s, hs, rfl⟩ := List.mem_map.1 hr
        exact (h2.good s hs).old
      · rw [List.length_map]; exact Nat.le_trans h2.len hm
      · intro r hr
        obtain ⟨s, hs, rfl⟩ := List.mem_map.1 hr
        exact Nat.le_trans (h2.good s hs).len hm
      · intro r hr
        obtain ⟨s, hs, rfl⟩ := List.mem_map.1 hr
        exact (h2.good s hs).good)

set_option maxRecDepth 100000 in
theorem open_net {r : Reach} {b0 : Nat} {v : Value} {d : DataW H} {p : List MemPlace} (hv : Value.okWide Try.prog W r b0 29 v) (h : DataW.Trod enc Try.prog W 0 spare held 29 v d p) : ∃ n : NetM, v = n.val ∧ NetG W n := by
  obtain ⟨cs, rfl, _⟩ := okWide_struct Try.underlying29 hv
  obtain ⟨fuel, hf⟩ := h
  obtain ⟨n, h1, h2⟩ := op_net fuel _ _ hf
  refine ⟨n, ?_, h2⟩
  have : cs = (netF n).toArray := by rw [← h1]; simp [Value.cells]
  rw [this]; rfl
end
end Go.Proofs.Ytleldppdflgmgaa

/- Routes and potentials that came in as arguments. -/
namespace Go.Proofs.Ytleldppdflgmgaa
open Go.ChangeShapes Go.WideShapes Go.ChangeAt Go.RowKit Go.Eng Go.Nw

section
variable {H : Type} {enc : TypeId × Value → H} {W : World} {spare : Nat → Bool} {held : Bool}
/-- A route as it came in. -/
structure RtG (W : World) (r : RowM) : Prop where
  old : Old W r.A (r.xs.flatMap numF)
  len : r.xs.length ≤ 9223372036854775807
  cap : r.xs.length ≤ r.cap
  good : ∀ z ∈ r.xs, I64 z
theorem op_route : Opn enc Try.prog W spare held 23 rowF (RtG W) :=
  op_map (op_slice (q := 1) Try.underlying23 (by kernel_rfl) (by decide) op_i) rowOf (fun _ => rfl) (fun _ h => ⟨h.old, Nat.le_trans h.len maxL, h.cap, h.good⟩)
theorem op_nums : Opn enc Try.prog W spare held 22 rowF (RtG W) :=
  op_map op_ints rowOf (fun _ => rfl) (fun _ h => ⟨h.old, Nat.le_trans h.len maxL, h.cap, h.good⟩)
set_option maxRecDepth 100000 in
theorem open_route {r : Reach} {b0 : Nat} {v : Value} {d : DataW H} {p : List MemPlace} (hv : Value.okWide Try.prog W r b0 23 v) (h : DataW.Trod enc Try.prog W 0 spare held 23 v d p) : ∃ n : RowM, v = .slice n.A n.xs.length n.cap ∧ RtG W n := by
  obtain ⟨A, len, cap, rfl⟩ := okWide_slice Try.underlying23 hv
  obtain ⟨fuel, hf⟩ := h
  obtain ⟨s, h1, h2⟩ := op_route fuel _ _ hf
  refine ⟨s, ?_, h2⟩
  injection h1
def potV (i o : RowM) : Value := .agg #[.slice i.A i.xs.length i.cap, .slice o.A o.xs.length o.cap]
theorem op_pot : Opn enc Try.prog W spare held 40 (fun p : RowM × RowM => rowF p.1 ++ rowF p.2) (fun p => RtG W p.1 ∧ RtG W p.2) :=
  op_map (op_struct (ts := [22, 22]) (by kernel_rfl) (fop_cons op_nums (fop_cons op_nums fop_nil))) (fun x => (x.1, x.2.1)) (fun x => by simp [rowF]) (fun x h => ⟨h.1, h.2.1⟩)
set_option maxRecDepth 100000 in
theorem open_pot {r : Reach} {b0 : Nat} {v : Value} {d : DataW H} {p : List MemPlace} (hv : Value.okWide Try.prog W r b0 40 v) (h : DataW.Trod enc Try.prog W 0 spare held 40 v d p) : ∃ n : RowM × RowM, v = potV n.1 n.2 ∧ (RtG W n.1 ∧ RtG W n.2) := by
  obtain ⟨cs, rfl, _⟩ := okWide_struct Try.underlying40 hv
  obtain ⟨fuel, hf⟩ := h
  obtain ⟨n, h1, h2⟩ := op_pot fuel _ _ hf
  refine ⟨n, ?_, h2⟩
  have h3 : cs.toList = rowF n.1 ++ rowF n.2 := h1
  have : cs = (rowF n.1 ++ rowF n.2).toArray := by rw [← h3]
  rw [this]; rfl
end
end Go.Proofs.Ytleldppdflgmgaa

/- From a walk to a row: a law that returns true and leaves memory below as it was. -/
namespace Go.Proofs.Ytleldppdflgmgaa
open Go.ChangeShapes Go.WideShapes Go.ChangeAt Go.RowKit

section
variable {H : Type} {enc : TypeId × Value → H} {P : Program}

theorem trodAll_keep (hl : laidOutB P = true) {W W' : World} {sp : Nat → Bool} : ∀ {ts : List TypeId} {vs : List Value} {ds : List (DataW H)} {ps : List MemPlace}, (ts.all fun t => P.readableRec t && decide (t < P.types.size)) = true →
    DataW.TrodAll enc P W 0 (fun _ => true) true ts vs ds ps → (∀ p ∈ ps, W.sameAt W' p) → (∀ p ∈ ps, sp p.block = true) → DataW.TrodAll enc P W' 0 sp true ts vs ds ps
  | [], [], [], _, _, h, _, _ => h
  | [], [], _ :: _, _, _, h, _, _ => h.elim
  | [], _ :: _, _, _, _, h, _, _ => h.elim
  | _ :: _, [], _, _, _, h, _, _ => h.elim
  | _ :: _, _ :: _, [], _, _, h, _, _ => h.elim
  | t :: ts, v :: vs, d :: ds, ps, hr, h, hs, hp => by
    obtain ⟨p, q, h1, h2, rfl⟩ := h
    simp only [List.all_cons, Bool.and_eq_true, decide_eq_true_eq] at hr
    exact ⟨p, q, WideElems.Trod_stays hl hr.1.1 hr.1.2 h1 (fun x hx => hs x (by simp [hx])) (fun x hx => hp x (by simp [hx])), trodAll_keep hl hr.2 h2 (fun x hx => hs x (by simp [hx])) (fun x hx => hp x (by simp [hx])), rfl⟩

/-- The call returned true, and below the heap's old end nothing is changed: what the row asks. -/
theorem post_true {f : Func} {s : ChangeSpec} {apart fresh handsOn again : Bool} {W W' : World} {args : Array Value} {ds gs : List (DataW H)} {before : List MemPlace} {tb : TypeId} (hl : laidOutB P = true)
    (hrd : (f.params.toList.all fun t => P.readableRec t && decide (t < P.types.size)) = true) (hv : s.vars = []) (hrt : f.resultTypes = #[tb]) (htb : P.underlying tb = some .bool)
    (hW : DataW.Whole enc P f.params.toList s.vars apart W args.toList ds gs before) (hb : Below W.heap.size W W')
    (hres : (s.fn H (ds ++ gs)).results = [.lit (.bool true)]) (hargs : (s.fn H (ds ++ gs)).args = ds) (hvars : (s.fn H (ds ++ gs)).vars = []) :
    s.post enc P f apart fresh handsOn again W args (.bool true) W' := by
  have hlt : ∀ p ∈ before, p.block < W.heap.size := fun p hp => hW.lt p hp
  have hW0 := hW
  obtain ⟨p, q, hA, hV, rfl, hz, hn⟩ := hW
  rw [hv] at hV
  have hq : gs = [] ∧ q = [] := by
    cases gs with
    | nil => exact ⟨rfl, hV⟩
    | cons _ _ => exact hV.elim
  obtain ⟨rfl, rfl⟩ := hq
  have hkeep : ∀ sp : Nat → Bool, (∀ x ∈ p ++ [], sp x.block = true) → DataW.TrodAll enc P W' 0 sp true f.params.toList args.toList ds p := fun sp hsp =>
    trodAll_keep hl hrd hA (fun x hx => hb.same (hlt x (by simpa using hx))) (fun x hx => hsp x (by simpa using hx))
  have hR : ∀ (b : Nat) (sp : Nat → Bool) (hd : Bool), DataW.TrodAll enc P W' b sp hd f.resultTypes.toList ((Value.bool true).resultList f.resultTypes.size) (s.fn H (ds ++ [])).results [] := by
    intro b sp hd
    rw [hres, hrt]
    exact trodAll_mk1 (shut_bool htb true)
  have hok := ok_one (P := P) (W' := W') (f := f) (v := .bool true) hrt rfl (okWide_bool_mk htb true)
  have hold : ∀ x ∈ p ++ [], (fun b => decide (b < W.heap.size)) x.block = true := fun x hx => by simpa using hlt x hx
  refine ⟨ds, [], p ++ [], [], p, [], hW0, hR _ _ _, by rw [hargs]; exact hkeep _ hold, by rw [hvars, hv]; rfl, World.keptBut_mono (fun x hx => ⟨hx, Or.inr (by simpa using hx)⟩) (hb.frame (· ∈ p ++ [])), fun _ => ?_⟩
  refine ⟨hok, _, _, ([] ++ p) ++ [], ⟨[] ++ p, [], trodAll_append (hkeep _ (fun _ _ => rfl)) (hR _ _ _), (show DataW.TrodVars enc P W' (fun _ => true) s.vars [] [] by rw [hv]; rfl), rfl, ?_, ?_⟩, ?_⟩
  · intro b off hp
    have hin : MemPlace.cell b off ∈ p ++ [] := by simpa using hp
    rw [hb.frozen (hlt _ hin)]
    exact hz b off hin
  · intro ha
    simpa using hn ha
  · intro x hx _
    simpa using hx
end
end Go.Proofs.Ytleldppdflgmgaa

/- From a walk to a row: more arguments; bounds of numbers. -/
namespace Go.Proofs.Ytleldppdflgmgaa
open Go.ChangeShapes Go.WideShapes Go.ChangeAt Go.RowKit
section
variable {H : Type} {enc : TypeId × Value → H} {P : Program} {w : World} {base : Nat} {spare : Nat → Bool} {held : Bool}
theorem trodAll_five {t t1 t2 t3 t4 : TypeId} {args : Array Value} {ds : List (DataW H)} {ps : List MemPlace} (h : DataW.TrodAll enc P w base spare held [t, t1, t2, t3, t4] args.toList ds ps) :
    ∃ v v1 v2 v3 v4 d d1 d2 d3 d4 p p1 p2 p3 p4, args = #[v, v1, v2, v3, v4] ∧ ds = [d, d1, d2, d3, d4] ∧ ps = p ++ p1 ++ p2 ++ p3 ++ p4 ∧ DataW.Trod enc P w base spare held t v d p ∧ DataW.Trod enc P w base spare held t1 v1 d1 p1 ∧ DataW.Trod enc P w base spare held t2 v2 d2 p2 ∧ DataW.Trod enc P w base spare held t3 v3 d3 p3 ∧ DataW.Trod enc P w base spare held t4 v4 d4 p4 := by
  obtain ⟨v, vs, d, ds', p, q, hargs, rfl, rfl, hd, hrest⟩ := trodAll_cons h
  obtain ⟨v1, vs1, d1, ds1, p1, q1, rfl, rfl, rfl, hd1, hrest1⟩ := trodAll_cons hrest
  obtain ⟨v2, vs2, d2, ds2, p2, q2, rfl, rfl, rfl, hd2, hrest2⟩ := trodAll_cons hrest1
  obtain ⟨v3, vs3, d3, ds3, p3, q3, rfl, rfl, rfl, hd3, hrest3⟩ := trodAll_cons hrest2
  obtain ⟨v4, vs4, d4, ds4, p4, q4, rfl, rfl, rfl, hd4, hrest4⟩ := trodAll_cons hrest3
  obtain ⟨rfl, rfl, rfl⟩ := trodAll_nil hrest4
  exact ⟨v, v1, v2, v3, v4, d, d1, d2, d3, d4, p, p1, p2, p3, p4, by cases args; simp_all, rfl, by simp, hd, hd1, hd2, hd3, hd4⟩
end
theorem wf_u32 {z : Int} (h : (Lit.int .u32 z).wf = true) : 0 ≤ z ∧ z ≤ 4294967295 := by
  simp only [Lit.wf, Bool.and_eq_true, decide_eq_true_eq] at h
  have e1 : IntKind.min .u32 = 0 := by decide
  have e2 : IntKind.max .u32 = 4294967295 := by decide
  omega
theorem wf_u8 {z : Int} (h : (Lit.int .u8 z).wf = true) : 0 ≤ z ∧ z ≤ 255 := by
  simp only [Lit.wf, Bool.and_eq_true, decide_eq_true_eq] at h
  have e1 : IntKind.min .u8 = 0 := by decide
  have e2 : IntKind.max .u8 = 255 := by decide
  omega
end Go.Proofs.Ytleldppdflgmgaa

/- The law RouteShortest returns true at every input, and its arguments read behind the call as they read before: the statement Rows.RouteShortestSaid. No condition. -/
namespace Go.Proofs.Ytleldppdflgmgaa
open Go.ChangeShapes Go.WideShapes Go.ChangeAt Go.RowKit Go.Eng
open Go.ChangeMaps (open_string)

theorem Try.own : ownKnob Try.prog.godebug = none := by kernel_rfl
theorem Try.laidOut : laidOutB Try.prog = true := by kernel_rfl

set_option maxRecDepth 100000 in
theorem rshortestR_lifted (os : Os) (started : os.Started) (H : Type) (enc : TypeId × Value → H) :
    ReturnsInHanded {} Try.checked os 4 .any (Rows.routeShortestSpec.pre6 enc Try.prog Try.f4 Rows.routeShortestRow.domain false) (Rows.routeShortestSpec.post enc Try.prog Try.f4 false true false false) := by
  refine returnsInHanded_of_change (C := Try.checked) Try.own started (by kernel_rfl) Try.func4
    (ChangeSpec.witness6 (enc := enc) (C := Try.checked) false ⟨#[], #[.agg #[.int .i64 0, .slice none 0 0, .int .i64 0, .int .i64 0, .slice none 0 0, .slice none 0 0], .int .i64 0, .int .i64 0], []⟩ 8 (by kernel_rfl) (by kernel_rfl) (by kernel_rfl) (by kernel_rfl)) ?_
  intro W base args ds gs before hval0 hW hcnd _
  have hval : ∀ (j : Nat) t v, Try.f4.params[j]? = some t → args[j]? = some v → Value.okWide Try.prog W .any base t v := hval0
  have hW' : DataW.Whole enc Try.prog Try.f4.params.toList Rows.routeShortestSpec.vars false W args.toList ds gs before := hW
  obtain ⟨p, q, hA0, hV, rfl, hfz, hnd⟩ := hW
  have hA : DataW.TrodAll enc Try.prog W 0 (fun _ => true) true Try.f4.params.toList args.toList ds p := hA0
  obtain ⟨rfl, rfl⟩ := trodVars_none hV
  rw [Try.params4] at hA hval
  obtain ⟨v0, v1, v2, d0, d1, d2, p0, p1, p2, rfl, rfl, rfl, h0, h1, h2⟩ := trodAll_three hA
  obtain ⟨n, rfl, hn⟩ := open_net (hval 0 _ v0 rfl rfl) h0
  obtain ⟨s, rfl, -, -, hws⟩ := open_int Try.underlying3 (hval 1 _ v1 rfl rfl) h1
  have hs := wf_i64 hws
  obtain ⟨t, rfl, -, -, hwt⟩ := open_int Try.underlying3 (hval 2 _ v2 rfl rfl) h2
  have ht := wf_i64 hwt
  refine (law_shortest n s t hn.In (St.start W)).mono ?_
  rintro e' W' ⟨v, K, rfl, hst, rfl, -⟩
  exact ⟨_, rfl, post_true Try.laidOut (by kernel_rfl) rfl rfl Try.underlying4 hW' hst.below rfl rfl rfl⟩

theorem rshortestR_holds : Rows.RouteShortestSaid :=
  OpenClaim.holds_of_wide 4 Try.f4 rfl rfl rfl rfl rfl rfl rfl ⟨rfl, rfl, rfl, rfl, rfl⟩ rfl rfl rfl rfl rfl (by kernel_rfl) Try.func4 (by kernel_rfl)
    (of_decide_eq_true (by kernel_rfl)) (by unfold Func.isWrapper; first | (rw [if_pos (by decide +kernel)]; kernel_rfl) | (rw [if_neg (by decide +kernel)]; exact ⟨rfl, rfl⟩))
    (fun os started H enc _ => rshortestR_lifted os started H enc)
end Go.Proofs.Ytleldppdflgmgaa
