/- Lemmas for the claim, part 6. -/
import Derived.Test.YtleldppdflgmgaaQ5

/- Walk: awake. -/
namespace Go.Proofs.Ytleldppdflgmgaa
open Go.RowKit Go.Eng Go.Nw Go.Rt

set_option maxRecDepth 10000 in
set_option maxHeartbeats 2000000 in
theorem awakeR_spec {B : Nat} {w0 : World} {H : List HP} {w : World} (hw : St B w0 H w) :
    Calls Try.prog 10 [].toArray w (Post B w0 fun v K => v = .bool true ∧ K = H) := by
  refine Calls_of_VC Try.func10 Try.ntmps10 rfl rfl hw ?_
  repeat' (first | apply (zs2 ?_) | apply (zs65 ?_) | apply (zs68 ?_) | apply (zs69 ?_) | apply (zs70 ?_) | fail)
  apply VL_call _ en30
  (repeat (first | exact args_nil | (apply args_cons; exact rfl)))
  exact rfl
  exact fun _ hw => (exampleR_spec (hw))
  rintro _ K ⟨n, rfl, hN, hin, hK⟩
  have hsh := fun {H : List HP} {w : World} (hin : n.In B w0 H) (hw : St B w0 H w) => shortest_spec n 0 3 hin hw
  rw [hN, ex_short] at hsh
  have hpa := fun {H : List HP} {w : World} (hin : n.In B w0 H) (hw : St B w0 H w) => Pair_spec n 0 3 30 _ (by omega) (by rw [hN]; exact ex_pair) hin hw
  have hpr := fun {H : List HP} {w : World} (hin : n.In B w0 H) (hw : St B w0 H w) => prove_spec n 0 3 30 _ (by omega) (by rw [hN]; exact ex_prove) hin hw
  have hb1 := fun {A1 A2 : Option Addr} {c1 c2 : Nat} {H : List HP} {w : World} (hin : n.In B w0 H) (h1 : Rd B w0 H A1 (([0, 1, 1, 3] : List Int).flatMap numF)) (h2 : Rd B w0 H A2 (([0, 1, 1, 2] : List Int).flatMap numF)) (hw : St B w0 H w) => bound_spec n 0 3 [0, 1, 1, 3] [0, 1, 1, 2] (c1 := c1) (c2 := c2) (by simp) (by simp) hin h1 h2 hw
  rw [hN, ex_bound1] at hb1
  have hb2 := fun {A1 A2 : Option Addr} {c1 c2 : Nat} {H : List HP} {w : World} (hin : n.In B w0 H) (h1 : Rd B w0 H A1 (([3, 2, 2, 3] : List Int).flatMap numF)) (h2 : Rd B w0 H A2 (([0, 2, 2, 3] : List Int).flatMap numF)) (hw : St B w0 H w) => bound_spec n 0 3 [3, 2, 2, 3] [0, 2, 2, 3] (c1 := c1) (c2 := c2) (by simp) (by simp) hin h1 h2 hw
  rw [hN, ex_bound2] at hb2
  dsimp only at hsh hpa hpr hb1 hb2
  clear hN
  repeat' (first | (apply zg3; refine zs8 ?_) | (apply zg22; refine zs51 ?_) | (apply zg24; (refine zs54 ?_; intro _)) | apply (zs65 ?_) | apply (zs68 ?_) | apply (zs69 ?_) | apply (zs70 ?_) | fail)
  apply VL_call _ en14
  (repeat (first | exact args_nil | (apply args_cons; exact rfl)))
  exact rfl
  exact fun _ hw => (hsh hin.cons (hw))
  rintro _ _ ⟨Ar, cr, rfl, _, _, rfl⟩
  repeat' (first | apply (zs1 ?_) | apply (zs2 ?_) | (apply zg3; refine zs8 ?_) | apply (zs13 ?_) | apply (zs65 ?_) | apply (zs68 ?_) | apply (zs69 ?_) | apply (zs70 ?_) | fail)
  apply VL_call _ en17
  (repeat (first | exact args_nil | (apply args_cons; exact rfl)))
  exact rfl
  exact fun _ hw => (hpa hin.cons.cons (hw))
  rintro _ _ ⟨gL, A1, c1, A2, c2, rfl, _, _, rfl⟩
  repeat' (first | apply (zs1 ?_) | apply (zs2 ?_) | (apply zg3; refine zs8 ?_) | apply (zs13 ?_) | (apply zg25; refine zs55 ?_) | (apply zg26; (refine zs56 ?_; intro _)) | apply (zs65 ?_) | apply (zs68 ?_) | apply (zs69 ?_) | apply (zs70 ?_) | fail)
  rename_i g25 g26
  apply VL_call _ en20
  (repeat (first | exact args_nil | (apply args_cons; exact rfl)))
  exact rfl
  exact fun _ hw => (hb1 (A1 := some ⟨g25, 0, none⟩) (A2 := some ⟨g26, 0, none⟩) (c1 := 4) (c2 := 4) hin.cons.cons.cons.cons.cons.cons.cons (Rd.blk (cs := #[.int .i64 0, .int .i64 1, .int .i64 1, .int .i64 3]) (by (focus repeat (first | with_reducible exact List.mem_cons_self | with_reducible apply List.mem_cons_of_mem | assumption)))) (Rd.blk (cs := #[.int .i64 0, .int .i64 1, .int .i64 1, .int .i64 2]) (by (focus repeat (first | with_reducible exact List.mem_cons_self | with_reducible apply List.mem_cons_of_mem | assumption)))) (hw))
  rintro _ _ ⟨rfl, rfl⟩
  repeat' (first | apply (zs1 ?_) | apply (zs2 ?_) | (apply zg3; refine zs8 ?_) | apply (zs13 ?_) | apply (zs65 ?_) | apply (zs68 ?_) | apply (zs69 ?_) | apply (zs70 ?_) | fail)
  apply VL_call _ en26
  (repeat (first | exact args_nil | (apply args_cons; exact rfl)))
  exact rfl
  exact fun _ hw => (hpr hin.cons.cons.cons.cons.cons.cons.cons (hw))
  rintro _ _ ⟨A3, c3, A4, c4, rfl, _, rfl⟩
  repeat' (first | apply (zs1 ?_) | apply (zs2 ?_) | (apply zg3; refine zs8 ?_) | apply (zs13 ?_) | (apply zg22; refine zs51 ?_) | (apply zg24; (refine zs54 ?_; intro _)) | apply (zs65 ?_) | apply (zs68 ?_) | apply (zs69 ?_) | apply (zs70 ?_) | fail)
  apply VL_call _ en20
  (repeat (first | exact args_nil | (apply args_cons; exact rfl)))
  exact rfl
  exact fun _ hw => (hb2 (A1 := A3) (A2 := A4) (c1 := c3) (c2 := c4) hin.cons.cons.cons.cons.cons.cons.cons.cons.cons.cons (.sl (by (focus repeat (first | with_reducible exact List.mem_cons_self | with_reducible apply List.mem_cons_of_mem | assumption)))) (.sl (by (focus repeat (first | with_reducible exact List.mem_cons_self | with_reducible apply List.mem_cons_of_mem | assumption)))) (hw))
  rintro _ _ ⟨rfl, rfl⟩
  repeat' (first | apply (zs1 ?_) | apply (zs2 ?_) | apply (zs13 ?_) | apply (zs65 ?_) | apply (zs68 ?_) | apply (zs69 ?_) | fail)
  refine VC_st (sl 23 1 (some ⟨gL, 0, none⟩) 2 2 ([(⟨A1, c1, [0, 1, 3]⟩ : RowM), ⟨A2, c2, [0, 2, 3]⟩].flatMap rowF) :: ints A1 c1 [0, 1, 3] :: ints A2 c2 [0, 2, 3] :: ints Ar cr [0, 1, 3] :: K) (by (intro w hw; refine hw.perm ?_; focus repeat (first | exact Perm.refl _ | (apply perm_take; focus ((repeat (first | exact rem_here | apply rem_there)); done)) | apply Perm.dropK))) ?_
  refine VC_sub [(2, .slice Ar 3 cr), (3, .int .i64 0), (4, .slice (some ⟨gL, 0, none⟩) 2 2), (5, .int .i64 0), (6, .int .i64 4), (7, .int .i64 0), (9, .int .i64 0), (10, .int .i64 5), (11, .int .i64 0)] ?_ ?_
  · (repeat (first | exact sub_nil _ | (apply sub_cons; first | exact rfl | exact congrArg (fun z : Int => some (Value.int .i64 z)) (by omega))))
  have hx0 : [(⟨A1, c1, [0, 1, 3]⟩ : RowM), ⟨A2, c2, [0, 2, 3]⟩][(0 : Int).toNat]? = some ⟨A1, c1, [0, 1, 3]⟩ := rfl
  have hx1 : [(⟨A1, c1, [0, 1, 3]⟩ : RowM), ⟨A2, c2, [0, 2, 3]⟩][(1 : Int).toNat]? = some ⟨A2, c2, [0, 2, 3]⟩ := rfl
  have heq := fun {g : Nat} {H : List HP} {w : World} (h1 : Rd B w0 H Ar (([0, 1, 3] : List Int).flatMap numF)) (h2 : blk g (.cells #[.int .i64 0, .int .i64 1, .int .i64 3] 3 (0, 0)) ∈ H) (hw : St B w0 H w) => equal_route [0, 1, 3] [0, 1, 3] (by simp) (by simp) (cap := cr) (cap2 := 3) h1 (Rd.blk h2) hw
  rw [decide_eq_true (rfl : ([0, 1, 3] : List Int) = [0, 1, 3])] at heq
  have hdj := fun {H : List HP} {w : World} (h1 : Rd B w0 H A1 (([0, 1, 3] : List Int).flatMap numF)) (h2 : Rd B w0 H A2 (([0, 2, 3] : List Int).flatMap numF)) (hw : St B w0 H w) => disjoint_spec [0, 1, 3] [0, 2, 3] (by simp) (by simp) (c1 := c1) (c2 := c2) h1 h2 hw
  rw [ex_disj] at hdj
  have hsm := fun {g g5 g6 : Nat} {H : List HP} {w : World} (hl : sl 23 1 (some ⟨gL, 0, none⟩) 2 2 ([(⟨A1, c1, [0, 1, 3]⟩ : RowM), ⟨A2, c2, [0, 2, 3]⟩].flatMap rowF) ∈ H) (h1 : Rd B w0 H A1 (([0, 1, 3] : List Int).flatMap numF)) (h2 : Rd B w0 H A2 (([0, 2, 3] : List Int).flatMap numF)) (h3 : blk g (.cells #[.slice (some ⟨g5, 0, none⟩) 3 3, .slice (some ⟨g6, 0, none⟩) 3 3] 23 (0, 0)) ∈ H) (h4 : blk g5 (.cells #[.int .i64 0, .int .i64 1, .int .i64 3] 3 (0, 0)) ∈ H) (h5 : blk g6 (.cells #[.int .i64 0, .int .i64 2, .int .i64 3] 3 (0, 0)) ∈ H) (hw : St B w0 H w) => calls_val (congrArg Value.bool (decide_eq_true rfl)) (fun _ hw => sameRoutes_spec [⟨A1, c1, [0, 1, 3]⟩, ⟨A2, c2, [0, 2, 3]⟩] [⟨some ⟨g5, 0, none⟩, 3, [0, 1, 3]⟩, ⟨some ⟨g6, 0, none⟩, 3, [0, 2, 3]⟩] (cap := 2) (cap2 := 2) (A := some ⟨gL, 0, none⟩) (A2 := some ⟨g, 0, none⟩) (by simp) (by simp) (by simp) (by simp) (.sl hl) (Rd.blk h3) (fun r hr => by
    simp only [List.mem_cons, List.not_mem_nil, or_false] at hr
    rcases hr with rfl | rfl
    · exact h1
    · exact h2) (fun r hr => by
    simp only [List.mem_cons, List.not_mem_nil, or_false] at hr
    rcases hr with rfl | rfl
    · exact Rd.blk h4
    · exact Rd.blk h5) hw) hw
  apply VC_tree (.n1 0 (.n1 1 (.n1 2 (.n1 3 (.n1 4 (.n1 5 (.n1 6 (.n1 7 (.n1 8 (.n1 9 (.n1 10 (.n1 11 (.n1 12 (.n2 13 (.n1 14 (.n1 15 (.n1 16 (.n1 17 (.n1 18 (.n1 19 (.n1 20 (.n1 21 (.n1 22 (.n1 23 (.n1 24 (.n1 25 (.n1 26 (.n1 27 (.n1 28 (.n1 29 (.n1 30 (.n1 31 (.n1 32 (.n1 33 (.n1 34 (.n1 35 (.n1 36 (.n1 37 (.n1 38 (.n1 39 (.n1 40 (.n1 41 (.n1 42 (.n1 43 (.n1 44 (.n1 45 (.n1 46 (.n1 47 .done)))))))))))))))))))))))))))))))))) 14 (.n1 13 (.n1 15 (.n1 16 (.n1 17 (.n1 18 (.n1 19 (.n1 20 (.n1 21 (.n1 22 (.n1 23 (.n1 24 (.n1 25 (.n1 26 (.n1 27 (.n1 28 (.n1 29 (.n1 30 (.n1 31 (.n1 32 (.n1 33 (.n1 34 (.n1 35 (.n1 36 (.n1 37 (.n1 38 (.n1 39 (.n1 40 (.n1 41 (.n1 42 (.n1 43 (.n1 44 (.n1 45 (.n1 46 (.n1 47 .done)))))))))))))))))))))))))))))))))))))))))))))))) [] [true, true, true, true]
  kernel_rfl
  kernel_rfl
  (repeat (first | with_reducible exact split_nil | with_reducible apply split_t | with_reducible apply split_f))
  exact rfl
  repeat' (first | apply (zs1 ?_) | (apply zg1; refine zs4 ?_) | (apply zg7; (refine zs15 ?_ ?_ <;> intro _ <;> try (exfalso; omega))) | (apply zg26; (refine zs56 ?_; intro _)) | apply (zs65 ?_) | (apply VL_nilh; (repeat (first | with_reducible exact app_nil | with_reducible apply app_cons))) | apply (zs87 ?_) | (apply VQ_heldq; (repeat (first | with_reducible exact pull_nil | (with_reducible apply pull_cons; (repeat (first | with_reducible exact rem_here | with_reducible apply rem_there)))))) | apply (zs90 ?_) | (apply VQ_treeq; (repeat (first | with_reducible exact pull_nil | (with_reducible apply pull_cons; (repeat (first | with_reducible exact rem_here | with_reducible apply rem_there)))))) | fail)
  · skip
    first | apply VL_callt en16 | apply VL_callq en16
    (repeat (first | exact args_nil | (apply args_cons; exact rfl)))
    exact rfl
    exact fun _ hw => (heq (.sl (by (focus repeat (first | with_reducible exact List.mem_cons_self | with_reducible apply List.mem_cons_of_mem | assumption)))) (by (focus repeat (first | with_reducible exact List.mem_cons_self | with_reducible apply List.mem_cons_of_mem | assumption))) hw)
    repeat' (first | apply (zs1 ?_) | (apply zg1; refine zs4 ?_) | (apply zg6; refine zs11 ?_) | (apply zg7; (refine zs15 ?_ ?_ <;> intro _ <;> try (exfalso; omega))) | (apply zg26; (refine zs56 ?_; intro _)) | apply (zs65 ?_) | (apply VL_nilh; (repeat (first | with_reducible exact app_nil | with_reducible apply app_cons))) | apply (zs87 ?_) | (apply VQ_heldq; (repeat (first | with_reducible exact pull_nil | (with_reducible apply pull_cons; (repeat (first | with_reducible exact rem_here | with_reducible apply rem_there)))))) | apply (zs90 ?_) | apply (zs91 ?_ ?_) | (apply VQ_treeq; (repeat (first | with_reducible exact pull_nil | (with_reducible apply pull_cons; (repeat (first | with_reducible exact rem_here | with_reducible apply rem_there)))))) | fail)
    all_goals (
      first | apply VL_callt en19 | apply VL_callq en19
      (repeat (first | exact args_nil | (apply args_cons; exact rfl)))
      exact rfl
      exact fun _ hw => (hsm (by (focus repeat (first | with_reducible exact List.mem_cons_self | with_reducible apply List.mem_cons_of_mem | assumption))) (.sl (by (focus repeat (first | with_reducible exact List.mem_cons_self | with_reducible apply List.mem_cons_of_mem | assumption)))) (.sl (by (focus repeat (first | with_reducible exact List.mem_cons_self | with_reducible apply List.mem_cons_of_mem | assumption)))) (by (focus repeat (first | with_reducible exact List.mem_cons_self | with_reducible apply List.mem_cons_of_mem | assumption))) (by (focus repeat (first | with_reducible exact List.mem_cons_self | with_reducible apply List.mem_cons_of_mem | assumption))) (by (focus repeat (first | with_reducible exact List.mem_cons_self | with_reducible apply List.mem_cons_of_mem | assumption))) hw)
      repeat' (first | (apply VL_index_rd T (f := rowF) (l := [(⟨A1, c1, [0, 1, 3]⟩ : RowM), ⟨A2, c2, [0, 2, 3]⟩]); exact rfl; exact rfl; exact .sl (by (focus repeat (first | with_reducible exact List.mem_cons_self | with_reducible apply List.mem_cons_of_mem | assumption))); exact rfl; exact fun _ => rfl; exact rfl; exact rfl; (simp only [List.length_cons, List.length_nil]; omega)) | (apply VL_load_rd0 T (f := rowF) (l := [(⟨A1, c1, [0, 1, 3]⟩ : RowM), ⟨A2, c2, [0, 2, 3]⟩]); exact rfl; exact .sl (by (focus repeat (first | with_reducible exact List.mem_cons_self | with_reducible apply List.mem_cons_of_mem | assumption))); (first | exact hx0 | exact hx1); exact fun _ => rfl; exact rfl; exact rfl; exact rfl; exact rfl) | apply (zs1 ?_) | (apply zg1; refine zs4 ?_) | (apply zg6; refine zs11 ?_) | (apply zg7; (refine zs15 ?_ ?_ <;> intro _ <;> try (exfalso; omega))) | apply (zs65 ?_) | (apply VL_nilh; (repeat (first | with_reducible exact app_nil | with_reducible apply app_cons))) | apply (zs87 ?_) | (apply VQ_heldq; (repeat (first | with_reducible exact pull_nil | (with_reducible apply pull_cons; (repeat (first | with_reducible exact rem_here | with_reducible apply rem_there)))))) | apply (zs90 ?_) | (apply VQ_treeq; (repeat (first | with_reducible exact pull_nil | (with_reducible apply pull_cons; (repeat (first | with_reducible exact rem_here | with_reducible apply rem_there)))))) | fail)
      first | apply VL_callt en11 | apply VL_callq en11
      (repeat (first | exact args_nil | (apply args_cons; exact rfl)))
      exact rfl
      exact fun _ hw => (hdj (.sl (by (focus repeat (first | with_reducible exact List.mem_cons_self | with_reducible apply List.mem_cons_of_mem | assumption)))) (.sl (by (focus repeat (first | with_reducible exact List.mem_cons_self | with_reducible apply List.mem_cons_of_mem | assumption)))) hw)
      repeat' (first | apply (zs2 ?_) | (apply zg6; refine zs11 ?_) | apply (zs65 ?_) | (apply VL_nilh; (repeat (first | with_reducible exact app_nil | with_reducible apply app_cons))) | apply (zs68 ?_) | apply (zs74 ?_) | (apply VQ_heldq; (repeat (first | with_reducible exact pull_nil | (with_reducible apply pull_cons; (repeat (first | with_reducible exact rem_here | with_reducible apply rem_there)))))) | (apply VT_done; (repeat (first | with_reducible exact app_nil | with_reducible apply app_cons))) | apply (zs90 ?_) | (apply VQ_treeq; (repeat (first | with_reducible exact pull_nil | (with_reducible apply pull_cons; (repeat (first | with_reducible exact rem_here | with_reducible apply rem_there)))))) | apply (zs93 ?_) | apply (zs94 ?_) | fail)
      apply VQ_st H
      · intro w hw
        refine hK w ?_
        revert w
        (intro w hw; refine hw.perm ?_; focus repeat (first | with_reducible exact Perm.refl _ | (with_reducible apply perm_take; focus ((repeat (first | with_reducible exact rem_here | with_reducible apply rem_there)); done)) | with_reducible apply Perm.dropK))
      apply VQ_ret1; exact rfl; exact rfl
      exact ⟨rfl, rfl⟩)
end Go.Proofs.Ytleldppdflgmgaa

/- Walks: the reference's Loss, Sum, Cost, Check; the law RouteChecks. -/
namespace Go.Proofs.Ytleldppdflgmgaa
open Go.RowKit Go.Eng Go.Nw Go.Rt

theorem loss_spec (n : NetM) (a b : Int) (hg : goodE n.net a b = true) {B : Nat} {w0 : World} {H : List HP} {w : World} (hin : n.In B w0 H) (hw : St B w0 H w) :
    Calls Try.prog 59 [n.val, .int .i64 a, .int .i64 b].toArray w (Post B w0 fun v K => v = .int .i64 (lossE n.net a b) ∧ K = H) := by
  refine Calls_of_VC Try.func59 Try.ntmps59 rfl rfl hw ?_
  obtain ⟨hpw, hrw, hlk, hmg, hs1, hs2, hs3, hs4⟩ := id hin
  (apply VC_seq; apply VC_region; apply VL_box_agg; exact rfl; exact rfl; intro g)
  have hf := good_find hg
  have hfl := find_lt hf
  have e7 : n.net.links = n.links := rfl
  rw [e7] at hfl
  have hlx : n.links[(findE n.net a b).toNat]? = some (lnk n.net (findE n.net a b).toNat) := lnk_some n.net hfl
  have hfi := fun {H : List HP} {w : World} (hin : n.In B w0 H) (hw : St B w0 H w) => rfind_spec n a b hin hw
  have hlo : lossE n.net a b = (lnk n.net (findE n.net a b).toNat).2.2 := rfl
  obtain ⟨fi, hfi2⟩ : ∃ x, findE n.net a b = x := ⟨_, rfl⟩
  rw [hfi2] at hfi hlx hf hfl hlo
  obtain ⟨lk, hlk2⟩ : ∃ x, lnk n.net fi.toNat = x := ⟨_, rfl⟩
  rw [hlk2] at hlx hlo
  have hlk3 : Rd B w0 (netB g n :: H) n.lA (n.links.flatMap lkF) := hlk.cons
  rw [hlo]
  repeat' (first | ((first | apply VL_callt en69 | apply VL_callq en69); (repeat (first | exact args_nil | (apply args_cons; exact rfl))); exact rfl; exact fun _ hw => (hfi hin.cons hw)) | apply (zs1 ?_) | apply (zs2 ?_) | (apply zg2; first | refine zs6 ?_ | refine zs58 ?_) | (apply zg3; first | refine zs7 ?_ | refine zs8 ?_ | refine zs59 ?_) | (apply zg5; refine zs57 ?_) | apply (zs65 ?_) | apply (zs66 ?_) | apply (zs68 ?_) | apply (zs69 ?_) | apply (zs74 ?_) | (apply zg28; refine zs84 ?_) | fail)
  (repeat apply VQ_tail); apply VQ_ret1; exact rfl; exact rfl
  exact ⟨rfl, rfl⟩

theorem sum_spec (n : NetM) (r : List Int) {A : Option Addr} {cap B : Nat} {w0 : World} {H : List HP} {w : World} (hin : n.In B w0 H) (hck : checkE n.net = 0) (hbr : brokenE n.net r = false) (hr : Rd B w0 H A (r.flatMap numF)) (hlen : 1 ≤ r.length ∧ r.length ≤ 1000) (hw : St B w0 H w) :
    Calls Try.prog 38 [n.val, .slice A r.length cap].toArray w (Post B w0 fun v K => v = .int .i64 (costE n.net r) ∧ K = H) := by
  have hok := check_ok hck
  refine Calls_of_VC Try.func38 Try.ntmps38 rfl rfl hw ?_
  (apply VC_seq; apply VC_region; apply VL_box_agg; exact rfl; exact rfl; intro g)
  repeat' (first | apply (zs2 ?_) | apply (zs65 ?_) | apply (zs68 ?_) | apply (zs69 ?_) | apply (zs70 ?_) | apply (zs73 ?_) | fail)
  refine VC_loop1 (fun (k : Nat) => [(6, .int .i64 ((k : Int) + 1)), (5, .int .i64 (costTo n.net r k)), (1, .slice A r.length cap), (2, .pointer (some ⟨g, 0, none⟩))]) (fun _ => netB g n :: H) (fun k => k + 1 ≤ r.length) (fun k => r.length - k) 0 hlen.1 ?_ (fun w hw => hw) ?_
  · (repeat (first | exact sub_nil _ | (apply sub_cons; first | exact rfl | exact congrArg (fun z : Int => some (Value.int .i64 z)) (by omega))))
  intro k hk K hK
  have hbd := costTo_bd hok r k
  by_cases hlt : k + 1 < r.length
  · have hgk := getD_get (l := r) (i := k) (by omega)
    have hgk1 := getD_get (l := r) (i := k + 1) (by omega)
    have ei : ((k : Int) + 1 - 1).toNat = k := by omega
    have ei1 : ((k : Int) + 1).toNat = k + 1 := by omega
    have hgood := broken_good hbr hlt
    have hlo := loss_bd hok (r.getD k 0) (r.getD (k + 1) 0)
    have hst : costTo n.net r (k + 1) = costTo n.net r k + (lossE n.net (r.getD k 0) (r.getD (k + 1) 0) + 1) := rfl
    obtain ⟨x, hx⟩ : ∃ x, r.getD k 0 = x := ⟨_, rfl⟩
    obtain ⟨y, hy⟩ : ∃ y, r.getD (k + 1) 0 = y := ⟨_, rfl⟩
    rw [hx] at hgk hgood hlo hst
    rw [hy] at hgk1 hgood hlo hst
    rw [← ei] at hgk
    rw [← ei1] at hgk1
    have hls := fun {H : List HP} {w : World} (hin : n.In B w0 H) (hw : St B w0 H w) => loss_spec n x y hgood hin hw
    obtain ⟨lo, hlo2⟩ : ∃ z, lossE n.net x y = z := ⟨_, rfl⟩
    rw [hlo2] at hlo hst hls
    repeat' (first | ((first | apply VL_callt en59 | apply VL_callq en59); (repeat (first | exact args_nil | (apply args_cons; exact rfl))); exact rfl; exact fun _ hw => (hls hin.cons hw)) | apply (zs1 ?_) | apply (zs2 ?_) | (apply zg3; first | refine zs8 ?_ | refine zs60 ?_) | (apply zg4; refine zs9 ?_) | (apply zg5; refine zs57 ?_) | (apply (zs17 ?_ ?_) <;> intro _ <;> try (exfalso; omega)) | (apply zg13; refine zs30 ?_) | (apply zg14; refine zs31 ?_) | apply (zs65 ?_) | apply (zs66 ?_) | apply (zs68 ?_) | apply (zs69 ?_) | apply (zs70 ?_) | (apply zg27; refine zs71 ?_) | apply (zs73 ?_) | apply (zs76 ?_) | apply (zs79 ?_) | (apply zg28; refine zs84 ?_) | fail)
    apply hK (k + 1)
    · omega
    · omega
    · rw [hst]; (repeat (first | exact sub_nil _ | (apply sub_cons; first | exact rfl | exact congrArg (fun z : Int => some (Value.int .i64 z)) (by omega))))
    · exact fun w hw => hw
  · repeat' (first | apply (zs1 ?_) | apply (zs2 ?_) | (apply zg4; refine zs9 ?_) | (apply (zs17 ?_ ?_) <;> intro _ <;> try (exfalso; omega)) | apply (zs65 ?_) | apply (zs68 ?_) | apply (zs69 ?_) | apply (zs70 ?_) | (apply zg27; refine zs72 ?_) | apply (zs74 ?_) | apply (zs75 ?_) | apply (zs80 ?_) | apply (zs81 ?_) | fail)
    (repeat apply VQ_tail); apply VQ_ret1; exact rfl; exact rfl
    have ek : r.length - 1 = k := by omega
    exact ⟨by unfold costE; rw [ek], rfl⟩

theorem rCost_spec (n : NetM) (r : List Int) {A : Option Addr} {cap B : Nat} {w0 : World} {H : List HP} {w : World} (hin : n.In B w0 H) (hr : Rd B w0 H A (r.flatMap numF)) (hlen : r.length ≤ 1000000000000) (hw : St B w0 H w) :
    Calls Try.prog 23 [n.val, .slice A r.length cap].toArray w (Post B w0 fun v K => v = .tuple #[.int .i64 (CostE n.net r).1, .int .i64 (CostE n.net r).2] ∧ K = H) := by
  refine Calls_of_VC Try.func23 Try.ntmps23 rfl rfl hw ?_
  unfold CostE
  by_cases h0 : checkE n.net = 0
  rotate_left
  · rw [if_pos h0]
    repeat' (first | ((first | apply VL_callt en49 | apply VL_callq en49); (repeat (first | exact args_nil | (apply args_cons; exact rfl))); exact rfl; exact fun _ hw => (rcheck_spec n hin.cons hw)) | apply (zs2 ?_) | (apply zg3; refine zs8 ?_) | (apply zg8; (refine zs16 ?_ ?_ <;> intro _ <;> try (exfalso; omega))) | (apply zg23; (refine zs52 ?_; intro _)) | apply (zs65 ?_) | apply (zs68 ?_) | apply (zs69 ?_) | apply (zs70 ?_) | (apply zg27; refine zs71 ?_) | apply (zs74 ?_) | apply (zs77 ?_) | fail)
    (repeat apply VQ_tail); apply VQ_ret2; exact rfl; exact rfl; exact rfl; exact ⟨rfl, rfl⟩
  rw [if_neg (fun h => h h0)]
  have hck := fun {H : List HP} {w : World} (hin : n.In B w0 H) (hw : St B w0 H w) => rcheck_spec n hin hw
  rw [h0] at hck
  dsimp only
  have hf := fun {H : List HP} {w : World} (s t : Int) (hin : n.In B w0 H) (hr : Rd B w0 H A (r.flatMap numF)) (hw : St B w0 H w) => rfault_spec n s t r (cap := cap) hin h0 hr hlen hw
  by_cases hz : r.length = 0
  · have hf0 : faultE n.net (r.getD 0 0) (r.getD (r.length - 1) 0) r = 9 := by unfold faultE; rw [if_pos (by omega)]
    have hf1 : faultE n.net 0 0 r = 9 := by unfold faultE; rw [if_pos (by omega)]
    have hff := fun {H : List HP} {w : World} (hin : n.In B w0 H) (hr : Rd B w0 H A (r.flatMap numF)) (hw : St B w0 H w) => hf 0 0 hin hr hw
    rw [hf1] at hff
    rw [hf0, if_pos (by decide)]
    repeat' (first | ((first | apply VL_callt en49 | apply VL_callq en49); (repeat (first | exact args_nil | (apply args_cons; exact rfl))); exact rfl; exact fun _ hw => (hck hin.cons hw)) | ((first | apply VL_callt en50 | apply VL_callq en50); (repeat (first | exact args_nil | (apply args_cons; exact rfl))); exact rfl; exact fun _ hw => (hff hin.cons hr.cons hw)) | apply (zs1 ?_) | apply (zs2 ?_) | (apply zg3; refine zs8 ?_) | (apply zg4; refine zs9 ?_) | (apply zg8; (refine zs16 ?_ ?_ <;> intro _ <;> try (exfalso; omega))) | (apply (zs19 ?_ ?_) <;> intro _ <;> try (exfalso; omega)) | (apply zg23; (refine zs52 ?_; intro _)) | apply (zs65 ?_) | apply (zs68 ?_) | apply (zs69 ?_) | apply (zs70 ?_) | (apply zg27; first | refine zs71 ?_ | refine zs72 ?_) | apply (zs74 ?_) | apply (zs76 ?_) | apply (zs77 ?_) | fail)
    (repeat apply VQ_tail); apply VQ_ret2; exact rfl; exact rfl; exact rfl; exact ⟨rfl, rfl⟩
  · have hg0 := getD_get (l := r) (i := 0) (by omega)
    have hg1 := getD_get (l := r) (i := r.length - 1) (by omega)
    have hgi : ((r.length : Int) - 1).toNat = r.length - 1 := by omega
    rw [← hgi] at hg1
    have hff := fun {H : List HP} {w : World} (hin : n.In B w0 H) (hr : Rd B w0 H A (r.flatMap numF)) (hw : St B w0 H w) => hf (r.getD 0 0) (r.getD (r.length - 1) 0) hin hr hw
    obtain ⟨e, he⟩ : ∃ e, faultE n.net (r.getD 0 0) (r.getD (r.length - 1) 0) r = e := ⟨_, rfl⟩
    rw [he] at hff
    rw [he]
    rw [← hgi] at hff
    by_cases hez : e = 0
    · subst hez
      obtain ⟨⟨f1, f2⟩, _, _, _, f3⟩ := fault_ok he
      rw [if_neg (by simp)]
      repeat' (first | ((first | apply VL_callt en49 | apply VL_callq en49); (repeat (first | exact args_nil | (apply args_cons; exact rfl))); exact rfl; exact fun _ hw => (hck hin.cons hw)) | ((first | apply VL_callt en50 | apply VL_callq en50); (repeat (first | exact args_nil | (apply args_cons; exact rfl))); exact rfl; exact fun _ hw => (hff hin.cons hr.cons hw)) | ((first | apply VL_callt en38 | apply VL_callq en38); (repeat (first | exact args_nil | (apply args_cons; exact rfl))); exact rfl; exact fun _ hw => (sum_spec n r hin.cons h0 f3 hr.cons (by omega) hw)) | apply (zs1 ?_) | apply (zs2 ?_) | (apply zg3; first | refine zs8 ?_ | refine zs60 ?_) | (apply zg4; refine zs9 ?_) | (apply zg5; refine zs57 ?_) | (apply zg8; (refine zs16 ?_ ?_ <;> intro _ <;> try (exfalso; omega))) | (apply (zs19 ?_ ?_) <;> intro _ <;> try (exfalso; omega)) | (apply zg14; refine zs31 ?_) | (apply zg23; (refine zs52 ?_; intro _)) | apply (zs65 ?_) | apply (zs66 ?_) | apply (zs68 ?_) | apply (zs69 ?_) | apply (zs70 ?_) | (apply zg27; first | refine zs71 ?_ | refine zs72 ?_) | apply (zs74 ?_) | apply (zs76 ?_) | (apply zg28; refine zs83 ?_) | fail)
      (repeat apply VQ_tail); apply VQ_ret2; exact rfl; exact rfl; exact rfl; exact ⟨rfl, rfl⟩
    · rw [if_pos hez]
      repeat' (first | ((first | apply VL_callt en49 | apply VL_callq en49); (repeat (first | exact args_nil | (apply args_cons; exact rfl))); exact rfl; exact fun _ hw => (hck hin.cons hw)) | ((first | apply VL_callt en50 | apply VL_callq en50); (repeat (first | exact args_nil | (apply args_cons; exact rfl))); exact rfl; exact fun _ hw => (hff hin.cons hr.cons hw)) | apply (zs1 ?_) | apply (zs2 ?_) | (apply zg3; first | refine zs8 ?_ | refine zs60 ?_) | (apply zg4; refine zs9 ?_) | (apply zg5; refine zs57 ?_) | (apply zg8; (refine zs16 ?_ ?_ <;> intro _ <;> try (exfalso; omega))) | (apply (zs19 ?_ ?_) <;> intro _ <;> try (exfalso; omega)) | (apply zg14; refine zs31 ?_) | (apply zg23; (refine zs52 ?_; intro _)) | apply (zs65 ?_) | apply (zs66 ?_) | apply (zs68 ?_) | apply (zs69 ?_) | apply (zs70 ?_) | (apply zg27; first | refine zs71 ?_ | refine zs72 ?_) | apply (zs74 ?_) | apply (zs76 ?_) | apply (zs77 ?_) | (apply zg28; refine zs83 ?_) | fail)
      (repeat apply VQ_tail); apply VQ_ret2; exact rfl; exact rfl; exact rfl; exact ⟨rfl, rfl⟩

theorem rCheck_spec (n : NetM) (s t : Int) (r : List Int) {A : Option Addr} {cap B : Nat} {w0 : World} {H : List HP} {w : World} (hin : n.In B w0 H) (hr : Rd B w0 H A (r.flatMap numF)) (hlen : r.length ≤ 1000000000000) (hw : St B w0 H w) :
    Calls Try.prog 25 [n.val, .int .i64 s, .int .i64 t, .slice A r.length cap].toArray w (Post B w0 fun v K => v = .int .i64 (CheckR n.net s t r) ∧ K = H) := by
  refine Calls_of_VC Try.func25 Try.ntmps25 rfl rfl hw ?_
  unfold CheckR
  by_cases h0 : endsE n.net s t = 0
  · have hck := (ends_ok h0).1
    have hen := fun {H : List HP} {w : World} (hin : n.In B w0 H) (hw : St B w0 H w) => rends_spec n s t hin hw
    rw [h0] at hen
    rw [if_neg (fun h => h h0)]
    repeat' (first | ((first | apply VL_callt en36 | apply VL_callq en36); (repeat (first | exact args_nil | (apply args_cons; exact rfl))); exact rfl; exact fun _ hw => (hen hin.cons hw)) | ((first | apply VL_callt en50 | apply VL_callq en50); (repeat (first | exact args_nil | (apply args_cons; exact rfl))); exact rfl; exact fun _ hw => (rfault_spec n s t r hin.cons hck hr.cons hlen hw)) | apply (zs1 ?_) | apply (zs2 ?_) | (apply zg3; refine zs8 ?_) | (apply zg8; (refine zs16 ?_ ?_ <;> intro _ <;> try (exfalso; omega))) | (apply zg23; (refine zs52 ?_; intro _)) | apply (zs65 ?_) | apply (zs68 ?_) | apply (zs69 ?_) | apply (zs70 ?_) | (apply zg27; refine zs72 ?_) | apply (zs74 ?_) | apply (zs76 ?_) | fail)
    (repeat apply VQ_tail); apply VQ_ret1; exact rfl; exact rfl; exact ⟨rfl, rfl⟩
  · rw [if_pos h0]
    repeat' (first | ((first | apply VL_callt en36 | apply VL_callq en36); (repeat (first | exact args_nil | (apply args_cons; exact rfl))); exact rfl; exact fun _ hw => (rends_spec n s t hin.cons hw)) | apply (zs1 ?_) | apply (zs2 ?_) | (apply zg3; refine zs8 ?_) | (apply zg8; (refine zs16 ?_ ?_ <;> intro _ <;> try (exfalso; omega))) | (apply zg23; (refine zs52 ?_; intro _)) | apply (zs65 ?_) | apply (zs68 ?_) | apply (zs69 ?_) | apply (zs70 ?_) | (apply zg27; refine zs71 ?_) | apply (zs74 ?_) | apply (zs77 ?_) | fail)
    (repeat apply VQ_tail); apply VQ_ret1; exact rfl; exact rfl; exact ⟨rfl, rfl⟩

theorem law_checksR (n : NetM) (s t : Int) (r : List Int) (hrl : r.length ≤ 9223372036854775807) {A : Option Addr} {cap B : Nat} (hcap : r.length ≤ cap) {w0 : World} {H : List HP} {w : World} (hin : n.In B w0 H) (hr : Rd B w0 H A (r.flatMap numF)) (hw : St B w0 H w) :
    Calls Try.prog 8 [n.val, .int .i64 s, .int .i64 t, .slice A r.length cap].toArray w (Post B w0 fun v K => v = .bool true ∧ ∀ w, St B w0 K w → St B w0 H w) := by
  refine Calls_of_VC Try.func8 Try.ntmps8 rfl rfl hw ?_
  (apply VC_seq; apply VC_region; apply VL_box_agg; exact rfl; exact rfl; intro g)
  have hfe := fun {H : List HP} {w : World} (hin : n.In B w0 H) (hw : St B w0 H w) => few_spec n hin hw
  cases hfew : fewE n.net with
  | false =>
    rw [hfew] at hfe
    repeat' (first | ((first | apply VL_callt en10 | apply VL_callq en10); (repeat (first | exact args_nil | (apply args_cons; exact rfl))); exact rfl; exact fun _ hw => (awakeR_spec hw)) | ((first | apply VL_callt en13 | apply VL_callq en13); (repeat (first | exact args_nil | (apply args_cons; exact rfl))); exact rfl; exact fun _ hw => (hfe hin.cons hw)) | apply (zs1 ?_) | apply (zs2 ?_) | (apply zg1; refine zs3 ?_) | (apply zg3; refine zs8 ?_) | (apply zg6; refine zs11 ?_) | (apply zg20; first | refine zs47 ?_ | refine zs48 ?_) | apply (zs65 ?_) | apply (zs68 ?_) | apply (zs69 ?_) | apply (zs70 ?_) | (apply zg27; first | refine zs71 ?_ | refine zs72 ?_) | apply (zs74 ?_) | apply (zs76 ?_) | apply (zs77 ?_) | fail)
    apply VQ_ret1; exact rfl; exact rfl
    exact ⟨rfl, fun w hw => hw.tail⟩
  | true =>
    rw [hfew] at hfe
    by_cases hbig : 12 < r.length
    · skip
      repeat' (first | ((first | apply VL_callt en10 | apply VL_callq en10); (repeat (first | exact args_nil | (apply args_cons; exact rfl))); exact rfl; exact fun _ hw => (awakeR_spec hw)) | ((first | apply VL_callt en13 | apply VL_callq en13); (repeat (first | exact args_nil | (apply args_cons; exact rfl))); exact rfl; exact fun _ hw => (hfe hin.cons hw)) | apply (zs1 ?_) | apply (zs2 ?_) | (apply zg1; refine zs4 ?_) | (apply zg3; refine zs8 ?_) | (apply zg4; refine zs9 ?_) | (apply zg6; refine zs12 ?_) | (apply (zs19 ?_ ?_) <;> intro _ <;> try (exfalso; omega)) | (apply zg20; refine zs47 ?_) | apply (zs65 ?_) | apply (zs68 ?_) | apply (zs69 ?_) | apply (zs70 ?_) | (apply zg27; first | refine zs71 ?_ | refine zs72 ?_) | apply (zs74 ?_) | apply (zs76 ?_) | apply (zs77 ?_) | fail)
      apply VQ_ret1; exact rfl; exact rfl
      exact ⟨rfl, fun w hw => hw.tail⟩
    · skip
      repeat' (first | ((first | apply VL_callt en10 | apply VL_callq en10); (repeat (first | exact args_nil | (apply args_cons; exact rfl))); exact rfl; exact fun _ hw => (awakeR_spec hw)) | ((first | apply VL_callt en13 | apply VL_callq en13); (repeat (first | exact args_nil | (apply args_cons; exact rfl))); exact rfl; exact fun _ hw => (hfe hin.cons hw)) | ((first | apply VL_callt en22 | apply VL_callq en22); (repeat (first | exact args_nil | (apply args_cons; exact rfl))); exact rfl; exact fun _ hw => (Cost_spec n r hin.cons hr.cons hrl hcap hw)) | ((first | apply VL_callt en23 | apply VL_callq en23); (repeat (first | exact args_nil | (apply args_cons; exact rfl))); exact rfl; exact fun _ hw => (rCost_spec n r hin.cons hr.cons (by omega) hw)) | ((first | apply VL_callt en24 | apply VL_callq en24); (repeat (first | exact args_nil | (apply args_cons; exact rfl))); exact rfl; exact fun _ hw => (Check_spec n s t r hin.cons hr.cons hrl hcap hw)) | ((first | apply VL_callt en25 | apply VL_callq en25); (repeat (first | exact args_nil | (apply args_cons; exact rfl))); exact rfl; exact fun _ hw => (rCheck_spec n s t r hin.cons hr.cons (by omega) hw)) | apply (zs1 ?_) | apply (zs2 ?_) | (apply zg1; refine zs4 ?_) | (apply zg3; refine zs8 ?_) | (apply zg4; refine zs9 ?_) | (apply zg6; first | refine zs11 ?_ | refine zs12 ?_) | apply (zs13 ?_) | (apply zg7; (refine zs15 ?_ ?_ <;> intro _ <;> try (exfalso; omega))) | (apply (zs19 ?_ ?_) <;> intro _ <;> try (exfalso; omega)) | (apply zg20; refine zs47 ?_) | apply (zs65 ?_) | apply (zs66 ?_) | apply (zs68 ?_) | apply (zs69 ?_) | apply (zs70 ?_) | (apply zg27; refine zs72 ?_) | apply (zs74 ?_) | apply (zs76 ?_) | (apply zg28; refine zs84 ?_) | fail)
      all_goals (
        apply VQ_ret1; exact rfl; exact rfl
        exact ⟨rfl, fun w hw => hw.tail⟩)
end Go.Proofs.Ytleldppdflgmgaa

/- Walks: the reference's Shortest; the law RouteShortest. -/
namespace Go.Proofs.Ytleldppdflgmgaa
open Go.RowKit Go.Eng Go.Nw Go.Rt

/-! ### Arcs of a network -/
def dearW (n : Net) (u v : Int) : Int := (lossE n u v + 1) * 33 + 1
theorem mem_arcsE {n : Net} (h : Ok n) {u v c : Int} : (u, v, c) ∈ arcsE n ↔ goodE n u v = true ∧ c = lossE n u v + 1 := by
  unfold arcsE
  rw [mem_arcs]
  constructor
  · rintro ⟨i, hi, hu, he⟩
    unfold arcAt at he
    simp only [Prod.mk.injEq] at he
    obtain ⟨rfl, rfl, rfl⟩ := he
    rw [usable_good h hi] at hu
    refine ⟨hu, ?_⟩
    unfold lossE
    rw [find_self h hi, Int.toNat_natCast]
  · rintro ⟨hg, rfl⟩
    have hf := good_find hg
    have hl := find_lt hf
    obtain ⟨e1, e2⟩ := find_key hf
    refine ⟨(findE n u v).toNat, hl, ?_, ?_⟩
    · rw [usable_good h hl, e1, e2]; exact hg
    · unfold arcAt lossE; rw [e1, e2]
theorem dear_net {n : Net} (h : Ok n) : Net3 (goodE n) (dearW n) ((arcsE n).map dear) := by
  refine ⟨fun u v c => ?_, fun u v _ => ?_⟩
  · constructor
    · intro hm
      obtain ⟨⟨a1, a2, a3⟩, ha, he⟩ := List.mem_map.1 hm
      unfold dear at he
      simp only [Prod.mk.injEq] at he
      obtain ⟨rfl, rfl, rfl⟩ := he
      obtain ⟨hg, rfl⟩ := (mem_arcsE h).1 ha
      exact ⟨hg, rfl⟩
    · rintro ⟨hg, rfl⟩
      exact List.mem_map.2 ⟨(u, v, lossE n u v + 1), (mem_arcsE h).2 ⟨hg, rfl⟩, rfl⟩
  · have := loss_bd h u v
    unfold dearW
    omega
theorem good_range {n : Net} (h : Ok n) {u v : Int} (hg : goodE n u v = true) : (0 ≤ u ∧ u < n.nodes) ∧ (0 ≤ v ∧ v < n.nodes) := by
  have hf := good_find hg
  obtain ⟨e1, e2⟩ := find_key hf
  have hl := h.lk _ (find_lt hf)
  have h1 := hl.f0; have h2 := hl.f1; have h3 := hl.t0; have h4 := hl.t1
  rw [e1] at h1 h2
  rw [e2] at h3 h4
  omega

/-! ### Costs, once more -/
theorem costTo_cons (n : Net) (u : Int) (r : List Int) : ∀ k, costTo n (u :: r) (k + 1) = (lossE n u (r.getD 0 0) + 1) + costTo n r k
  | 0 => by simp [costTo]
  | k + 1 => by
    have := costTo_cons n u r k
    rw [costTo, this]
    simp only [costTo, List.getD_cons_succ]
    omega
theorem costE_key (n : Net) : ∀ r : List Int, costE n r = keyG (fun u v => lossE n u v + 1) r
  | [] => rfl
  | [_] => rfl
  | u :: v :: r => by
    have h1 := costE_key n (v :: r)
    have h2 := costTo_cons n u (v :: r) r.length
    unfold costE at h1 ⊢
    simp only [List.length_cons, Nat.add_sub_cancel] at h1 ⊢
    rw [h2, keyG, ← h1]
    rfl
theorem dear_key (n : Net) : ∀ r : List Int, r ≠ [] → keyG (dearW n) r = 33 * costE n r + ((r.length : Int) - 1)
  | [], h => absurd rfl h
  | [_], _ => by simp [keyG, costE, costTo]
  | u :: v :: r, _ => by
    have h1 := dear_key n (v :: r) (by simp)
    rw [costE_key] at h1 ⊢
    simp only [keyG, List.length_cons] at h1 ⊢
    rw [h1]
    unfold dearW
    omega

/-! ### All routes -/
def allE (n : Net) (s t : Int) : List (List Int) := walkN n n.nodes.toNat t (n.nodes.toNat - 1) [s]
theorem walk_count {st : Int → Int → Bool} {nodes : Nat} {to : Int} : ∀ (f : Nat) (r : List Int), (walkG st nodes to f r).length ≤ (nodes + 1) ^ f
  | 0, r => by
    unfold walkG
    split <;> simp
  | f + 1, r => by
    unfold walkG
    split
    · rw [List.length_singleton]
      exact Nat.one_le_pow _ _ (by omega)
    · have : ∀ k, ((List.range k).flatMap fun b : Nat => if st (lastOf r) b = true ∧ (b : Int) ∉ r then walkG st nodes to f (r ++ [(b : Int)]) else []).length ≤ k * (nodes + 1) ^ f := by
        intro k
        induction k with
        | zero => simp
        | succ k ih =>
          have h1 : (if st (lastOf r) k = true ∧ (k : Int) ∉ r then walkG st nodes to f (r ++ [(k : Int)]) else []).length ≤ (nodes + 1) ^ f := by
            split
            · exact walk_count f _
            · exact Nat.zero_le _
          rw [List.range_succ, List.flatMap_append, List.length_append, Nat.add_mul, Nat.one_mul]
          have h2 : ([k].flatMap fun b : Nat => if st (lastOf r) b = true ∧ (b : Int) ∉ r then walkG st nodes to f (r ++ [(b : Int)]) else []).length ≤ (nodes + 1) ^ f := by
            simpa using h1
          omega
      have h3 := this nodes
      have h4 : nodes * (nodes + 1) ^ f ≤ (nodes + 1) ^ f * (nodes + 1) := by rw [Nat.mul_comm]; exact Nat.mul_le_mul_left _ (by omega)
      rw [Nat.pow_succ]
      omega
theorem all_count {n : Net} (h8 : n.nodes ≤ 8) (s t : Int) : (allE n s t).length ≤ 4782969 := by
  unfold allE walkN
  have h1 := walk_count (st := goodE n) (nodes := n.nodes.toNat) (to := t) (n.nodes.toNat - 1) [s]
  have h2 : (n.nodes.toNat + 1) ^ (n.nodes.toNat - 1) ≤ 9 ^ 7 := Nat.le_trans (Nat.pow_le_pow_left (by omega) _) (Nat.pow_le_pow_right (by omega) (by omega))
  have h3 : 9 ^ 7 = 4782969 := by decide
  omega
theorem path_good {n : Net} {nodes : Nat} {to u : Int} {p : List Int} (h : PathG (goodE n) nodes to u p) : ∀ i, i < p.length → goodE n ((u :: p).getD i 0) ((u :: p).getD (i + 1) 0) = true := by
  induction h with
  | done => intro i hi; simp at hi
  | step hu hs hv h ih =>
    intro i hi
    cases i with
    | zero => exact hs
    | succ i => exact ih i (by simpa using hi)
theorem path_last {n : Net} {nodes : Nat} {to u : Int} {p : List Int} (h : PathG (goodE n) nodes to u p) : (u :: p).getD p.length 0 = to := by
  induction h with
  | done => rfl
  | step hu hs hv h ih => exact ih
/-- What a route of the list is. -/
theorem all_ok {n : Net} (hok : Ok n) {s t : Int} (hs : 0 ≤ s ∧ s < n.nodes) {q : List Int} (hq : q ∈ allE n s t) : ∃ p, q = s :: p ∧ PathG (goodE n) n.nodes.toNat t s p ∧ q.Nodup ∧ (∀ x ∈ q, 0 ≤ x ∧ x < n.nodes) ∧ brokenE n q = false ∧ 1 ≤ q.length ∧ q.length ≤ n.nodes.toNat := by
  unfold allE at hq
  obtain ⟨p, rfl, hp⟩ := walk_mem _ _ _ hq
  have hnd := walk_nodup _ _ _ (by simp) hq
  have hp : PathG (goodE n) n.nodes.toNat t s p := hp
  have hm : ∀ x ∈ [s] ++ p, 0 ≤ x ∧ x < n.nodes := fun x hx => by
    have hn0 := hok.n0
    rcases List.mem_append.1 hx with h | h
    · obtain rfl := List.mem_singleton.1 h; exact hs
    · have := path_mem hp x h; omega
  have hl := Rt.nodup_len n.nodes.toNat _ hnd fun x hx => by have := hm x hx; omega
  refine ⟨p, rfl, hp, hnd, hm, ?_, by simp, hl⟩
  unfold brokenE
  rw [List.any_eq_false]
  intro i hi
  have hi := List.mem_range.1 hi
  show ¬ (!goodE n ((s :: p).getD i 0) ((s :: p).getD (i + 1) 0)) = true
  rw [path_good hp i (by simpa using hi)]
  simp
theorem all_short {n : Net} (hok : Ok n) {s t : Int} (hs : 0 ≤ s ∧ s < n.nodes) (ht : 0 ≤ t ∧ t < n.nodes) (hd : Dist n.nodes.toNat ((arcsE n).map dear) t (distC n.nodes.toNat ((arcsE n).map dear) t)) : (shortR n s t = [] ∧ allE n s t = []) ∨ (shortR n s t ≠ [] ∧ FirstMin (keyG (dearW n)) (allE n s t) (shortR n s t)) := by
  have hn0 := hok.n0
  have hn1 := hok.n1
  unfold shortR wayF
  by_cases hfar : noneC ≤ farAt (distC n.nodes.toNat ((arcsE n).map dear) t) s
  · left
    rw [if_pos hfar]
    refine ⟨rfl, List.eq_nil_iff_forall_not_mem.2 fun q hq => ?_⟩
    obtain ⟨p, rfl, hp, hnd, hm, _, _, hl⟩ := all_ok hok hs hq
    have := (path_far (dear_net hok) hd hp (by simp only [List.length_cons] at hl; omega)).2
    omega
  · right
    rw [if_neg hfar]
    refine ⟨by simp, ?_⟩
    have := (way_first (dear_net hok) (dear_ok hok) hd ⟨ht.1, by omega⟩ (fun u v hg => by have := (good_range hok hg).2; omega) (by omega) (farAt (distC n.nodes.toNat ((arcsE n).map dear) t) s).toNat (n.nodes.toNat - 1) [s] s (by simp) (by simp) rfl hs.1 (by omega) (by omega) (Nat.le_refl _) (fun x hx => by obtain rfl := List.mem_singleton.1 hx; exact ⟨⟨hs.1, by omega⟩, Int.le_refl _⟩) (by simp only [List.length_singleton]; omega)).1
    exact this

set_option maxRecDepth 10000 in
theorem All_spec (n : NetM) (s t : Int) (hck : checkE n.net = 0) (h8 : n.net.nodes ≤ 8) (hs : 0 ≤ s ∧ s < n.net.nodes) {B : Nat} {w0 : World} {H : List HP} {w : World} (hin : n.In B w0 H) (hw : St B w0 H w) :
    Calls Try.prog 37 [n.val, .int .i64 s, .int .i64 t].toArray w (Post B w0 fun v K => ∃ A cap rs, v = .slice A rs.length cap ∧ rs.map (·.xs) = allE n.net s t ∧ K = rtes A cap rs H) := by
  refine Calls_of_VC Try.func37 Try.ntmps37 rfl rfl hw ?_
  have hok := check_ok hck
  have hn0 := hok.n0
  have hnn : n.nodes = ((n.net.nodes.toNat : Nat) : Int) := by have : n.net.nodes = n.nodes := rfl; omega
  have hcnt := all_count h8 s t
  (apply VC_seq; apply VC_region; apply VL_box_agg; exact rfl; exact rfl; intro g)
  repeat' (first | (apply VL_buildSlice0 T; exact rfl; exact rfl; intro _) | apply (zs1 ?_) | apply (zs2 ?_) | (apply zg3; refine zs8 ?_) | (apply zg26; (refine zs56 ?_; intro _)) | apply (zs65 ?_) | apply (zs68 ?_) | apply (zs69 ?_) | apply (zs70 ?_) | fail)
  rename_i g1 g2
  apply VL_st (rtes (some ⟨g2, 0, none⟩) 0 [] (blk g1 (.cells #[.int .i64 s] 3 (0, 0)) :: netB g n :: H))
  · intro w hw
    exact hw.perm (.cons _ (.noMany _))
  apply VL_call _ en58
  (repeat (first | exact args_nil | (apply args_cons; exact rfl)))
  exact rfl
  exact fun _ hw => (walk_spec n n.net.nodes.toNat t hck hnn (n.net.nodes.toNat - 1) [s] [] (some ⟨g1, 0, none⟩) (some ⟨g2, 0, none⟩) 1 0 B w0 _ _ (by simp) (by simp) (fun x hx => by obtain rfl := List.mem_singleton.1 hx; omega) (by simp only [List.length_singleton]; omega) (by unfold allE at hcnt; simp only [List.length_nil]; omega) hin.cons.cons (Rd.blk (cs := #[.int .i64 s]) List.mem_cons_self) (hw))
  rintro _ _ ⟨A, cap, rs, rfl, hrs, rfl⟩
  repeat' (first | apply (zs2 ?_) | apply (zs65 ?_) | apply (zs68 ?_) | apply (zs74 ?_) | fail)
  apply VQ_st (rtes A cap rs H)
  · unfold rtes
    (intro w hw; refine hw.perm ?_; focus repeat (first | with_reducible exact Perm.refl _ | (with_reducible apply perm_take; focus ((repeat (first | with_reducible exact rem_here | with_reducible apply rem_there)); done)) | with_reducible apply Perm.dropK))
  apply VQ_ret1; exact rfl; exact rfl
  exact ⟨A, cap, rs, rfl, hrs, rfl⟩
structure Bz2 where
  k : Nat
  b : RowM
set_option maxRecDepth 10000 in
set_option maxHeartbeats 2000000 in
theorem rshortest_spec (n : NetM) (s t : Int) (h80 : endsE n.net s t = 0 → n.net.nodes ≤ 8) (hd : endsE n.net s t = 0 → Dist n.net.nodes.toNat ((arcsE n.net).map dear) t (distC n.net.nodes.toNat ((arcsE n.net).map dear) t)) {B : Nat} {w0 : World} {H : List HP} {w : World} (hin : n.In B w0 H) (hw : St B w0 H w) :
    Calls Try.prog 15 [n.val, .int .i64 s, .int .i64 t].toArray w (Post B w0 fun v K => ∃ A cap, v = .tuple #[.slice A (shortE n.net s t).1.length cap, .int .i64 (shortE n.net s t).2] ∧ K = ints A cap (shortE n.net s t).1 :: H) := by
  refine Calls_of_VC Try.func15 Try.ntmps15 rfl rfl hw ?_
  (apply VC_seq; apply VC_region; apply VL_box_agg; exact rfl; exact rfl; intro g)
  unfold shortE
  by_cases he : endsE n.net s t = 0
  rotate_left
  · rw [if_pos he]
    repeat' (first | ((first | apply VL_callt en36 | apply VL_callq en36); (repeat (first | exact args_nil | (apply args_cons; exact rfl))); exact rfl; exact fun _ hw => (rends_spec n s t hin.cons hw)) | apply (zs1 ?_) | apply (zs2 ?_) | (apply zg3; refine zs8 ?_) | (apply zg8; (refine zs16 ?_ ?_ <;> intro _ <;> try (exfalso; omega))) | apply (zs65 ?_) | apply (zs68 ?_) | apply (zs69 ?_) | apply (zs70 ?_) | (apply zg27; refine zs71 ?_) | apply (zs74 ?_) | apply (zs77 ?_) | fail)
    (repeat apply VQ_tail)
    apply VQ_nilSlice 3 1
    apply VQ_ret2; exact rfl; exact rfl; exact rfl
    exact ⟨none, 0, rfl, rfl⟩
  rw [if_neg (fun h => h he)]
  obtain ⟨hck, ⟨s0, s1⟩, ⟨t0, t1⟩, hst⟩ := ends_ok he
  have hen := fun {H : List HP} {w : World} (hin : n.In B w0 H) (hw : St B w0 H w) => rends_spec n s t hin hw
  rw [he] at hen
  have hok := check_ok hck
  have hn1 := hok.n1
  have h8 := h80 he
  have hcnt := all_count h8 s t
  repeat' (first | ((first | apply VL_callt en36 | apply VL_callq en36); (repeat (first | exact args_nil | (apply args_cons; exact rfl))); exact rfl; exact fun _ hw => (hen hin.cons hw)) | apply (zs1 ?_) | apply (zs2 ?_) | (apply zg3; refine zs8 ?_) | (apply zg8; (refine zs16 ?_ ?_ <;> intro _ <;> try (exfalso; omega))) | apply (zs65 ?_) | apply (zs68 ?_) | apply (zs69 ?_) | apply (zs70 ?_) | (apply zg27; refine zs72 ?_) | apply (zs76 ?_) | fail)
  apply VL_call _ en37
  (repeat (first | exact args_nil | (apply args_cons; exact rfl)))
  exact rfl
  exact fun _ hw => (All_spec n s t hck h8 ⟨s0, s1⟩ hin.cons (hw))
  rintro _ _ ⟨A, cap, rs, rfl, hrs, rfl⟩
  have hlen : rs.length = (allE n.net s t).length := by have := congrArg List.length hrs; rwa [List.length_map] at this
  rcases all_short hok ⟨s0, s1⟩ ⟨t0, t1⟩ (hd he) with ⟨h1, h2⟩ | ⟨h1, h2⟩
  · rw [if_pos h1]
    rw [h2] at hlen
    have hl0 : rs.length = 0 := hlen
    unfold rtes
    repeat' (first | apply (zs1 ?_) | apply (zs2 ?_) | (apply zg4; refine zs9 ?_) | (apply zg7; (refine zs15 ?_ ?_ <;> intro _ <;> try (exfalso; omega))) | apply (zs65 ?_) | apply (zs68 ?_) | apply (zs69 ?_) | apply (zs70 ?_) | (apply zg27; refine zs71 ?_) | apply (zs74 ?_) | apply (zs77 ?_) | fail)
    apply VQ_st (ints none 0 [] :: H)
    · intro w hw
      exact hw.tail.tail.tail.nilSlice _ _
    apply VQ_ret2; exact rfl; exact rfl; exact rfl
    exact ⟨none, 0, rfl, rfl⟩
  · rw [if_neg h1]
    have hne : 1 ≤ rs.length := by
      rw [hlen]
      exact List.length_pos_of_mem h2.mem
    obtain ⟨R, hR⟩ : ∃ R, shortR n.net s t = R := ⟨_, rfl⟩
    rw [hR] at h2 ⊢
    have hrow : ∀ r ∈ rs, brokenE n.net r.xs = false ∧ 1 ≤ r.xs.length ∧ r.xs.length ≤ 32 := fun r hr => by
      have hm : r.xs ∈ allE n.net s t := by rw [← hrs]; exact List.mem_map.2 ⟨r, hr, rfl⟩
      obtain ⟨_, _, _, _, _, h3, h4, h5⟩ := all_ok hok ⟨s0, s1⟩ hm
      exact ⟨h3, h4, by omega⟩
    obtain ⟨r0, hr0⟩ : ∃ r, rs[0]? = some r := ⟨_, List.getElem?_eq_getElem (by omega)⟩
    unfold rtes
    repeat' (first | apply (zs1 ?_) | apply (zs2 ?_) | (apply zg3; refine zs60 ?_) | (apply zg4; refine zs9 ?_) | (apply zg5; refine zs10 ?_) | (apply zg7; (refine zs15 ?_ ?_ <;> intro _ <;> try (exfalso; omega))) | apply (zs65 ?_) | apply (zs68 ?_) | apply (zs69 ?_) | apply (zs70 ?_) | (apply zg27; refine zs72 ?_) | apply (zs73 ?_) | apply (zs76 ?_) | fail)
    refine VC_loop1 (fun (z : Bz2) => [(11, .int .i64 ((z.k : Int) + 1)), (10, .slice z.b.A z.b.xs.length z.b.cap), (9, .slice A rs.length cap), (3, .pointer (some ⟨g, 0, none⟩))]) (fun _ => sl 23 1 A rs.length cap (rs.flatMap rowF) :: many (rs.map rowQ) :: netB g n :: H) (fun z => z.k + 1 ≤ rs.length ∧ z.b ∈ rs ∧ FirstMin (keyG (dearW n.net)) ((allE n.net s t).take (z.k + 1)) z.b.xs) (fun z => rs.length - z.k) ⟨0, r0⟩ ⟨hne, List.mem_of_getElem? hr0, ?_⟩ ?_ (fun w hw => hw) ?_
    · have h3 : (allE n.net s t).take (0 + 1) = [r0.xs] := by
        rw [← hrs]
        cases rs with
        | nil => simp at hne
        | cons x xs =>
          obtain rfl : x = r0 := by simpa using hr0
          rfl
      simp only
      rw [h3]
      exact .one _ _
    · (repeat (first | exact sub_nil _ | (apply sub_cons; first | exact rfl | exact congrArg (fun z : Int => some (Value.int .i64 z)) (by omega))))
    rintro ⟨k, b⟩ ⟨hk, hb, hfm⟩ K hK
    simp only at hk hb hfm ⊢
    obtain ⟨b1, b2, b3⟩ := hrow b hb
    by_cases hlt : k + 1 < rs.length
    · obtain ⟨q, hq⟩ : ∃ q, rs[k + 1]? = some q := ⟨_, List.getElem?_eq_getElem hlt⟩
      have hqm := List.mem_of_getElem? hq
      obtain ⟨q1, q2, q3⟩ := hrow q hqm
      have hq' : rs[((k : Int) + 1).toNat]? = some q := by rw [show ((k : Int) + 1).toNat = k + 1 by omega]; exact hq
      have hrq : ∀ {X1 X2 : HP}, Rd B w0 (X1 :: many (rs.map rowQ) :: X2 :: H) q.A (q.xs.flatMap numF) := Rd.manyT (H := rs.map rowQ) (.sl (e := 3) (size := 1) (k := q.xs.length) (cap := q.cap) (List.mem_map.2 ⟨q, hqm, rfl⟩)) (by (focus repeat (first | with_reducible exact List.mem_cons_self | with_reducible apply List.mem_cons_of_mem | assumption)))
      have hrb : ∀ {X1 X2 : HP}, Rd B w0 (X1 :: many (rs.map rowQ) :: X2 :: H) b.A (b.xs.flatMap numF) := Rd.manyT (H := rs.map rowQ) (.sl (e := 3) (size := 1) (k := b.xs.length) (cap := b.cap) (List.mem_map.2 ⟨b, hb, rfl⟩)) (by (focus repeat (first | with_reducible exact List.mem_cons_self | with_reducible apply List.mem_cons_of_mem | assumption)))
      have hsq := fun {X1 X2 : HP} {w : World} (hin : n.In B w0 (X1 :: many (rs.map rowQ) :: X2 :: H)) (hw : St B w0 (X1 :: many (rs.map rowQ) :: X2 :: H) w) => sum_spec n q.xs (cap := q.cap) hin hck q1 hrq ⟨q2, by omega⟩ hw
      have hsb := fun {X1 X2 : HP} {w : World} (hin : n.In B w0 (X1 :: many (rs.map rowQ) :: X2 :: H)) (hw : St B w0 (X1 :: many (rs.map rowQ) :: X2 :: H) w) => sum_spec n b.xs (cap := b.cap) hin hck b1 hrb ⟨b2, by omega⟩ hw
      have kq := dear_key n.net q.xs (by intro h; rw [h] at q2; simp at q2)
      have kb := dear_key n.net b.xs (by intro h; rw [h] at b2; simp at b2)
      have hfs := hfm.snoc (y := q.xs)
      have htk : (allE n.net s t).take (k + 1 + 1) = (allE n.net s t).take (k + 1) ++ [q.xs] := by
        rw [List.take_add_one, ← hrs, List.getElem?_map, hq]; rfl
      rw [← htk] at hfs
      obtain ⟨cq, hcq⟩ : ∃ x, costE n.net q.xs = x := ⟨_, rfl⟩
      obtain ⟨cb, hcb⟩ : ∃ x, costE n.net b.xs = x := ⟨_, rfl⟩
      rw [hcq] at hsq kq
      rw [hcb] at hsb kb
      rw [kq, kb] at hfs
      by_cases hbet : cq < cb ∨ (cq = cb ∧ q.xs.length < b.xs.length)
      · rw [if_pos (by omega)] at hfs
        repeat' (first | apply (zs1 ?_) | (apply zg3; first | refine zs8 ?_ | refine zs60 ?_) | (apply zg4; refine zs9 ?_) | (apply zg5; refine zs10 ?_) | (apply (zs17 ?_ ?_) <;> intro _ <;> try (exfalso; omega)) | apply (zs65 ?_) | apply (zs68 ?_) | apply (zs69 ?_) | apply (zs70 ?_) | (apply zg27; refine zs71 ?_) | apply (zs73 ?_) | apply (zs76 ?_) | (apply zg28; refine zs84 ?_) | fail)
        first | apply VL_callt en38 | apply VL_callq en38
        (repeat (first | exact args_nil | (apply args_cons; exact rfl)))
        exact rfl
        exact fun _ hw => (hsq hin.cons.cons.cons hw)
        repeat' (first | apply (zs1 ?_) | (apply zg3; refine zs8 ?_) | fail)
        first | apply VL_callt en38 | apply VL_callq en38
        (repeat (first | exact args_nil | (apply args_cons; exact rfl)))
        exact rfl
        exact fun _ hw => (hsb hin.cons.cons.cons hw)
        repeat' (first | apply (zs1 ?_) | apply (zs2 ?_) | (apply zg1; first | refine zs3 ?_ | refine zs4 ?_) | (apply zg3; refine zs60 ?_) | (apply zg4; refine zs9 ?_) | (apply zg5; refine zs10 ?_) | (apply zg6; first | refine zs11 ?_ | refine zs12 ?_) | (apply zg7; (refine zs15 ?_ ?_ <;> intro _ <;> try (exfalso; omega))) | (apply (zs17 ?_ ?_) <;> intro _ <;> try (exfalso; omega)) | (apply zg13; refine zs30 ?_) | apply (zs65 ?_) | apply (zs66 ?_) | apply (zs68 ?_) | apply (zs69 ?_) | apply (zs70 ?_) | (apply zg27; refine zs71 ?_) | apply (zs79 ?_) | fail)
        all_goals (
          apply hK ⟨k + 1, q⟩
          · exact ⟨by simp only; omega, hqm, hfs⟩
          · simp only; omega
          · (repeat (first | exact sub_nil _ | (apply sub_cons; first | exact rfl | exact congrArg (fun z : Int => some (Value.int .i64 z)) (by omega))))
          · exact fun w hw => hw)
      · rw [if_neg (by omega)] at hfs
        repeat' (first | apply (zs1 ?_) | (apply zg3; first | refine zs8 ?_ | refine zs60 ?_) | (apply zg4; refine zs9 ?_) | (apply zg5; refine zs10 ?_) | (apply (zs17 ?_ ?_) <;> intro _ <;> try (exfalso; omega)) | apply (zs65 ?_) | apply (zs68 ?_) | apply (zs69 ?_) | apply (zs70 ?_) | (apply zg27; refine zs71 ?_) | apply (zs73 ?_) | apply (zs76 ?_) | (apply zg28; refine zs84 ?_) | fail)
        first | apply VL_callt en38 | apply VL_callq en38
        (repeat (first | exact args_nil | (apply args_cons; exact rfl)))
        exact rfl
        exact fun _ hw => (hsq hin.cons.cons.cons hw)
        repeat' (first | apply (zs1 ?_) | (apply zg3; refine zs8 ?_) | fail)
        first | apply VL_callt en38 | apply VL_callq en38
        (repeat (first | exact args_nil | (apply args_cons; exact rfl)))
        exact rfl
        exact fun _ hw => (hsb hin.cons.cons.cons hw)
        repeat' (first | apply (zs1 ?_) | apply (zs2 ?_) | (apply zg1; first | refine zs3 ?_ | refine zs4 ?_) | (apply zg3; refine zs60 ?_) | (apply zg4; refine zs9 ?_) | (apply zg5; refine zs10 ?_) | (apply zg6; first | refine zs11 ?_ | refine zs12 ?_) | (apply zg7; (refine zs15 ?_ ?_ <;> intro _ <;> try (exfalso; omega))) | (apply (zs17 ?_ ?_) <;> intro _ <;> try (exfalso; omega)) | (apply zg13; refine zs30 ?_) | apply (zs65 ?_) | apply (zs66 ?_) | apply (zs68 ?_) | apply (zs69 ?_) | apply (zs70 ?_) | (apply zg27; refine zs72 ?_) | apply (zs76 ?_) | apply (zs79 ?_) | fail)
        all_goals (
          apply hK ⟨k + 1, b⟩
          · exact ⟨by simp only; omega, hb, hfs⟩
          · simp only; omega
          · (repeat (first | exact sub_nil _ | (apply sub_cons; first | exact rfl | exact congrArg (fun z : Int => some (Value.int .i64 z)) (by omega))))
          · exact fun w hw => hw)
    · clear hK
      have hall : (allE n.net s t).take (k + 1) = allE n.net s t := List.take_of_length_le (by omega)
      rw [hall] at hfm
      obtain rfl : b.xs = R := hfm.uniq h2
      obtain ⟨l1, l2, hsp⟩ := List.append_of_mem hb
      by_cases h9 : 9 < b.xs.length
      · rw [if_pos h9]
        repeat' (first | apply (zs1 ?_) | apply (zs2 ?_) | (apply zg4; refine zs9 ?_) | (apply (zs17 ?_ ?_) <;> intro _ <;> try (exfalso; omega)) | (apply (zs19 ?_ ?_) <;> intro _ <;> try (exfalso; omega)) | (apply zg14; refine zs31 ?_) | apply (zs65 ?_) | apply (zs68 ?_) | apply (zs69 ?_) | apply (zs70 ?_) | (apply zg27; first | refine zs71 ?_ | refine zs72 ?_) | apply (zs74 ?_) | apply (zs75 ?_) | apply (zs77 ?_) | apply (zs80 ?_) | apply (zs81 ?_) | fail)
        apply VQ_st (ints none 0 [] :: H)
        · intro w hw
          exact hw.tail.tail.tail.nilSlice _ _
        apply VQ_ret2; exact rfl; exact rfl; exact rfl
        exact ⟨none, 0, rfl, rfl⟩
      · rw [if_neg h9]
        repeat' (first | apply (zs1 ?_) | apply (zs2 ?_) | (apply zg4; refine zs9 ?_) | (apply (zs17 ?_ ?_) <;> intro _ <;> try (exfalso; omega)) | (apply (zs19 ?_ ?_) <;> intro _ <;> try (exfalso; omega)) | (apply zg14; refine zs31 ?_) | apply (zs65 ?_) | apply (zs68 ?_) | apply (zs69 ?_) | apply (zs70 ?_) | (apply zg27; refine zs72 ?_) | apply (zs74 ?_) | apply (zs75 ?_) | apply (zs76 ?_) | apply (zs80 ?_) | apply (zs81 ?_) | fail)
        apply VQ_st (ints b.A b.cap b.xs :: H)
        · intro w hw
          have h5 := hw.tail
          rw [hsp, List.map_append, List.map_cons] at h5
          have h6 := h5.perm (.pull _ _ _ _)
          exact h6.perm (.cons _ (.dropK (.drop _ _)))
        apply VQ_ret2; exact rfl; exact rfl; exact rfl
        exact ⟨b.A, b.cap, rfl, rfl⟩

theorem law_shortest (n : NetM) (s t : Int) {B : Nat} {w0 : World} {H : List HP} {w : World} (hin : n.In B w0 H) (hw : St B w0 H w) :
    Calls Try.prog 4 [n.val, .int .i64 s, .int .i64 t].toArray w (Post B w0 fun v K => v = .bool true ∧ ∀ w, St B w0 K w → St B w0 H w) := by
  refine Calls_of_VC Try.func4 Try.ntmps4 rfl rfl hw ?_
  (apply VC_seq; apply VC_region; apply VL_box_agg; exact rfl; exact rfl; intro g)
  have hfe := fun {H : List HP} {w : World} (hin : n.In B w0 H) (hw : St B w0 H w) => few_spec n hin hw
  cases hfew : fewE n.net with
  | false =>
    rw [hfew] at hfe
    repeat' (first | ((first | apply VL_callt en10 | apply VL_callq en10); (repeat (first | exact args_nil | (apply args_cons; exact rfl))); exact rfl; exact fun _ hw => (awakeR_spec hw)) | ((first | apply VL_callt en13 | apply VL_callq en13); (repeat (first | exact args_nil | (apply args_cons; exact rfl))); exact rfl; exact fun _ hw => (hfe hin.cons hw)) | apply (zs1 ?_) | apply (zs2 ?_) | (apply zg1; refine zs3 ?_) | (apply zg3; refine zs8 ?_) | (apply zg6; refine zs11 ?_) | (apply zg20; first | refine zs47 ?_ | refine zs48 ?_) | apply (zs65 ?_) | apply (zs68 ?_) | apply (zs69 ?_) | apply (zs70 ?_) | (apply zg27; first | refine zs71 ?_ | refine zs72 ?_) | apply (zs74 ?_) | apply (zs76 ?_) | apply (zs77 ?_) | fail)
    apply VQ_ret1; exact rfl; exact rfl
    exact ⟨rfl, fun w hw => hw.tail⟩
  | true =>
    rw [hfew] at hfe
    by_cases hbig : 7 < n.rows.length
    · skip
      repeat' (first | ((first | apply VL_callt en10 | apply VL_callq en10); (repeat (first | exact args_nil | (apply args_cons; exact rfl))); exact rfl; exact fun _ hw => (awakeR_spec hw)) | ((first | apply VL_callt en13 | apply VL_callq en13); (repeat (first | exact args_nil | (apply args_cons; exact rfl))); exact rfl; exact fun _ hw => (hfe hin.cons hw)) | apply (zs1 ?_) | apply (zs2 ?_) | (apply zg1; refine zs4 ?_) | (apply zg2; refine zs6 ?_) | (apply zg3; first | refine zs7 ?_ | refine zs8 ?_) | (apply zg4; refine zs9 ?_) | (apply zg6; refine zs12 ?_) | (apply (zs19 ?_ ?_) <;> intro _ <;> try (exfalso; omega)) | (apply zg20; refine zs47 ?_) | apply (zs65 ?_) | apply (zs68 ?_) | apply (zs69 ?_) | apply (zs70 ?_) | (apply zg27; first | refine zs71 ?_ | refine zs72 ?_) | apply (zs74 ?_) | apply (zs76 ?_) | apply (zs77 ?_) | fail)
      apply VQ_ret1; exact rfl; exact rfl
      exact ⟨rfl, fun w hw => hw.tail⟩
    · have h8 : endsE n.net s t = 0 → n.net.nodes ≤ 8 := fun he => by
        have h1 := (check_ok (ends_ok he).1).p0
        have h2 : n.net.power.length = n.rows.length := by simp [NetM.net]
        omega
      repeat' (first | ((first | apply VL_callt en10 | apply VL_callq en10); (repeat (first | exact args_nil | (apply args_cons; exact rfl))); exact rfl; exact fun _ hw => (awakeR_spec hw)) | ((first | apply VL_callt en13 | apply VL_callq en13); (repeat (first | exact args_nil | (apply args_cons; exact rfl))); exact rfl; exact fun _ hw => (hfe hin.cons hw)) | apply (zs1 ?_) | apply (zs2 ?_) | (apply zg1; refine zs4 ?_) | (apply zg2; refine zs6 ?_) | (apply zg3; first | refine zs7 ?_ | refine zs8 ?_) | (apply zg4; refine zs9 ?_) | (apply zg6; refine zs12 ?_) | (apply (zs19 ?_ ?_) <;> intro _ <;> try (exfalso; omega)) | (apply zg20; refine zs47 ?_) | apply (zs65 ?_) | apply (zs68 ?_) | apply (zs69 ?_) | apply (zs70 ?_) | (apply zg27; refine zs72 ?_) | apply (zs76 ?_) | fail)
      apply VL_call _ en14
      (repeat (first | exact args_nil | (apply args_cons; exact rfl)))
      exact rfl
      exact fun _ hw => (shortest_spec n s t hin.cons (hw))
      rintro _ _ ⟨A1, c1, rfl, _, hdd, rfl⟩
      repeat' (first | apply (zs1 ?_) | apply (zs2 ?_) | (apply zg3; refine zs8 ?_) | apply (zs13 ?_) | apply (zs65 ?_) | apply (zs68 ?_) | apply (zs69 ?_) | apply (zs70 ?_) | fail)
      apply VL_call _ en15
      (repeat (first | exact args_nil | (apply args_cons; exact rfl)))
      exact rfl
      exact fun _ hw => (rshortest_spec n s t h8 hdd hin.cons.cons (hw))
      rintro _ _ ⟨A2, c2, rfl, rfl⟩
      have hlen : (shortE n.net s t).1.length ≤ 9 := by
        unfold shortE
        repeat' split
        all_goals (first | (simp; done) | (simp only; omega))
      obtain ⟨⟨q, e⟩, hq⟩ : ∃ x, shortE n.net s t = x := ⟨_, rfl⟩
      rw [hq] at hlen ⊢
      dsimp only at hlen ⊢
      have heq := fun {H : List HP} {w : World} (h1 : Rd B w0 H A1 (q.flatMap numF)) (h2 : Rd B w0 H A2 (q.flatMap numF)) (hw : St B w0 H w) => equal_route q q (by omega) (by omega) (cap := c1) (cap2 := c2) h1 h2 hw
      rw [decide_eq_true (rfl : q = q)] at heq
      repeat' (first | apply (zs1 ?_) | apply (zs2 ?_) | apply (zs13 ?_) | apply (zs65 ?_) | apply (zs68 ?_) | apply (zs69 ?_) | apply (zs70 ?_) | fail)
      first | apply VL_callt en16 | apply VL_callq en16
      (repeat (first | exact args_nil | (apply args_cons; exact rfl)))
      exact rfl
      exact fun _ hw => (heq (.sl (by (focus repeat (first | with_reducible exact List.mem_cons_self | with_reducible apply List.mem_cons_of_mem | assumption)))) (.sl (by (focus repeat (first | with_reducible exact List.mem_cons_self | with_reducible apply List.mem_cons_of_mem | assumption)))) hw)
      repeat' (first | apply (zs1 ?_) | apply (zs2 ?_) | (apply zg1; refine zs4 ?_) | (apply zg6; refine zs11 ?_) | (apply zg7; (refine zs15 ?_ ?_ <;> intro _ <;> try (exfalso; omega))) | apply (zs65 ?_) | apply (zs68 ?_) | apply (zs74 ?_) | fail)
      apply VQ_ret1; exact rfl; exact rfl
      exact ⟨rfl, fun w hw => hw.tail.tail.tail⟩
end Go.Proofs.Ytleldppdflgmgaa

/- Routes, plain: two ways that have nothing in common, at least cost. -/
namespace Go.Rt
open Go.Nw

/-! ### Duality -/
def balE (E : List E3) (p : Int → Int) : Int := sumI (fun e => p e.2.1 - p e.1) E
def costE3 (E : List E3) : Int := sumI (fun e : E3 => e.2.2) E
theorem dual {L : List FA} {q : Int → Int} {κ : E3 → Int} (h1 : ∀ x ∈ L, x.u = true → 0 ≤ q x.t - q x.f - κ (x.f, x.t, x.c)) (h0 : ∀ x ∈ L, x.u = false → q x.t - q x.f - κ (x.f, x.t, x.c) ≤ 0) {E R : List E3} (hE : (endsF L).Perm (E ++ R)) : balE E q - sumI κ E ≤ bal L q - sumI (fun x : FA => if x.u = true then κ (x.f, x.t, x.c) else 0) L := by
  have e1 : sumI (fun e : E3 => max 0 (q e.2.1 - q e.1 - κ e)) (endsF L) = bal L q - sumI (fun x : FA => if x.u = true then κ (x.f, x.t, x.c) else 0) L := by
    unfold endsF bal
    rw [sumI_map]
    clear hE
    induction L with
    | nil => rfl
    | cons x L ih =>
      rw [sumI_cons, sumI_cons, sumI_cons, ih (fun y hy => h1 y (List.mem_cons_of_mem _ hy)) (fun y hy => h0 y (List.mem_cons_of_mem _ hy))]
      have a1 := h1 x List.mem_cons_self
      have a0 := h0 x List.mem_cons_self
      unfold balG
      cases hu : x.u with
      | true =>
        have := a1 hu
        simp only [if_pos]
        omega
      | false =>
        have := a0 hu
        simp only [Bool.false_eq_true, if_false]
        omega
  rw [sumI_perm _ hE, sumI_append] at e1
  have h2 : 0 ≤ sumI (fun e : E3 => max 0 (q e.2.1 - q e.1 - κ e)) R := sumI_nonneg fun e _ => by omega
  have h3 : balE E q - sumI κ E ≤ sumI (fun e : E3 => max 0 (q e.2.1 - q e.1 - κ e)) E := by
    clear hE e1 h2
    unfold balE
    induction E with
    | nil => exact Int.le_refl _
    | cons e E ih => rw [sumI_cons, sumI_cons, sumI_cons]; omega
  omega
theorem dual_cost {L : List FA} {π : Int → Int} (hp : PotE (flat2 L) π) {E R : List E3} (hE : (endsF L).Perm (E ++ R)) (hb : balE E π = bal L π) : costF L ≤ costE3 E := by
  have h := dual (q := π) (κ := fun e => e.2.2) (L := L) (fun x hx hu => ?_) (fun x hx hu => ?_) hE
  · rw [hb] at h
    unfold costF costE3
    have e : sumI costG L = sumI (fun x : FA => if x.u = true then (x.f, x.t, x.c).snd.snd else 0) L := rfl
    rw [e]
    omega
  · have := hp _ (flat2_mem hx).2 (by unfold rev; simp [hu])
    simp only [rev] at this ⊢
    omega
  · have := hp _ (flat2_mem hx).1 (by unfold fwd; simp [hu])
    simp only [fwd] at this ⊢
    omega
theorem cut {L : List FA} {s t x : Int} {es' : List Ed} {R : Int → Bool} (h : PushNo L s t x es' R) {E R' : List E3} (hE : (endsF L).Perm (E ++ R')) : balE E (fun v => if R v = true then 0 else 1) ≤ bal L (fun v => if R v = true then 0 else 1) := by
  have hd := dual (q := fun v => if R v = true then 0 else 1) (κ := fun _ => 0) (L := L) (fun x hx hu => ?_) (fun x hx hu => ?_) hE
  · have e1 : sumI (fun _ : E3 => (0 : Int)) E = 0 := by
      clear hd hE
      induction E with
      | nil => rfl
      | cons a E ih => rw [sumI_cons, ih]; rfl
    have e2 : sumI (fun x : FA => if x.u = true then (0 : Int) else 0) L = 0 := by
      clear hd hE h
      induction L with
      | nil => rfl
      | cons a E ih => rw [sumI_cons, ih]; simp
    rw [e1, e2] at hd
    omega
  · have := h.cl _ (flat2_mem hx).2 (by unfold rev; simp [hu])
    simp only [rev] at this
    by_cases h1 : R x.t = true
    · rw [if_pos h1, if_pos (this h1)]; decide
    · rw [if_neg h1]; split <;> decide
  · have := h.cl _ (flat2_mem hx).1 (by unfold fwd; simp [hu])
    simp only [fwd] at this
    by_cases h1 : R x.f = true
    · rw [if_pos h1, if_pos (this h1)]; decide
    · rw [if_neg h1]; split <;> decide

/-! ### The graph of links -/
def nodeFA (closed : Int → Bool) (k : Nat) : List FA := (List.range k).flatMap fun v : Nat => if closed (v : Int) = true then [] else [⟨2 * (v : Int), 2 * (v : Int) + 1, 0, false⟩]
def arcFA (l : List Lk) : List FA := l.map fun a => ⟨2 * a.1 + 1, 2 * a.2.1, a.2.2, false⟩
def splitFA (nodes : Nat) (l : List Lk) (closed : Int → Bool) : List FA := nodeFA closed nodes ++ arcFA l
theorem flat2_append : ∀ (l m : List FA), flat2 (l ++ m) = flat2 l ++ flat2 m
  | [], _ => rfl
  | x :: l, m => by simp only [List.cons_append, flat2, flat2_append l m]
theorem splitE_eq (nodes : Nat) (l : List Lk) (closed : Int → Bool) : splitE nodes l closed = flat2 (splitFA nodes l closed) := by
  unfold splitE splitFA
  rw [flat2_append]
  congr 1
  · unfold nodeEs nodeFA
    generalize List.range nodes = r
    induction r with
    | nil => rfl
    | cons v r ih =>
      rw [List.flatMap_cons, List.flatMap_cons, ih, flat2_append]
      congr 1
      split
      · rfl
      · rfl
  · unfold arcEs arcFA
    induction l with
    | nil => rfl
    | cons a l ih =>
      rw [List.flatMap_cons, List.map_cons, ih]
      rfl
def Arcs8 (nodes : Nat) (l : List Lk) : Prop := ∀ a ∈ l, (0 ≤ a.1 ∧ a.1 < nodes) ∧ (0 ≤ a.2.1 ∧ a.2.1 < nodes) ∧ (1 ≤ a.2.2 ∧ a.2.2 ≤ 8)
def arc3 (a : Lk) : E3 := (2 * a.1 + 1, 2 * a.2.1, a.2.2)
def node3 (v : Int) : E3 := (2 * v, 2 * v + 1, 0)
theorem mem_ends {nodes : Nat} {l : List Lk} {closed : Int → Bool} {e : E3} : e ∈ endsF (splitFA nodes l closed) ↔ (∃ v : Int, (0 ≤ v ∧ v < nodes) ∧ closed v = false ∧ e = node3 v) ∨ ∃ a ∈ l, e = arc3 a := by
  unfold endsF splitFA
  rw [List.map_append, List.mem_append]
  constructor
  · rintro (h | h)
    · obtain ⟨x, hx, rfl⟩ := List.mem_map.1 h
      obtain ⟨v, hv, h⟩ := List.mem_flatMap.1 hx
      have hv := List.mem_range.1 hv
      cases hc : closed (v : Int) with
      | true => rw [hc, if_pos rfl] at h; cases h
      | false =>
        rw [hc, if_neg (by decide)] at h
        obtain rfl := List.mem_singleton.1 h
        exact .inl ⟨(v : Int), by omega, hc, rfl⟩
    · obtain ⟨x, hx, rfl⟩ := List.mem_map.1 h
      obtain ⟨a, ha, rfl⟩ := List.mem_map.1 hx
      exact .inr ⟨a, ha, rfl⟩
  · rintro (⟨v, ⟨h0, h1⟩, hc, rfl⟩ | ⟨a, ha, rfl⟩)
    · left
      refine List.mem_map.2 ⟨⟨2 * v, 2 * v + 1, 0, false⟩, List.mem_flatMap.2 ⟨v.toNat, List.mem_range.2 (by omega), ?_⟩, rfl⟩
      rw [show ((v.toNat : Nat) : Int) = v by omega, hc, if_neg (by decide)]
      exact List.mem_singleton.2 rfl
    · right
      exact List.mem_map.2 ⟨⟨2 * a.1 + 1, 2 * a.2.1, a.2.2, false⟩, List.mem_map.2 ⟨a, ha, rfl⟩, rfl⟩
theorem nodup_map_inj {α β : Type} {f : α → β} (hf : ∀ a b, f a = f b → a = b) {l : List α} (h : l.Nodup) : (l.map f).Nodup :=
  List.pairwise_map.2 (List.Pairwise.imp (fun hne e => hne (hf _ _ e)) h)
theorem nodup_of_map {α β : Type} {f : α → β} {l : List α} (h : (l.map f).Nodup) : l.Nodup :=
  List.Pairwise.imp (fun hne e => hne (congrArg f e)) (List.pairwise_map.1 h)
theorem arc3_inj (a b : Lk) (h : arc3 a = arc3 b) : a = b := by
  obtain ⟨a1, a2, a3⟩ := a
  obtain ⟨b1, b2, b3⟩ := b
  simp only [arc3, Prod.mk.injEq] at h
  obtain ⟨h1, h2, h3⟩ := h
  rw [show a1 = b1 by omega, show a2 = b2 by omega, h3]
theorem node3_inj (a b : Int) (h : node3 a = node3 b) : a = b := by
  simp only [node3, Prod.mk.injEq] at h
  omega
theorem arc_node (a : Lk) (v : Int) : arc3 a ≠ node3 v := by
  intro h
  simp only [arc3, node3, Prod.mk.injEq] at h
  omega
theorem nodeFA_nodup (closed : Int → Bool) : ∀ k, ((nodeFA closed k).map fun x : FA => (x.f, x.t, x.c)).Nodup ∧ ∀ e ∈ (nodeFA closed k).map fun x : FA => (x.f, x.t, x.c), ∃ v : Int, v < k ∧ e = node3 v
  | 0 => ⟨List.nodup_nil, fun e he => by cases he⟩
  | k + 1 => by
    obtain ⟨h1, h2⟩ := nodeFA_nodup closed k
    have e : nodeFA closed (k + 1) = nodeFA closed k ++ (if closed (k : Int) = true then [] else [⟨2 * (k : Int), 2 * (k : Int) + 1, 0, false⟩]) := by
      unfold nodeFA
      rw [List.range_succ, List.flatMap_append]
      simp
    rw [e, List.map_append]
    by_cases hc : closed (k : Int) = true
    · rw [if_pos hc, List.map_nil, List.append_nil]
      exact ⟨h1, fun e he => by obtain ⟨v, hv, h⟩ := h2 e he; exact ⟨v, by omega, h⟩⟩
    · rw [if_neg hc]
      refine ⟨List.nodup_append.2 ⟨h1, by simp, fun a ha b hb => ?_⟩, fun e he => ?_⟩
      · obtain ⟨v, hv, rfl⟩ := h2 a ha
        have hb : b = node3 (k : Int) := by simpa [node3] using hb
        rw [hb]
        intro h
        have := node3_inj _ _ h
        omega
      · rcases List.mem_append.1 he with he | he
        · obtain ⟨v, hv, h⟩ := h2 e he; exact ⟨v, by omega, h⟩
        · exact ⟨(k : Int), by omega, by simpa [node3] using he⟩
theorem ends_nodup {nodes : Nat} {l : List Lk} {closed : Int → Bool} (hl : l.Nodup) : (endsF (splitFA nodes l closed)).Nodup := by
  unfold endsF splitFA
  rw [List.map_append]
  obtain ⟨h1, h2⟩ := nodeFA_nodup closed nodes
  have h3 : (arcFA l).map (fun x : FA => (x.f, x.t, x.c)) = l.map arc3 := by
    unfold arcFA; rw [List.map_map]; rfl
  rw [h3]
  refine List.nodup_append.2 ⟨h1, nodup_map_inj arc3_inj hl, fun a ha b hb => ?_⟩
  obtain ⟨v, _, rfl⟩ := h2 a ha
  obtain ⟨c, _, rfl⟩ := List.mem_map.1 hb
  exact (arc_node c v).symm
theorem ed8_of {sides : Nat} {L : List FA} (h : ∀ e ∈ endsF L, (0 ≤ e.1 ∧ e.1 < sides) ∧ (0 ≤ e.2.1 ∧ e.2.1 < sides) ∧ (-8 ≤ e.2.2 ∧ e.2.2 ≤ 8)) : Ed8 sides (flat2 L) := by
  intro e he
  obtain ⟨x, hx, h2⟩ := mem_flat2 he
  have h3 := h (x.f, x.t, x.c) (List.mem_map.2 ⟨x, hx, rfl⟩)
  simp only at h3
  rcases h2 with rfl | rfl
  · exact h3
  · simp only [rev]; omega
theorem split_ends8 {nodes : Nat} {l : List Lk} {closed : Int → Bool} (hl : Arcs8 nodes l) : ∀ e ∈ endsF (splitFA nodes l closed), (0 ≤ e.1 ∧ e.1 < (2 * nodes : Nat)) ∧ (0 ≤ e.2.1 ∧ e.2.1 < (2 * nodes : Nat)) ∧ (0 ≤ e.2.2 ∧ e.2.2 ≤ 8) := by
  intro e he
  rcases mem_ends.1 he with ⟨v, hv, _, rfl⟩ | ⟨a, ha, rfl⟩
  · simp only [node3]; omega
  · obtain ⟨h1, h2, h3⟩ := hl a ha
    simp only [arc3]; omega
theorem split_unused {nodes : Nat} {l : List Lk} {closed : Int → Bool} : ∀ x ∈ splitFA nodes l closed, x.u = false := by
  intro x hx
  rcases List.mem_append.1 hx with h | h
  · obtain ⟨v, _, h⟩ := List.mem_flatMap.1 h
    split at h
    · cases h
    · obtain rfl := List.mem_singleton.1 h; rfl
  · obtain ⟨a, _, rfl⟩ := List.mem_map.1 h; rfl

/-- Two units. -/
def want (a b to : Int) (p : Int → Int) : Int := (p (2 * to) - p (2 * a + 1)) + (p (2 * to) - p (2 * b + 1))
theorem bal_zero {L : List FA} (h : ∀ x ∈ L, x.u = false) (p : Int → Int) : bal L p = 0 := by
  unfold bal
  induction L with
  | nil => rfl
  | cons x L ih =>
    rw [sumI_cons, ih fun y hy => h y (List.mem_cons_of_mem _ hy)]
    unfold balG
    rw [h x List.mem_cons_self]; rfl
theorem cost_zero {L : List FA} (h : ∀ x ∈ L, x.u = false) : costF L = 0 := by
  unfold costF
  induction L with
  | nil => rfl
  | cons x L ih =>
    rw [sumI_cons, ih fun y hy => h y (List.mem_cons_of_mem _ hy)]
    unfold costG
    rw [h x List.mem_cons_self]; rfl
structure BothYes (nodes : Nat) (l : List Lk) (a b to x : Int) (sh : Int → Bool) (es : List Ed) (L : List FA) (π : Int → Int) : Prop where
  es : es = flat2 L
  ends : endsF L = endsF (splitFA nodes l sh)
  bal_ : ∀ p, bal L p = want a b to p
  cost : costF L = x
  pot : PotE (flat2 L) π
  bd : ∀ v : Int, 0 ≤ v → v < (2 * nodes : Nat) → -(16 * (nodes : Int)) ≤ π v ∧ π v ≤ 64 * (nodes : Int)
def BothNo (nodes : Nat) (l : List Lk) (a b to : Int) (sh : Int → Bool) : Prop := ∀ E R : List E3, (endsF (splitFA nodes l sh)).Perm (E ++ R) → (∀ p, balE E p = want a b to p) → False

theorem both_ok {fuel nodes : Nat} {l : List Lk} {a b to : Int} {closed : Int → Bool} (hn : 1 ≤ nodes ∧ nodes ≤ 50) (hl : Arcs8 nodes l) (ha : 0 ≤ a ∧ a < nodes) (hb : 0 ≤ b ∧ b < nodes) (ht : 0 ≤ to ∧ to < nodes) (hf : 2 * nodes * (48 * nodes + 1) < fuel) :
    ∃ r, bothF fuel nodes l a b to closed = some r ∧ ((r.2.1 = true ∧ ∃ L π, BothYes nodes l a b to r.1 (shutB a b to closed) r.2.2 L π) ∨ (r.2.1 = false ∧ BothNo nodes l a b to (shutB a b to closed))) := by
  have hs : 2 * nodes ≤ 100 := by omega
  have hen := split_ends8 (closed := shutB a b to closed) hl
  have hun := split_unused (nodes := nodes) (l := l) (closed := shutB a b to closed)
  have h8 : ∀ {L : List FA}, endsF L = endsF (splitFA nodes l (shutB a b to closed)) → Ed8 (2 * nodes) (flat2 L) := fun {L} he => ed8_of fun e h => by
    have := hen e (by rw [← he]; exact h)
    omega
  have hp0 : PotE (flat2 (splitFA nodes l (shutB a b to closed))) (fun _ => 0) := by
    intro e he hr
    obtain ⟨x, hx, h⟩ := mem_flat2 he
    have hu := hun x hx
    have hc := hen (x.f, x.t, x.c) (List.mem_map.2 ⟨x, hx, rfl⟩)
    rcases h with rfl | rfl
    · simp only [fwd] at hc ⊢; omega
    · simp [rev, hu] at hr
  have m1 : (2 * nodes) * (8 * (2 * nodes) + 1 + (2 * (0 : Int)).natAbs) ≤ 2 * nodes * (48 * nodes + 1) := Nat.mul_le_mul_left _ (by omega)
  have m2 : 2 * nodes ≤ 2 * nodes * (48 * nodes + 1) := Nat.le_mul_of_pos_right _ (by omega)
  have m3 : (2 * nodes) * (8 * (2 * nodes) + 1 + (2 * (16 * (nodes : Int))).natAbs) ≤ 2 * nodes * (48 * nodes + 1) := Nat.mul_le_mul_left _ (by omega)
  unfold bothF
  rw [splitE_eq]
  obtain ⟨⟨x, ok, es⟩, h1, h2⟩ := push_ok (fuel := fuel) (s := 2 * a + 1) (t := 2 * to) (W := 0) hs (h8 rfl) hp0 (by omega) (fun v _ _ => by omega) (by omega) (by omega) (by omega) (by omega)
  rw [h1]
  simp only at h2 ⊢
  rcases h2 with ⟨rfl, R, hR⟩ | ⟨rfl, L1, π1, hY⟩
  · obtain ⟨⟨y, is, es2⟩, h3, _⟩ := push_ok (fuel := fuel) (s := 2 * b + 1) (t := 2 * to) (W := 0) hs (h8 rfl) hp0 (by omega) (fun v _ _ => by omega) (by omega) (by omega) (by omega) (by omega)
    rw [hR.es, h3]
    refine ⟨_, rfl, .inr ⟨rfl, fun E R' hE hb2 => ?_⟩⟩
    have h4 := cut hR hE
    rw [hb2, bal_zero hun] at h4
    unfold want at h4
    dsimp only at h4
    rw [hR.rs, hR.rt, if_pos rfl, if_neg (by decide)] at h4
    split at h4 <;> omega
  · obtain ⟨⟨y, is, es2⟩, h3, h4⟩ := push_ok (fuel := fuel) (s := 2 * b + 1) (t := 2 * to) (W := 16 * nodes) hs (h8 hY.ends) hY.pot (by omega) (fun v h0 h1 => by have := hY.bd v h0 h1; omega) (by omega) (by omega) (by omega) (by omega)
    rw [hY.es, h3]
    simp only at h4 ⊢
    rcases h4 with ⟨rfl, R, hR⟩ | ⟨rfl, L2, π2, hZ⟩
    · refine ⟨_, rfl, .inr ⟨rfl, fun E R' hE hb2 => ?_⟩⟩
      have h4 := cut hR (by rw [hY.ends]; exact hE)
      rw [hb2, hY.bal_, bal_zero hun] at h4
      unfold want at h4
      dsimp only at h4
      rw [hR.rs, hR.rt, if_pos rfl, if_neg (by decide)] at h4
      split at h4 <;> omega
    · refine ⟨_, rfl, .inl ⟨rfl, L2, π2, hZ.es, hZ.ends.trans hY.ends, fun p => ?_, ?_, hZ.pot, fun v h0 h1 => ?_⟩⟩
      · rw [hZ.bal_, hY.bal_, bal_zero hun]
        unfold want
        omega
      · rw [hZ.cost, hY.cost, cost_zero hun]
        simp only
        omega
      · have := hZ.bd v h0 h1
        omega
end Go.Rt

/- Routes, plain: a flow of two units is two ways, and two ways are one. -/
namespace Go.Rt
open Go.Nw

theorem balE_cons (e : E3) (E : List E3) (p : Int → Int) : balE (e :: E) p = (p e.2.1 - p e.1) + balE E p := sumI_cons _ _ _
theorem balE_append (E F : List E3) (p : Int → Int) : balE (E ++ F) p = balE E p + balE F p := sumI_append _ _ _
theorem balE_perm {E F : List E3} (h : E.Perm F) (p : Int → Int) : balE E p = balE F p := sumI_perm _ h
def usedL (L : List FA) : List E3 := (L.filter fun x => x.u).map fun x => (x.f, x.t, x.c)
def idleL (L : List FA) : List E3 := (L.filter fun x => !x.u).map fun x => (x.f, x.t, x.c)
theorem used_perm (L : List FA) : (endsF L).Perm (usedL L ++ idleL L) := by
  unfold endsF usedL idleL
  rw [← List.map_append]
  exact List.Perm.map _ (List.filter_append_perm _ L).symm
theorem used_bal (L : List FA) (p : Int → Int) : balE (usedL L) p = bal L p := by
  unfold usedL bal
  induction L with
  | nil => rfl
  | cons x L ih =>
    rw [sumI_cons, ← ih, List.filter_cons]
    unfold balG
    cases hu : x.u with
    | true => simp [balE_cons]
    | false => simp
theorem used_cost (L : List FA) : costE3 (usedL L) = costF L := by
  unfold usedL costF
  induction L with
  | nil => rfl
  | cons x L ih =>
    rw [sumI_cons, ← ih, List.filter_cons]
    unfold costG costE3
    cases hu : x.u with
    | true => simp [sumI_cons]
    | false => simp

inductive IsWalk : Int → Int → List E3 → Prop
  | nil {t : Int} : IsWalk t t []
  | cons {e : E3} {t : Int} {E : List E3} (h : IsWalk e.2.1 t E) : IsWalk e.1 t (e :: E)
def ind (v w : Int) : Int := if w = v then 1 else 0
/-- From a flow one way is taken out. -/
theorem take_walk {T : Int} {X : (Int → Int) → Int} (hX : ∀ v, v ≠ T → X (ind v) ≤ 0) : ∀ (n : Nat) (U : List E3) (A : Int), U.length ≤ n → (∀ p, balE U p = (p T - p A) + X p) → ∃ P U', U.Perm (P ++ U') ∧ IsWalk A T P ∧ ∀ p, balE U' p = X p
  | n, U, A, hn, hb => by
    by_cases hAT : A = T
    · subst hAT
      exact ⟨[], U, .refl _, .nil, fun p => by rw [hb p]; omega⟩
    · have h1 := hb (ind A)
      have h2 := hX A hAT
      have h3 : ind A A = 1 := if_pos rfl
      have h4 : ind A T = 0 := if_neg (Ne.symm hAT)
      have hex : ∃ e ∈ U, e.1 = A := by
        by_cases hex : ∃ e ∈ U, e.1 = A
        · exact hex
        · exfalso
          have : 0 ≤ balE U (ind A) := sumI_nonneg fun e he => by
            have : ind A e.1 = 0 := if_neg fun h => hex ⟨e, he, h⟩
            rw [this]
            unfold ind
            split <;> decide
          omega
      obtain ⟨e, he, rfl⟩ := hex
      have hp := List.perm_cons_erase he
      have hl := hp.length_eq
      rw [List.length_cons] at hl
      cases n with
      | zero => omega
      | succ n =>
        obtain ⟨P, U', g1, g2, g3⟩ := take_walk hX n (U.erase e) e.2.1 (by omega) fun p => by
          have := hb p
          rw [balE_perm hp, balE_cons] at this
          omega
        exact ⟨e :: P, U', hp.trans (.cons _ g1), .cons g2, g3⟩

/-! ### Ways of links -/
inductive Way (l : List Lk) (sh : Int → Bool) (to : Int) : Int → List Lk → Prop
  | last {a : Lk} (ha : a ∈ l) (ht : a.2.1 = to) : Way l sh to a.1 [a]
  | step {a : Lk} {az : List Lk} (ha : a ∈ l) (hs : sh a.2.1 = false) (h : Way l sh to a.2.1 az) : Way l sh to a.1 (a :: az)
def inner : List Lk → List Int
  | [] => []
  | _ :: az => az.map fun a => a.1
def eOf (az : List Lk) : List E3 := az.map arc3 ++ (inner az).map node3
def wcost (az : List Lk) : Int := sumI (fun a : Lk => a.2.2) az
theorem Way.cons_ {l : List Lk} {sh : Int → Bool} {to u : Int} {az : List Lk} (h : Way l sh to u az) : ∃ a az', az = a :: az' ∧ a.1 = u := by
  cases h with
  | last ha ht => exact ⟨_, _, rfl, rfl⟩
  | step ha hs h => exact ⟨_, _, rfl, rfl⟩
theorem Way.inner_cons {l : List Lk} {sh : Int → Bool} {to u : Int} {a : Lk} {az : List Lk} (h : Way l sh to u az) : inner (a :: az) = u :: inner az := by
  obtain ⟨b, bs, rfl, rfl⟩ := h.cons_
  rfl
theorem Way.mem {l : List Lk} {sh : Int → Bool} {to u : Int} {az : List Lk} (h : Way l sh to u az) : ∀ a ∈ az, a ∈ l := by
  induction h with
  | last ha ht => intro b hb; obtain rfl := List.mem_singleton.1 hb; exact ha
  | step ha hs h ih =>
    intro b hb
    rcases List.mem_cons.1 hb with rfl | hb
    · exact ha
    · exact ih b hb
theorem Way.open_ {l : List Lk} {sh : Int → Bool} {to u : Int} {az : List Lk} (h : Way l sh to u az) : ∀ v ∈ inner az, sh v = false := by
  induction h with
  | last ha ht => intro v hv; cases hv
  | step ha hs h ih =>
    intro v hv
    rw [h.inner_cons] at hv
    rcases List.mem_cons.1 hv with rfl | hv
    · exact hs
    · exact ih v hv
theorem Way.perm_e {l : List Lk} {sh : Int → Bool} {to u : Int} {a : Lk} {az : List Lk} (h : Way l sh to u az) : (eOf (a :: az)).Perm (arc3 a :: node3 u :: eOf az) := by
  unfold eOf
  rw [h.inner_cons, List.map_cons, List.map_cons, List.cons_append]
  exact .cons _ List.perm_middle
theorem Way.bal_ {l : List Lk} {sh : Int → Bool} {to u : Int} {az : List Lk} (h : Way l sh to u az) (p : Int → Int) : balE (eOf az) p = p (2 * to) - p (2 * u + 1) := by
  induction h with
  | @last a ha ht =>
    have : eOf [a] = [arc3 a] := rfl
    rw [this, balE_cons, ← ht]
    simp [arc3, balE, sumI_nil]
  | step ha hs h ih =>
    rw [balE_perm h.perm_e, balE_cons, balE_cons, ih]
    simp only [arc3, node3]
    omega
theorem eOf_cost (az : List Lk) : costE3 (eOf az) = wcost az := by
  unfold costE3 eOf wcost
  rw [sumI_append, sumI_map, sumI_map]
  have : sumI (fun x => (node3 x).2.2) (inner az) = 0 := by
    generalize inner az = I
    induction I with
    | nil => rfl
    | cons v I ih => rw [sumI_cons, ih]; rfl
  rw [this, Int.add_zero]
  rfl
theorem walk_way {l : List Lk} {sh : Int → Bool} {to : Int} (hto : sh to = true) : ∀ (n : Nat) (P : List E3) (u : Int), P.length ≤ n → (∀ e ∈ P, (∃ v, sh v = false ∧ e = node3 v) ∨ ∃ a ∈ l, e = arc3 a) → IsWalk (2 * u + 1) (2 * to) P → ∃ az, Way l sh to u az ∧ P.Perm (eOf az)
  | n, P, u, hn, hm, hw => by
    obtain ⟨s, hs⟩ : ∃ s, 2 * u + 1 = s := ⟨_, rfl⟩
    obtain ⟨t, ht⟩ : ∃ t, 2 * to = t := ⟨_, rfl⟩
    rw [hs, ht] at hw
    cases hw with
    | nil => omega
    | @cons e _ E hw =>
      rcases hm e List.mem_cons_self with ⟨v, _, rfl⟩ | ⟨a, ha, rfl⟩
      · simp only [node3] at hs; omega
      · have hu : a.1 = u := by simp only [arc3] at hs; omega
        subst hu
        obtain ⟨s2, hs2⟩ : ∃ s, (arc3 a).2.1 = s := ⟨_, rfl⟩
        rw [hs2] at hw
        cases hw with
        | nil =>
          refine ⟨[a], .last ha (by simp only [arc3] at hs2; omega), .refl _⟩
        | @cons e' _ E' hw =>
          rcases hm e' (List.mem_cons_of_mem _ List.mem_cons_self) with ⟨v, hv, rfl⟩ | ⟨a', _, rfl⟩
          · have hva : a.2.1 = v := by simp only [arc3, node3] at hs2; omega
            subst hva
            cases n with
            | zero => simp at hn
            | succ n =>
              obtain ⟨az, h1, h2⟩ := walk_way hto n E' a.2.1 (by simp only [List.length_cons] at hn; omega) (fun e he => hm e (List.mem_cons_of_mem _ (List.mem_cons_of_mem _ he))) (by rw [ht]; exact hw)
              exact ⟨a :: az, .step ha hv h1, (List.Perm.cons _ (.cons _ h2)).trans h1.perm_e.symm⟩
          · simp only [arc3] at hs2; omega

/-- Two ways that have nothing in common. -/
structure Cand (l : List Lk) (sh : Int → Bool) (a b to : Int) (az bs : List Lk) : Prop where
  p : Way l sh to a az
  q : Way l sh to b bs
  arcs : (az ++ bs).Nodup
  nodes : (inner az ++ inner bs).Nodup
theorem sub_perm : ∀ {E M : List E3}, E.Nodup → (∀ e ∈ E, e ∈ M) → ∃ R, M.Perm (E ++ R)
  | [], M, _, _ => ⟨M, .refl _⟩
  | e :: E, M, hn, hm => by
    obtain ⟨h1, h2⟩ := List.nodup_cons.1 hn
    have hp := List.perm_cons_erase (hm e List.mem_cons_self)
    obtain ⟨R, hR⟩ := sub_perm (M := M.erase e) h2 fun x hx => by
      have hne : x ≠ e := fun h => h1 (h ▸ hx)
      exact (List.mem_erase_of_ne hne).2 (hm x (List.mem_cons_of_mem _ hx))
    exact ⟨R, hp.trans (.cons _ hR)⟩
theorem e_perm (az bs : List Lk) : (eOf az ++ eOf bs).Perm ((az ++ bs).map arc3 ++ (inner az ++ inner bs).map node3) := by
  unfold eOf
  rw [List.map_append, List.map_append]
  rw [List.append_assoc, List.append_assoc]
  refine .append_left _ ?_
  rw [← List.append_assoc, ← List.append_assoc]
  exact .append_right _ List.perm_append_comm
theorem Cand.sub {nodes : Nat} {l : List Lk} {sh : Int → Bool} {a b to : Int} {az bs : List Lk} (hl : Arcs8 nodes l) (h : Cand l sh a b to az bs) : ∃ R, (endsF (splitFA nodes l sh)).Perm ((eOf az ++ eOf bs) ++ R) := by
  have hn : (eOf az ++ eOf bs).Nodup := by
    rw [(e_perm az bs).nodup_iff]
    refine List.nodup_append.2 ⟨nodup_map_inj arc3_inj h.arcs, nodup_map_inj node3_inj h.nodes, fun x hx y hy => ?_⟩
    obtain ⟨c, _, rfl⟩ := List.mem_map.1 hx
    obtain ⟨v, _, rfl⟩ := List.mem_map.1 hy
    exact arc_node c v
  refine sub_perm hn fun e he => ?_
  have he := (e_perm az bs).mem_iff.1 he
  rcases List.mem_append.1 he with he | he
  · obtain ⟨c, hc, rfl⟩ := List.mem_map.1 he
    refine mem_ends.2 (.inr ⟨c, ?_, rfl⟩)
    rcases List.mem_append.1 hc with hc | hc
    · exact h.p.mem c hc
    · exact h.q.mem c hc
  · obtain ⟨v, hv, rfl⟩ := List.mem_map.1 he
    have hr : ∀ {u : Int} {cs : List Lk}, Way l sh to u cs → v ∈ inner cs → 0 ≤ v ∧ v < nodes := fun hw hv => by
      have : ∃ c ∈ l, c.1 = v := by
        obtain ⟨c, cs', rfl, _⟩ := hw.cons_
        obtain ⟨d, hd, rfl⟩ := List.mem_map.1 hv
        exact ⟨d, hw.mem d (List.mem_cons_of_mem _ hd), rfl⟩
      obtain ⟨c, hc, rfl⟩ := this
      exact (hl c hc).1
    rcases List.mem_append.1 hv with hv | hv
    · exact mem_ends.2 (.inl ⟨v, hr h.p hv, h.p.open_ v hv, rfl⟩)
    · exact mem_ends.2 (.inl ⟨v, hr h.q hv, h.q.open_ v hv, rfl⟩)
theorem both_sem {fuel nodes : Nat} {l : List Lk} {a b to : Int} {closed : Int → Bool} (hn : 1 ≤ nodes ∧ nodes ≤ 50) (hl : Arcs8 nodes l) (hnd : l.Nodup) (ha : 0 ≤ a ∧ a < nodes) (hb : 0 ≤ b ∧ b < nodes) (ht : 0 ≤ to ∧ to < nodes) (hf : 2 * nodes * (48 * nodes + 1) < fuel) :
    ∃ r, bothF fuel nodes l a b to closed = some r ∧ ((r.2.1 = true ∧ (∃ L π, BothYes nodes l a b to r.1 (shutB a b to closed) r.2.2 L π) ∧ (∃ az bs, Cand l (shutB a b to closed) a b to az bs ∧ wcost az + wcost bs = r.1) ∧ ∀ az bs, Cand l (shutB a b to closed) a b to az bs → r.1 ≤ wcost az + wcost bs) ∨ (r.2.1 = false ∧ ∀ az bs, ¬ Cand l (shutB a b to closed) a b to az bs)) := by
  obtain ⟨r, hr, h⟩ := both_ok (closed := closed) hn hl ha hb ht hf
  refine ⟨r, hr, ?_⟩
  have hsto : shutB a b to closed to = true := by unfold shutB; simp
  have hcb : ∀ {az bs : List Lk}, Cand l (shutB a b to closed) a b to az bs → ∀ p, balE (eOf az ++ eOf bs) p = want a b to p := fun hc p => by
    rw [balE_append, hc.p.bal_, hc.q.bal_]; rfl
  rcases h with ⟨h1, L, π, hY⟩ | ⟨h1, hN⟩
  · have hmin : ∀ az bs, Cand l (shutB a b to closed) a b to az bs → r.1 ≤ wcost az + wcost bs := fun az bs hc => by
      obtain ⟨R, hR⟩ := hc.sub hl
      have := dual_cost hY.pot (by rw [hY.ends]; exact hR) (by rw [hcb hc, hY.bal_])
      rw [hY.cost] at this
      unfold costE3 at this
      rw [sumI_append] at this
      have e1 := eOf_cost az
      have e2 := eOf_cost bs
      unfold costE3 at e1 e2
      omega
    refine .inl ⟨h1, ⟨L, π, hY⟩, ?_, hmin⟩
    have hub := fun p => (used_bal L p).trans (hY.bal_ p)
    obtain ⟨P, U1, g1, g2, g3⟩ := take_walk (T := 2 * to) (X := fun p => p (2 * to) - p (2 * b + 1)) (fun v hv => by
      rw [show ind v (2 * to) = 0 from if_neg (Ne.symm hv)]
      unfold ind; split <;> decide) _ (usedL L) (2 * a + 1) (Nat.le_refl _) hub
    obtain ⟨Q, U2, g4, g5, g6⟩ := take_walk (T := 2 * to) (X := fun _ => 0) (fun v hv => Int.le_refl _) _ U1 (2 * b + 1) (Nat.le_refl _) (fun p => by rw [g3 p]; omega)
    have hall : (endsF L).Perm ((P ++ Q) ++ (U2 ++ idleL L)) := by
      refine (used_perm L).trans ?_
      rw [List.append_assoc, ← List.append_assoc Q, ← List.append_assoc P]
      exact .append_right _ (g1.trans (.append_left _ g4))
    rw [hY.ends] at hall
    have hmem : ∀ e ∈ P ++ Q, (∃ v, shutB a b to closed v = false ∧ e = node3 v) ∨ ∃ a ∈ l, e = arc3 a := fun e he => by
      rcases mem_ends.1 (hall.mem_iff.2 (List.mem_append_left _ he)) with ⟨v, _, hv, h⟩ | h
      · exact .inl ⟨v, hv, h⟩
      · exact .inr h
    obtain ⟨az, w1, p1⟩ := walk_way hsto _ P a (Nat.le_refl _) (fun e he => hmem e (List.mem_append_left _ he)) g2
    obtain ⟨bs, w2, p2⟩ := walk_way hsto _ Q b (Nat.le_refl _) (fun e he => hmem e (List.mem_append_right _ he)) g5
    have hnd2 := hall.nodup_iff.1 (ends_nodup hnd)
    have hnd3 := (List.nodup_append.1 hnd2).1
    rw [((p1.append p2).trans (e_perm az bs)).nodup_iff] at hnd3
    obtain ⟨n1, n2, _⟩ := List.nodup_append.1 hnd3
    have hc : Cand l (shutB a b to closed) a b to az bs := ⟨w1, w2, nodup_of_map n1, nodup_of_map n2⟩
    refine ⟨az, bs, hc, ?_⟩
    have hle : wcost az + wcost bs ≤ r.1 := by
      have e1 := eOf_cost az
      have e2 := eOf_cost bs
      have e3 : costE3 (usedL L) = costE3 P + (costE3 Q + costE3 U2) := by
        unfold costE3
        rw [sumI_perm _ g1, sumI_append, sumI_perm _ g4, sumI_append]
      have e4 : costE3 P = wcost az := by rw [← e1]; exact sumI_perm _ p1
      have e5 : costE3 Q = wcost bs := by rw [← e2]; exact sumI_perm _ p2
      have e6 : 0 ≤ costE3 U2 := sumI_nonneg fun e he => (split_ends8 hl e (hall.mem_iff.2 (List.mem_append_right _ (List.mem_append_left _ he)))).2.2.1
      rw [used_cost, hY.cost] at e3
      omega
    have := hmin az bs hc
    omega
  · exact .inr ⟨h1, fun az bs hc => by
      obtain ⟨R, hR⟩ := hc.sub hl
      exact hN _ _ hR (hcb hc)⟩
end Go.Rt

/- Routes, plain: there are least costs; ways of arcs are ways of nodes. -/
namespace Go.Rt
open Go.Nw

/-! ### There are least costs -/
def backE (l : List Lk) : List Ed := l.map fun a => ⟨a.2.1, a.1, a.2.2, 1⟩
theorem dist_exists {nodes : Nat} {l : List Lk} {to : Int} (hn : nodes ≤ 500) (hl : Arcs8 nodes l) (ht : 0 ≤ to ∧ to < nodes) : ∃ far, Dist nodes l to far := by
  have hnc := noneC_eq
  have hes : Ed8 nodes (backE l) := by
    intro e he
    obtain ⟨a, ha, rfl⟩ := List.mem_map.1 he
    obtain ⟨h1, h2, h3⟩ := hl a ha
    simp only; omega
  have hp : PotE (backE l) (fun _ => 0) := by
    intro e he _
    obtain ⟨a, ha, rfl⟩ := List.mem_map.1 he
    obtain ⟨h1, h2, h3⟩ := hl a ha
    simp only; omega
  have hG : RelG nodes (fun _ => 0) (startF nodes to, List.replicate nodes (-1), false) := by
    refine ⟨startF_len, List.length_replicate, fun v h0 h1 => ?_, fun v h0 h1 => ?_, fun v h0 h1 => ?_⟩
    · simp only; rw [startF_at ht ⟨h0, h1⟩]; split <;> omega
    · simp only; rw [startF_at ht ⟨h0, h1⟩]
      split
      · intro _; omega
      · intro h; exact absurd h (Int.lt_irrefl _)
    · simp only; rw [startF_at ht ⟨h0, h1⟩]; split <;> omega
  have hC : RelC nodes (backE l) to (startF nodes to) (List.replicate nodes (-1)) := by
    refine ⟨by rw [startF_at ht ht, if_pos rfl], fun v h0 h1 h2 => ?_⟩
    rw [startF_at ht ⟨h0, h1⟩] at h2
    by_cases h : v = to
    · rw [h]; exact ⟨0, .here⟩
    · rw [if_neg h] at h2; exact absurd h2 (Int.lt_irrefl _)
  obtain ⟨⟨far, by_⟩, _, hG2, hC2, hcl⟩ := relax_end (L := 0) (by omega) hes hp (fun _ _ _ => Int.le_refl _) (RelC nodes (backE l) to) (fun i e st hi hG h => relC_step hes hp ht rfl i e st hi hG h) (mes nodes 0 (startF nodes to) + 1) _ _ hG hC (Nat.lt_succ_self _)
  simp only at hG2 hC2 hcl
  obtain ⟨l1, l2, hlo, hhi, htop⟩ := hG2
  simp only at l1 l2 hlo hhi htop
  refine ⟨far, l1, hC2.s0, fun v h0 h1 => ⟨hlo v h0 h1, htop v h0 h1⟩, fun v h0 h1 hne hlt => ?_, fun a ha hlt => ?_⟩
  · obtain ⟨n, hn2⟩ := hC2.ch v h0 h1 hlt
    cases hn2 with
    | here => exact absurd rfl hne
    | step _ _ hi htt _ hT _ =>
      obtain ⟨a, ha, rfl⟩ := List.mem_map.1 (List.mem_of_getElem? hi)
      obtain ⟨t1, t2⟩ := hT
      exact ⟨a, ha, htt, by rw [← htt]; exact t2⟩
  · rcases Int.lt_or_le (farAt far a.2.1 + a.2.2) (farAt far a.1) with h | h
    · exact absurd ⟨show (0 : Int) < 1 by decide, hlt, h⟩ (hcl ⟨a.2.1, a.1, a.2.2, 1⟩ (List.mem_map.2 ⟨a, ha, rfl⟩))
    · exact h
theorem Arcs8.ok {nodes : Nat} {l : List Lk} (h : Arcs8 nodes l) : ArcsOk nodes l := fun a ha => by
  obtain ⟨h1, h2, h3⟩ := h a ha
  exact ⟨h1, h2, by omega⟩
theorem Arcs8.sub {nodes : Nat} {l m : List Lk} (h : Arcs8 nodes l) (hm : ∀ a ∈ m, a ∈ l) : Arcs8 nodes m := fun a ha => h a (hm a ha)
theorem distC_dist {nodes : Nat} {l : List Lk} {to : Int} (hn : nodes ≤ 500) (hl : Arcs8 nodes l) (ht : 0 ≤ to ∧ to < nodes) : Dist nodes l to (distC nodes l to) := by
  obtain ⟨far, h⟩ := dist_exists hn hl ht
  rw [distC_eq hl.ok h]; exact h

/-! ### Ways of nodes and ways of arcs -/
section
variable {st : Int → Int → Bool} {w : Int → Int → Int} {l : List Lk} {nodes : Nat} {t : Int}
/-- A way from u over ms to t. -/
abbrev PathM (st : Int → Int → Bool) (nodes : Nat) (t u : Int) (ms : List Int) : Prop := PathG st nodes t u (ms ++ [t])
theorem path_mids {u : Int} {p : List Int} (h : PathG st nodes t u p) (hu : u ≠ t) : ∃ ms, p = ms ++ [t] := by
  induction h with
  | done => exact absurd rfl hu
  | @step u v r hu hs hv h ih =>
    by_cases hvt : v = t
    · cases h with
      | done => exact ⟨[], by rw [hvt]; rfl⟩
      | step hne => exact absurd hvt hne
    · obtain ⟨ms, rfl⟩ := ih hvt
      exact ⟨v :: ms, rfl⟩
theorem way_of_path {sh : Int → Bool} (hnet : Net3 st w l) : ∀ (ms : List Int) (u : Int), PathM st nodes t u ms → (∀ x ∈ ms, sh x = false) → ∃ az, Way l sh t u az ∧ inner az = ms ∧ wcost az = keyG w (u :: (ms ++ [t]))
  | [], u, h, _ => by
    cases h with
    | step hu hs hv h =>
      have ha : (u, t, w u t) ∈ l := (hnet.iff _ _ _).2 ⟨hs, rfl⟩
      exact ⟨[(u, t, w u t)], Way.last (a := (u, t, w u t)) ha rfl, rfl, by simp [wcost, sumI, keyG]⟩
  | m :: ms, u, h, hsh => by
    cases h with
    | step hu hs hv h =>
      obtain ⟨az, h1, h2, h3⟩ := way_of_path hnet ms m h fun x hx => hsh x (List.mem_cons_of_mem _ hx)
      have ha : (u, m, w u m) ∈ l := (hnet.iff _ _ _).2 ⟨hs, rfl⟩
      refine ⟨(u, m, w u m) :: az, Way.step (a := (u, m, w u m)) ha (hsh m List.mem_cons_self) h1, by rw [h1.inner_cons, h2], ?_⟩
      unfold wcost at h3 ⊢
      rw [sumI_cons, h3]
      simp [keyG]
theorem path_of_way {sh : Int → Bool} (hnet : Net3 st w l) (hl : Arcs8 nodes l) (hto : sh t = true) {u : Int} {az : List Lk} (h : Way l sh t u az) (hu : u ≠ t) : PathM st nodes t u (inner az) ∧ wcost az = keyG w (u :: (inner az ++ [t])) := by
  induction h with
  | @last a ha ht =>
    obtain ⟨a1, a2, a3⟩ := a
    simp only at ht hu ⊢
    subst ht
    obtain ⟨hs, hc⟩ := (hnet.iff _ _ _).1 ha
    refine ⟨.step hu hs (hl _ ha).2.1 .done, ?_⟩
    show wcost [(a1, a2, a3)] = keyG w [a1, a2]
    simp [wcost, sumI, keyG, hc]
  | @step a az ha hs h ih =>
    obtain ⟨a1, a2, a3⟩ := a
    simp only at hs hu h ih ⊢
    have hne : a2 ≠ t := fun e => by rw [e, hto] at hs; cases hs
    obtain ⟨i1, i2⟩ := ih hne
    obtain ⟨hg, hc⟩ := (hnet.iff _ _ _).1 ha
    rw [h.inner_cons]
    refine ⟨.step hu hg (hl _ ha).2.1 i1, ?_⟩
    unfold wcost at i2 ⊢
    rw [sumI_cons, i2]
    simp [keyG, hc]
theorem way_heads {sh : Int → Bool} {u : Int} {az : List Lk} (h : Way l sh t u az) : ∀ a ∈ az, a.2.1 = t ∨ a.2.1 ∈ inner az := by
  induction h with
  | last ha ht => intro a ha2; obtain rfl := List.mem_singleton.1 ha2; exact .inl ht
  | @step a az ha hs h ih =>
    intro b hb
    rw [h.inner_cons]
    rcases List.mem_cons.1 hb with rfl | hb
    · exact .inr List.mem_cons_self
    · rcases ih b hb with h1 | h1
      · exact .inl h1
      · exact .inr (List.mem_cons_of_mem _ h1)
theorem way_tails {sh : Int → Bool} {u : Int} {az : List Lk} (h : Way l sh t u az) : az.map (fun a => a.1) = u :: inner az := by
  obtain ⟨a, az', rfl, rfl⟩ := h.cons_
  rfl
theorem PathG.mono {st2 : Int → Int → Bool} {u : Int} {p : List Int} (h : PathG st nodes t u p) (hs : ∀ x y, x = u ∨ x ∈ p → y ∈ p → st x y = true → st2 x y = true) : PathG st2 nodes t u p := by
  induction h with
  | done => exact .done
  | @step u v r hu hst hv h ih =>
    refine .step hu (hs u v (.inl rfl) List.mem_cons_self hst) hv (ih fun x y hx hy hxy => hs x y ?_ (List.mem_cons_of_mem _ hy) hxy)
    rcases hx with rfl | hx
    · exact .inr List.mem_cons_self
    · exact .inr (List.mem_cons_of_mem _ hx)
theorem PathG.append {u v : Int} {p q : List Int} (h : PathG st nodes t u (p ++ v :: q)) : PathG st nodes t v q := by
  induction p generalizing u with
  | nil => cases h with | step _ _ _ h => exact h
  | cons x p ih => cases h with | step _ _ _ h => exact ih h
end
end Go.Rt

/- Routes, plain: disjoint routes, and the least cost of a pair. -/
namespace Go.Proofs.Ytleldppdflgmgaa
open Go.RowKit Go.Eng Go.Nw Go.Rt

def costW (n : Net) (u v : Int) : Int := lossE n u v + 1
theorem mem_arcs3 {n : Net} (h : Ok n) {u v c : Int} : (u, v, c) ∈ arcsE n ↔ goodE n u v = true ∧ c = lossE n u v + 1 := by
  unfold arcsE
  rw [mem_arcs]
  constructor
  · rintro ⟨i, hi, hu, he⟩
    unfold arcAt at he
    simp only [Prod.mk.injEq] at he
    obtain ⟨rfl, rfl, rfl⟩ := he
    rw [usable_good h hi] at hu
    refine ⟨hu, ?_⟩
    unfold lossE
    rw [find_self h hi, Int.toNat_natCast]
  · rintro ⟨hg, rfl⟩
    have hf := good_find hg
    have hl := find_lt hf
    obtain ⟨e1, e2⟩ := find_key hf
    refine ⟨(findE n u v).toNat, hl, ?_, ?_⟩
    · rw [usable_good h hl, e1, e2]; exact hg
    · unfold arcAt lossE; rw [e1, e2]
theorem net0 {n : Net} (h : Ok n) : Net3 (goodE n) (costW n) (arcsE n) := ⟨fun u v c => mem_arcs3 h, fun u v _ => by have := loss_bd h u v; unfold costW; omega⟩
theorem arcs8 {n : Net} (h : Ok n) : Arcs8 n.nodes.toNat (arcsE n) := by
  intro a ha
  obtain ⟨i, hi, _, rfl⟩ := mem_arcs.1 ha
  have hl := h.lk i hi
  have h1 := hl.f0; have h2 := hl.f1; have h3 := hl.t0; have h4 := hl.t1; have h5 := hl.l0; have h6 := hl.l1
  unfold arcAt
  simp only
  omega
theorem arcs_nodup {n : Net} (h : Ok n) : ∀ k, k ≤ n.links.length → (arcsTo n k).Nodup
  | 0, _ => by simp [arcsTo]
  | k + 1, hk => by
    have ih := arcs_nodup h k (by omega)
    cases hu : usableE n k with
    | false => rw [arcsTo_no hu]; exact ih
    | true =>
      rw [arcsTo_yes hu]
      refine List.nodup_append.2 ⟨ih, by simp, fun a ha b hb => ?_⟩
      obtain rfl := List.mem_singleton.1 hb
      intro e
      obtain ⟨i, hi, _, he⟩ := mem_arcs.1 (e ▸ ha)
      unfold arcAt at he
      simp only [Prod.mk.injEq] at he
      have h1 := find_self h (i := i) (by omega)
      have h2 := find_self h (i := k) (by omega)
      rw [he.1, he.2.1, h2] at h1
      omega

/-- A route from s over ms to t. -/
def rt (s t : Int) (ms : List Int) : List Int := s :: (ms ++ [t])
structure IsRt (n : Net) (s t : Int) (ms : List Int) : Prop where
  path : PathM (goodE n) n.nodes.toNat t s ms
  nd : (rt s t ms).Nodup
theorem rt_nd {s t : Int} {ms : List Int} (h : (rt s t ms).Nodup) : s ≠ t ∧ s ∉ ms ∧ t ∉ ms ∧ ms.Nodup := by
  unfold rt at h
  obtain ⟨h1, h2⟩ := List.nodup_cons.1 h
  obtain ⟨h3, _, h4⟩ := List.nodup_append.1 h2
  refine ⟨fun e => h1 (by rw [e]; simp), fun e => h1 (List.mem_append_left _ e), fun e => h4 t e t (by simp) rfl, h3⟩
theorem nd_rt {s t : Int} {ms : List Int} (h1 : s ≠ t) (h2 : s ∉ ms) (h3 : t ∉ ms) (h4 : ms.Nodup) : (rt s t ms).Nodup := by
  unfold rt
  refine List.nodup_cons.2 ⟨fun h => ?_, List.nodup_append.2 ⟨h4, by simp, fun a ha b hb => ?_⟩⟩
  · rcases List.mem_append.1 h with h | h
    · exact h2 h
    · exact h1 (List.mem_singleton.1 h)
  · obtain rfl := List.mem_singleton.1 hb
    exact fun e => h3 (e ▸ ha)
theorem rt_len (s t : Int) (ms : List Int) : (rt s t ms).length = ms.length + 2 := by simp [rt]
theorem rt_get {s t : Int} {ms : List Int} {i : Nat} (h : i < (rt s t ms).length) : (i = 0 ∧ (rt s t ms).getD i 0 = s) ∨ (∃ j, i = j + 1 ∧ j < ms.length ∧ (rt s t ms).getD i 0 ∈ ms) ∨ (i = ms.length + 1 ∧ (rt s t ms).getD i 0 = t) := by
  rw [rt_len] at h
  unfold rt
  cases i with
  | zero => exact .inl ⟨rfl, rfl⟩
  | succ j =>
    rw [List.getD_cons_succ]
    by_cases hj : j < ms.length
    · refine .inr (.inl ⟨j, rfl, hj, ?_⟩)
      rw [List.getD_eq_getElem?_getD, List.getElem?_append_left hj, List.getElem?_eq_getElem hj]
      exact List.getElem_mem hj
    · obtain rfl : j = ms.length := by omega
      refine .inr (.inr ⟨rfl, ?_⟩)
      rw [List.getD_eq_getElem?_getD, List.getElem?_append_right (Nat.le_refl _), Nat.sub_self]; rfl
theorem rt_mem {s t : Int} {ms : List Int} {x : Int} (h : x ∈ ms) : ∃ j, j < ms.length ∧ (rt s t ms).getD (j + 1) 0 = x := by
  obtain ⟨j, hj, rfl⟩ := List.mem_iff_getElem.1 h
  refine ⟨j, hj, ?_⟩
  unfold rt
  rw [List.getD_cons_succ, List.getD_eq_getElem?_getD, List.getElem?_append_left hj, List.getElem?_eq_getElem hj]; rfl
theorem rt_inj {s t : Int} {p q : List Int} (h : rt s t p = rt s t q) : p = q := by
  unfold rt at h
  have := (List.cons.inj h).2
  exact List.append_cancel_right this
theorem disj_iff {s t : Int} {mp mq : List Int} (hp : (rt s t mp).Nodup) (hq : (rt s t mq).Nodup) : disjE (rt s t mp) (rt s t mq) = true ↔ mp ≠ mq ∧ ∀ x ∈ mp, x ∉ mq := by
  obtain ⟨hst, p1, p2, _⟩ := rt_nd hp
  obtain ⟨_, q1, q2, _⟩ := rt_nd hq
  have lp := rt_len s t mp
  have lq := rt_len s t mq
  have hlast : ∀ ms : List Int, (rt s t ms).getD ((rt s t ms).length - 1) 0 = t := fun ms => by
    rcases rt_get (s := s) (t := t) (ms := ms) (i := (rt s t ms).length - 1) (by rw [rt_len]; omega) with ⟨h, _⟩ | ⟨j, h, hj, _⟩ | ⟨_, h⟩
    · rw [rt_len] at h; omega
    · rw [rt_len] at h; omega
    · exact h
  unfold disjE
  rw [hlast mp, hlast mq]
  constructor
  · intro h
    rw [Bool.and_eq_true, decide_eq_true_eq] at h
    obtain ⟨⟨_, _, hne, _⟩, h⟩ := h
    refine ⟨fun e => hne (by rw [e]), fun x hx hy => ?_⟩
    obtain ⟨i, hi, ei⟩ := rt_mem (s := s) (t := t) hx
    obtain ⟨k, hk, ek⟩ := rt_mem (s := s) (t := t) hy
    have hm : meetAt (rt s t mp) (rt s t mq) (i + 1) (k + 1) = true := by
      unfold meetAt
      rw [decide_eq_true_eq, ei, ek]
      exact ⟨rfl, by omega⟩
    have : ((List.range (rt s t mp).length).any fun i => (List.range (rt s t mq).length).any fun k => meetAt (rt s t mp) (rt s t mq) i k) = true :=
      any_true (p := fun i => (List.range (rt s t mq).length).any fun k => meetAt (rt s t mp) (rt s t mq) i k) (k := i + 1) (by omega) (any_true (p := fun k => meetAt (rt s t mp) (rt s t mq) (i + 1) k) (k := k + 1) (by omega) hm)
    rw [this] at h
    cases h
  · rintro ⟨hne, hdis⟩
    rw [Bool.and_eq_true, decide_eq_true_eq]
    refine ⟨⟨by omega, by omega, fun e => hne (rt_inj e), rfl, rfl⟩, ?_⟩
    rw [Bool.not_eq_true', List.any_eq_false]
    intro i hi
    have hi := List.mem_range.1 hi
    rw [List.any_eq_true]
    rintro ⟨k, hk, hm⟩
    have hk := List.mem_range.1 hk
    unfold meetAt at hm
    rw [decide_eq_true_eq] at hm
    obtain ⟨he, hnb⟩ := hm
    rcases rt_get hi with ⟨i0, hi⟩ | ⟨j, hj, hjl, hi⟩ | ⟨i0, hi⟩ <;> rcases rt_get hk with ⟨k0, hk⟩ | ⟨j', hj', hjl', hk⟩ | ⟨k0, hk⟩
    · exact hnb (.inl ⟨i0, k0⟩)
    · rw [hi] at he; rw [← he] at hk; exact q1 hk
    · rw [hi, hk] at he; exact hst he
    · rw [hk] at he; rw [he] at hi; exact p1 hi
    · rw [he] at hi; exact hdis _ hi hk
    · rw [hk] at he; rw [he] at hi; exact p2 hi
    · rw [hi, hk] at he; exact hst he.symm
    · rw [hi] at he; rw [← he] at hk; exact q2 hk
    · exact hnb (.inr ⟨by omega, by omega⟩)

/-- Two disjoint routes. -/
structure Two (n : Net) (s t : Int) (mp mq : List Int) : Prop where
  p : IsRt n s t mp
  q : IsRt n s t mq
  ne : mp ≠ mq
  dis : ∀ x ∈ mp, x ∉ mq
theorem Two.symm {n : Net} {s t : Int} {mp mq : List Int} (h : Two n s t mp mq) : Two n s t mq mp := ⟨h.q, h.p, Ne.symm h.ne, fun x hx hy => h.dis x hy hx⟩
def key (n : Net) (s t : Int) (ms : List Int) : Int := keyG (costW n) (rt s t ms)
theorem shut_abt (a b to : Int) (closed : Int → Bool) (x : Int) : shutB a b to closed x = false ↔ (x ≠ a ∧ x ≠ b ∧ x ≠ to) ∧ closed x = false := by
  unfold shutB
  rw [Bool.or_eq_false_iff, decide_eq_false_iff_not]
  constructor
  · rintro ⟨h1, h2⟩; exact ⟨⟨fun h => h1 (.inl h), fun h => h1 (.inr (.inl h)), fun h => h1 (.inr (.inr h))⟩, h2⟩
  · rintro ⟨⟨h1, h2, h3⟩, h4⟩; exact ⟨by rintro (h | h | h); exact h1 h; exact h2 h; exact h3 h, h4⟩
/-- The least cost of a pair. -/
theorem total_sem {n : Net} (hok : Ok n) {s t : Int} (hs : 0 ≤ s ∧ s < n.nodes) (ht : 0 ≤ t ∧ t < n.nodes) (hst : s ≠ t) : ∃ r, bothF 100000 n.nodes.toNat (arcsE n) s s t (fun _ => false) = some r ∧ ((r.2.1 = true ∧ (∃ L π, BothYes n.nodes.toNat (arcsE n) s s t r.1 (shutB s s t (fun _ => false)) r.2.2 L π) ∧ (∃ mp mq, Two n s t mp mq ∧ key n s t mp + key n s t mq = r.1) ∧ ∀ mp mq, Two n s t mp mq → r.1 ≤ key n s t mp + key n s t mq) ∨ (r.2.1 = false ∧ ∀ mp mq, ¬ Two n s t mp mq)) := by
  have hn0 := hok.n0
  have hn1 := hok.n1
  have hnet := net0 hok
  have h8 := arcs8 hok
  have hsh : ∀ x, shutB s s t (fun _ => false) x = false ↔ x ≠ s ∧ x ≠ t := fun x => by rw [shut_abt]; simp
  have hto : shutB s s t (fun _ => false) t = true := by unfold shutB; simp
  have hm : 2 * n.nodes.toNat * (48 * n.nodes.toNat + 1) < 100000 := by
    have h1 : n.nodes.toNat ≤ 32 := by omega
    have h2 : 2 * n.nodes.toNat * (48 * n.nodes.toNat + 1) ≤ 64 * 1537 := Nat.mul_le_mul (by omega) (by omega)
    omega
  obtain ⟨r, hr, h⟩ := both_sem (closed := fun _ => false) (fuel := 100000) ⟨by omega, by omega⟩ h8 (arcs_nodup hok n.links.length (Nat.le_refl _)) ⟨hs.1, by omega⟩ ⟨hs.1, by omega⟩ ⟨ht.1, by omega⟩ hm
  refine ⟨r, hr, ?_⟩
  -- two routes are two ways
  have hto2 : ∀ mp mq, Two n s t mp mq → ∃ ps qs, Cand (arcsE n) (shutB s s t (fun _ => false)) s s t ps qs ∧ wcost ps + wcost qs = key n s t mp + key n s t mq := by
    intro mp mq h2
    obtain ⟨_, p1, p2, p3⟩ := rt_nd h2.p.nd
    obtain ⟨_, q1, q2, q3⟩ := rt_nd h2.q.nd
    obtain ⟨ps, a1, a2, a3⟩ := way_of_path (sh := shutB s s t (fun _ => false)) hnet mp s h2.p.path fun x hx => (hsh x).2 ⟨fun e => p1 (e ▸ hx), fun e => p2 (e ▸ hx)⟩
    obtain ⟨qs, b1, b2, b3⟩ := way_of_path (sh := shutB s s t (fun _ => false)) hnet mq s h2.q.path fun x hx => (hsh x).2 ⟨fun e => q1 (e ▸ hx), fun e => q2 (e ▸ hx)⟩
    have hnn : (inner ps ++ inner qs).Nodup := by
      rw [a2, b2]
      exact List.nodup_append.2 ⟨p3, q3, fun a ha b hb e => h2.dis a ha (e ▸ hb)⟩
    refine ⟨ps, qs, ⟨a1, b1, ?_, hnn⟩, by rw [a3, b3]; rfl⟩
    -- the arcs are not the same
    have hta := way_tails a1
    have htb := way_tails b1
    rw [a2] at hta
    rw [b2] at htb
    have n1 : ps.Nodup := nodup_of_map (f := fun a : Lk => a.1) (by rw [hta]; exact List.nodup_cons.2 ⟨p1, p3⟩)
    have n2 : qs.Nodup := nodup_of_map (f := fun a : Lk => a.1) (by rw [htb]; exact List.nodup_cons.2 ⟨q1, q3⟩)
    refine List.nodup_append.2 ⟨n1, n2, fun a ha b hb e => ?_⟩
    subst e
    have e1 : a.1 ∈ s :: mp := by rw [← hta]; exact List.mem_map.2 ⟨a, ha, rfl⟩
    have e2 : a.1 ∈ s :: mq := by rw [← htb]; exact List.mem_map.2 ⟨a, hb, rfl⟩
    have e3 := way_heads a1 a ha
    have e4 := way_heads b1 a hb
    rw [a2] at e3
    rw [b2] at e4
    have hhead : a.2.1 = t := by
      rcases e3 with h | h
      · exact h
      · rcases e4 with h' | h'
        · exact h'
        · exact absurd h' (h2.dis _ h)
    -- an arc to t is the last one of a way
    have hfirst : ∀ {u : Int} {cs : List Lk} {ms : List Int}, Rt.Way (arcsE n) (shutB s s t (fun _ => false)) t u cs → inner cs = ms → u ∉ ms → ms.Nodup → a ∈ cs → a.1 = u → a.2.1 = t → ms = [] := by
      intro u cs ms hw hi hu hnd hac hau hat
      cases hw with
      | last _ _ => rw [← hi]; rfl
      | @step c cs hc hs2 hw =>
        rcases List.mem_cons.1 hac with rfl | hac
        · rw [hat, hto] at hs2; cases hs2
        · exfalso
          apply hu
          rw [← hi]
          have : inner (c :: cs) = cs.map fun a => a.1 := rfl
          rw [this, ← hau]
          exact List.mem_map.2 ⟨a, hac, rfl⟩
    rcases List.mem_cons.1 e1 with h3 | h3
    · have m1 := hfirst a1 a2 p1 p3 ha h3 hhead
      have m2 := hfirst b1 b2 q1 q3 hb h3 hhead
      exact h2.ne (m1.trans m2.symm)
    · rcases List.mem_cons.1 e2 with h4 | h4
      · rw [h4] at h3; exact p1 h3
      · exact h2.dis _ h3 h4
  have hfrom : ∀ ps qs, Cand (arcsE n) (shutB s s t (fun _ => false)) s s t ps qs → Two n s t (inner ps) (inner qs) ∧ wcost ps + wcost qs = key n s t (inner ps) + key n s t (inner qs) := by
    intro ps qs hc
    obtain ⟨p1, p2⟩ := path_of_way hnet h8 hto hc.p hst
    obtain ⟨q1, q2⟩ := path_of_way hnet h8 hto hc.q hst
    obtain ⟨n1, n2, n3⟩ := List.nodup_append.1 hc.nodes
    have hps := hc.p.open_
    have hqs := hc.q.open_
    have hrp : (rt s t (inner ps)).Nodup := nd_rt hst (fun h => ((hsh s).1 (hps s h)).1 rfl) (fun h => ((hsh t).1 (hps t h)).2 rfl) n1
    have hrq : (rt s t (inner qs)).Nodup := nd_rt hst (fun h => ((hsh s).1 (hqs s h)).1 rfl) (fun h => ((hsh t).1 (hqs t h)).2 rfl) n2
    refine ⟨⟨⟨p1, hrp⟩, ⟨q1, hrq⟩, fun e => ?_, fun x hx hy => n3 x hx x hy rfl⟩, by rw [p2, q2]; rfl⟩
    cases hia : inner ps with
    | cons x xs =>
      rw [← e, hia] at n3
      exact n3 x List.mem_cons_self x List.mem_cons_self rfl
    | nil =>
      rw [hia] at e p1
      rw [← e] at q1
      have hone : ∀ {cs : List Lk}, Rt.Way (arcsE n) (shutB s s t (fun _ => false)) t s cs → inner cs = [] → cs = [(s, t, costW n s t)] := by
        intro cs hw hi
        generalize hu : s = u at hw
        cases hw with
        | @last a ha hat =>
          obtain ⟨a1, a2, a3⟩ := a
          simp only at hat hu
          subst hat hu
          rw [((hnet.iff _ _ _).1 ha).2]
        | step _ _ hw =>
          rw [hw.inner_cons] at hi
          cases hi
      have ha := hone hc.p hia
      have hb := hone hc.q e.symm
      have := (List.nodup_append.1 hc.arcs).2.2 (s, t, costW n s t) (by rw [ha]; simp) (s, t, costW n s t) (by rw [hb]; simp)
      exact this rfl
  rcases h with ⟨h1, h2, ⟨ps, qs, hc, he⟩, h4⟩ | ⟨h1, h2⟩
  · obtain ⟨k1, k2⟩ := hfrom ps qs hc
    refine .inl ⟨h1, h2, ⟨_, _, k1, by rw [← k2]; exact he⟩, fun mp mq hm => ?_⟩
    obtain ⟨ps, qs, hc, he⟩ := hto2 mp mq hm
    rw [← he]
    exact h4 ps qs hc
  · refine .inr ⟨h1, fun mp mq hm => ?_⟩
    obtain ⟨ps, qs, hc, _⟩ := hto2 mp mq hm
    exact h2 ps qs hc
end Go.Proofs.Ytleldppdflgmgaa

/- Routes, plain: what the rest of a prefix costs. -/
namespace Go.Proofs.Ytleldppdflgmgaa
open Go.RowKit Go.Eng Go.Nw Go.Rt

theorem path_imp {st st2 : Int → Int → Bool} {nodes : Nat} {t u : Int} {p : List Int} (h : PathG st nodes t u p) (hs : ∀ x y, st x y = true → st2 x y = true) : PathG st2 nodes t u p := h.mono fun x y _ _ => hs x y
theorem path_heads {st : Int → Int → Bool} {nodes : Nat} {t u : Int} {p : List Int} (h : PathG st nodes t u p) : ∀ x ∈ p, ∃ y, st y x = true := by
  induction h with
  | done => exact fun x hx => absurd hx List.not_mem_nil
  | @step u v r hu hs hv h ih =>
    intro x hx
    rcases List.mem_cons.1 hx with rfl | hx
    · exact ⟨u, hs⟩
    · exact ih x hx
theorem and_left_ {a b : Bool} (h : (a && b) = true) : a = true := by cases a <;> simp_all
theorem and_right_ {a b : Bool} (h : (a && b) = true) : b = true := by cases a <;> simp_all
/-- The network without what a filter strikes. -/
theorem net_filter {n : Net} (h : Ok n) (g : Lk → Bool) : Net3 (fun u v => goodE n u v && g (u, v, costW n u v)) (costW n) ((arcsE n).filter g) := by
  refine ⟨fun u v c => ?_, fun u v hs => (net0 h).pos u v (and_left_ hs)⟩
  rw [List.mem_filter]
  constructor
  · rintro ⟨h1, h2⟩
    obtain ⟨hg, rfl⟩ := ((net0 h).iff u v c).1 h1
    exact ⟨by rw [hg, h2]; rfl, rfl⟩
  · rintro ⟨h1, rfl⟩
    exact ⟨((net0 h).iff u v _).2 ⟨and_left_ h1, rfl⟩, and_right_ h1⟩

/-! ### Routes that avoid a route -/
def avoidG (s t : Int) (mp : List Int) (a : Lk) : Bool := !(decide (a.1 ∈ mp) || decide (a.2.1 ∈ mp)) && !(decide (mp = []) && decide (a.1 = s ∧ a.2.1 = t))
theorem left_eq {l : List Lk} {s t : Int} {mp : List Int} {g : Lk → Bool} (k : Nat) (hk : k = 2 ↔ mp = []) (hg : ∀ a, g a = !(decide (a.1 ∈ mp) || decide (a.2.1 ∈ mp))) : ((if k = 2 then notArc s t l else l).filter g) = l.filter (avoidG s t mp) := by
  by_cases h : mp = []
  · rw [if_pos (hk.2 h)]
    unfold notArc
    rw [List.filter_filter]
    apply List.filter_congr
    intro a _
    rw [hg]; unfold avoidG; rw [decide_eq_true h, Bool.true_and]
  · rw [if_neg (fun e => h (hk.1 e))]
    apply List.filter_congr
    intro a _
    rw [hg]; unfold avoidG; rw [decide_eq_false h, Bool.false_and, Bool.not_false, Bool.and_true]
theorem rt_two (s t : Int) (mp : List Int) : (rt s t mp).length = 2 ↔ mp = [] := by
  rw [rt_len]
  constructor
  · intro h; exact List.eq_nil_of_length_eq_zero (by omega)
  · rintro rfl; rfl
theorem rt_last (s t : Int) (mp : List Int) : lastP (rt s t mp) = t := by
  unfold lastP rt
  rw [show (s :: (mp ++ [t])).length - 1 = mp.length + 1 by simp, List.getD_cons_succ, List.getD_eq_getElem?_getD, List.getElem?_append_right (Nat.le_refl _), Nat.sub_self]; rfl
theorem leftP_eq (l : List Lk) (s t : Int) (mp : List Int) : leftP l s t (rt s t mp) = l.filter (avoidG s t mp) := by
  unfold leftP
  apply left_eq _ (rt_two s t mp)
  intro a
  have : midP (rt s t mp) = mp := by
    unfold midP
    rw [rt_len, Nat.add_sub_cancel]
    unfold rt
    rw [List.drop_one, List.tail_cons, List.take_left']
    rfl
  rw [this]
theorem leftA_eq (l : List Lk) {s t : Int} {mp : List Int} (h : t ∉ mp) : leftA l (rt s t mp) t = l.filter (avoidG s t mp) := by
  unfold leftA
  apply left_eq _ (rt_two s t mp)
  intro a
  have : ∀ v, shutQ (rt s t mp) t v = decide (v ∈ mp) := fun v => by
    unfold shutQ shutP rt
    rw [List.drop_one, List.tail_cons]
    by_cases e : v = t
    · subst e; rw [decide_eq_false h]; simp
    · simp [e]
  rw [this, this]
def stA (n : Net) (s t : Int) (mp : List Int) (u v : Int) : Bool := goodE n u v && avoidG s t mp (u, v, costW n u v)
theorem avoid_iff {s t : Int} {mp : List Int} {u v c : Int} : avoidG s t mp (u, v, c) = true ↔ (u ∉ mp ∧ v ∉ mp) ∧ ¬ (mp = [] ∧ u = s ∧ v = t) := by
  unfold avoidG
  simp only [Bool.and_eq_true, Bool.not_eq_true', Bool.or_eq_false_iff, decide_eq_false_iff_not]
  constructor
  · rintro ⟨h1, h2⟩
    refine ⟨h1, fun h3 => ?_⟩
    rw [decide_eq_true h3.1, decide_eq_true h3.2] at h2
    cases h2
  · rintro ⟨h1, h2⟩
    refine ⟨h1, ?_⟩
    cases h3 : (decide (mp = []) && decide (u = s ∧ v = t)) with
    | false => rfl
    | true => exact absurd ⟨of_decide_eq_true (and_left_ h3), of_decide_eq_true (and_right_ h3)⟩ h2
theorem path_avoid {n : Net} {s t : Int} {mp mq : List Int} (hp : IsRt n s t mp) : (PathM (stA n s t mp) n.nodes.toNat t s mq ∧ (rt s t mq).Nodup) ↔ Two n s t mp mq := by
  obtain ⟨hst, p1, p2, p3⟩ := rt_nd hp.nd
  constructor
  · rintro ⟨h, hnd⟩
    have hd : ∀ x ∈ mq, x ∉ mp := fun x hx => by
      obtain ⟨y, hy⟩ := path_heads h x (List.mem_append_left _ hx)
      exact (avoid_iff.1 (and_right_ hy)).1.2
    refine ⟨hp, ⟨path_imp h fun x y hxy => and_left_ hxy, hnd⟩, fun e => ?_, fun x hx hy => hd x hy hx⟩
    subst e
    cases mp with
    | cons x xs => exact hd x List.mem_cons_self List.mem_cons_self
    | nil =>
      cases h with
      | step _ hs _ _ => exact (avoid_iff.1 (and_right_ hs)).2 ⟨rfl, rfl, rfl⟩
  · intro h2
    refine ⟨?_, h2.q.nd⟩
    obtain ⟨_, q1, q2, q3⟩ := rt_nd h2.q.nd
    have hx : ∀ x, x = s ∨ x ∈ mq ++ [t] → x ∉ mp := fun x hx hm => by
      rcases hx with rfl | hx
      · exact p1 hm
      · rcases List.mem_append.1 hx with h | h
        · exact h2.dis x hm h
        · obtain rfl := List.mem_singleton.1 h; exact p2 hm
    by_cases he : mp = []
    · cases mq with
      | nil => exact absurd he h2.ne
      | cons m ms =>
        have hpa := h2.q.path
        cases hpa with
        | step hu hs hv h =>
          have hmt : m ≠ t := fun e => q2 (by rw [e]; exact List.mem_cons_self)
          refine .step hu ?_ hv (h.mono fun x y hx2 hy hxy => ?_)
          · unfold stA
            rw [hs]
            exact avoid_iff.2 ⟨⟨hx s (.inl rfl), hx m (.inr List.mem_cons_self)⟩, fun h => hmt h.2.2⟩
          · unfold stA
            rw [hxy]
            have hxm : x ∈ (m :: ms) ++ [t] := by
              rcases hx2 with rfl | h
              · exact List.mem_cons_self
              · exact List.mem_cons_of_mem _ h
            refine avoid_iff.2 ⟨⟨hx x (.inr hxm), hx y (.inr (List.mem_cons_of_mem _ hy))⟩, fun h => ?_⟩
            rw [h.2.1] at hxm
            rcases List.mem_append.1 hxm with h | h
            · exact q1 h
            · exact hst (List.mem_singleton.1 h)
    · refine h2.q.path.mono fun x y hx2 hy hxy => ?_
      unfold stA
      rw [hxy]
      exact avoid_iff.2 ⟨⟨hx x hx2, hx y (.inr hy)⟩, fun h => he h.1⟩
theorem rt_bd {n : Net} (hok : Ok n) {s t : Int} {mp : List Int} (hs : 0 ≤ s ∧ s < n.nodes) (hp : IsRt n s t mp) : mp.length + 2 ≤ n.nodes.toNat := by
  have hn0 := hok.n0
  have := Rt.nodup_len n.nodes.toNat _ hp.nd fun x hx => by
    unfold rt at hx
    rcases List.mem_cons.1 hx with rfl | hx
    · omega
    · exact path_mem hp.path x hx
  rwa [rt_len] at this

/-- The first of the cheapest routes beside a route. -/
theorem other_sem {n : Net} (hok : Ok n) {s t : Int} (hs : 0 ≤ s ∧ s < n.nodes) (ht : 0 ≤ t ∧ t < n.nodes) {mp : List Int} (hp : IsRt n s t mp) :
    (farAt (distC n.nodes.toNat ((arcsE n).filter (avoidG s t mp)) t) s < noneC ∧ ∃ mq, Two n s t mp mq ∧ otherP n.nodes.toNat (arcsE n) s t (rt s t mp) = rt s t mq ∧ key n s t mq = farAt (distC n.nodes.toNat ((arcsE n).filter (avoidG s t mp)) t) s ∧ FirstMin (keyG (costW n)) (walkG (stA n s t mp) n.nodes.toNat t (n.nodes.toNat - 1) [s]) (rt s t mq)) ∨ (noneC ≤ farAt (distC n.nodes.toNat ((arcsE n).filter (avoidG s t mp)) t) s ∧ ∀ mq, ¬ Two n s t mp mq) := by
  have hn0 := hok.n0
  have hn1 := hok.n1
  obtain ⟨hst, _⟩ := rt_nd hp.nd
  have hnet : Net3 (stA n s t mp) (costW n) ((arcsE n).filter (avoidG s t mp)) := net_filter hok _
  have h8 : Arcs8 n.nodes.toNat ((arcsE n).filter (avoidG s t mp)) := (arcs8 hok).sub fun a ha => (List.mem_filter.1 ha).1
  have hd := distC_dist (to := t) (by omega) h8 ⟨ht.1, by omega⟩
  unfold otherP
  rw [leftP_eq]
  obtain ⟨far, hfar⟩ : ∃ far, distC n.nodes.toNat ((arcsE n).filter (avoidG s t mp)) t = far := ⟨_, rfl⟩
  rw [hfar] at hd ⊢
  rcases Int.lt_or_le (farAt far s) noneC with hlt | hge
  · left
    refine ⟨hlt, ?_⟩
    obtain ⟨h1, h2⟩ := way_first hnet h8.ok hd ⟨ht.1, by omega⟩ (fun u v hg => by
      have := h8 (u, v, costW n u v) ((hnet.iff u v _).2 ⟨hg, rfl⟩)
      exact this.2.1) (by omega) (farAt far s).toNat (n.nodes.toNat - 1) [s] s (by simp) (by simp) rfl hs.1 (by omega) hlt (Nat.le_refl _) (fun x hx => by obtain rfl := List.mem_singleton.1 hx; exact ⟨⟨hs.1, by omega⟩, Int.le_refl _⟩) (by simp only [List.length_singleton]; omega)
    have hmem := h1.mem
    obtain ⟨p, hpe, hpath⟩ := walk_mem _ _ _ hmem
    have hnd := walk_nodup _ _ _ (by simp) hmem
    obtain ⟨mq, rfl⟩ := path_mids hpath hst
    rw [hpe] at h1 h2 hnd
    have hwf : wayF ((arcsE n).filter (avoidG s t mp)) far s t = rt s t mq := by
      unfold wayF
      rw [if_neg (by omega)]
      exact hpe
    refine ⟨mq, (path_avoid hp).1 ⟨hpath, hnd⟩, hwf, ?_, h1⟩
    have : keyG (costW n) [s] = 0 := rfl
    have h3 : key n s t mq = keyG (costW n) [s] + farAt far s := h2
    omega
  · right
    refine ⟨hge, fun mq h2 => ?_⟩
    have hl := rt_bd hok hs h2.q
    have := (path_far hnet hd ((path_avoid hp).2 h2).1 (by rw [List.length_append, List.length_singleton]; omega)).2
    omega
theorem other_le {n : Net} (hok : Ok n) {s t : Int} (hs : 0 ≤ s ∧ s < n.nodes) (ht : 0 ≤ t ∧ t < n.nodes) {mp mq : List Int} (h2 : Two n s t mp mq) : farAt (distC n.nodes.toNat ((arcsE n).filter (avoidG s t mp)) t) s ≤ key n s t mq := by
  have hn0 := hok.n0
  have hn1 := hok.n1
  have hnet : Net3 (stA n s t mp) (costW n) ((arcsE n).filter (avoidG s t mp)) := net_filter hok _
  have h8 : Arcs8 n.nodes.toNat ((arcsE n).filter (avoidG s t mp)) := (arcs8 hok).sub fun a ha => (List.mem_filter.1 ha).1
  have hd := distC_dist (to := t) (by omega) h8 ⟨ht.1, by omega⟩
  have hl := rt_bd hok hs h2.q
  exact (path_far hnet hd ((path_avoid h2.p).2 h2).1 (by rw [List.length_append, List.length_singleton]; omega)).1

/-- The rest of a whole route. -/
theorem rest_end {n : Net} (hok : Ok n) {s t : Int} (hs : 0 ≤ s ∧ s < n.nodes) (ht : 0 ≤ t ∧ t < n.nodes) {mp : List Int} (hp : IsRt n s t mp) (fuel : Nat) : ∃ c, restF fuel n.nodes.toNat (arcsE n) (rt s t mp) t = some c ∧ ((c.2 = true ∧ (∃ mq, Two n s t mp mq ∧ key n s t mq = c.1) ∧ ∀ mq, Two n s t mp mq → c.1 ≤ key n s t mq) ∨ (c.2 = false ∧ ∀ mq, ¬ Two n s t mp mq)) := by
  obtain ⟨_, _, p2, _⟩ := rt_nd hp.nd
  unfold restF
  rw [if_pos (rt_last s t mp), leftA_eq _ p2]
  refine ⟨_, rfl, ?_⟩
  have hh : headP (rt s t mp) = s := rfl
  rw [hh]
  rcases other_sem hok hs ht hp with ⟨h1, mq, h2, _, h3, _⟩ | ⟨h1, h2⟩
  · exact .inl ⟨decide_eq_true h1, ⟨mq, h2, h3⟩, fun mq h2 => other_le hok hs ht h2⟩
  · exact .inr ⟨decide_eq_false (by omega), h2⟩

/-- The rest of a route's beginning. -/
theorem rest_mid {n : Net} (hok : Ok n) {s t v : Int} {ms : List Int} (hs : 0 ≤ s ∧ s < n.nodes) (ht : 0 ≤ t ∧ t < n.nodes) (hv : 0 ≤ v ∧ v < n.nodes) (hst : s ≠ t) (hvt : v ≠ t) (htm : t ∉ ms) (hnd : (s :: (ms ++ [v])).Nodup) (hext : ∀ p, PathG (goodE n) n.nodes.toNat t v p → PathG (goodE n) n.nodes.toNat t s (ms ++ v :: p)) :
    ∃ c, restF 100000 n.nodes.toNat (arcsE n) (s :: (ms ++ [v])) t = some c ∧ ((c.2 = true ∧ (∃ x mq, Two n s t (ms ++ v :: x) mq ∧ keyG (costW n) (v :: (x ++ [t])) + key n s t mq = c.1) ∧ ∀ x mq, Two n s t (ms ++ v :: x) mq → c.1 ≤ keyG (costW n) (v :: (x ++ [t])) + key n s t mq) ∨ (c.2 = false ∧ ∀ x mq, ¬ Two n s t (ms ++ v :: x) mq)) := by
  have hn0 := hok.n0
  have hn1 := hok.n1
  obtain ⟨pre, hpre⟩ : ∃ pre, s :: (ms ++ [v]) = pre := ⟨_, rfl⟩
  have hlast : lastP pre = v := by rw [← hpre]; exact rt_last s v ms
  have hhead : headP pre = s := by rw [← hpre]; rfl
  have hshP : ∀ x, shutP pre x = decide (x ∈ ms ++ [v]) := fun x => by rw [← hpre]; rfl
  obtain ⟨hnd1, hnd2⟩ := List.nodup_cons.1 hnd
  obtain ⟨hnd3, _, hnd4⟩ := List.nodup_append.1 hnd2
  have hvm : v ∉ ms := fun h => hnd4 v h v (by simp) rfl
  have hsv : s ≠ v := fun e => hnd1 (by rw [e]; simp)
  have hsm : s ∉ ms := fun e => hnd1 (List.mem_append_left _ e)
  unfold restF
  rw [hpre, hlast, hhead, if_neg hvt]
  have hbad : ∀ u x c : Int, (!badB pre (u, x, c)) = true ↔ x ∉ ms ++ [v] ∧ (u ∈ ms ++ [v] → u = v) ∧ x ≠ s := fun u x c => by
    unfold badB
    rw [hlast, hhead, hshP, hshP]
    simp only [Bool.not_eq_true', Bool.or_eq_false_iff, decide_eq_false_iff_not, Bool.and_eq_false_iff, ne_eq, Decidable.not_not]
    constructor
    · rintro ⟨⟨h1, h2⟩, h3⟩
      refine ⟨h1, fun h4 => ?_, h3⟩
      rcases h2 with h2 | h2
      · exact absurd h4 h2
      · exact h2
    · rintro ⟨h1, h2, h3⟩
      refine ⟨⟨h1, ?_⟩, h3⟩
      by_cases h4 : u ∈ ms ++ [v]
      · exact .inr (h2 h4)
      · exact .inl h4
  have hnet : Net3 (fun u x => goodE n u x && !badB pre (u, x, costW n u x)) (costW n) (leftB (arcsE n) pre) := net_filter hok fun a => !badB pre a
  have h8 : Arcs8 n.nodes.toNat (leftB (arcsE n) pre) := (arcs8 hok).sub fun a ha => (List.mem_filter.1 ha).1
  have hlnd : (leftB (arcsE n) pre).Nodup := (List.filter_sublist (l := arcsE n)).nodup (arcs_nodup hok n.links.length (Nat.le_refl _))
  have hsh : ∀ x, shutB v s t (shutP pre) x = false ↔ (x ≠ v ∧ x ≠ s ∧ x ≠ t) ∧ x ∉ ms ++ [v] := fun x => by rw [shut_abt, hshP, decide_eq_false_iff_not]
  have hto : shutB v s t (shutP pre) t = true := by unfold shutB; simp
  have hm : 2 * n.nodes.toNat * (48 * n.nodes.toNat + 1) < 100000 := by
    have h1 : n.nodes.toNat ≤ 32 := by omega
    have h2 : 2 * n.nodes.toNat * (48 * n.nodes.toNat + 1) ≤ 64 * 1537 := Nat.mul_le_mul (by omega) (by omega)
    omega
  obtain ⟨r, hr, h⟩ := both_sem (closed := shutP pre) (fuel := 100000) ⟨by omega, by omega⟩ h8 hlnd (a := v) (b := s) (to := t) ⟨hv.1, by omega⟩ ⟨hs.1, by omega⟩ ⟨ht.1, by omega⟩ hm
  rw [hr]
  refine ⟨_, rfl, ?_⟩
  have hto2 : ∀ x mq, Two n s t (ms ++ v :: x) mq → ∃ ps qs, Cand (leftB (arcsE n) pre) (shutB v s t (shutP pre)) v s t ps qs ∧ wcost ps + wcost qs = keyG (costW n) (v :: (x ++ [t])) + key n s t mq := by
    intro x mq h2
    obtain ⟨_, p1, p2, p3⟩ := rt_nd h2.p.nd
    obtain ⟨_, q1, q2, q3⟩ := rt_nd h2.q.nd
    obtain ⟨p4, p5, p6⟩ := List.nodup_append.1 p3
    obtain ⟨p7, p8⟩ := List.nodup_cons.1 p5
    have hx1 : ∀ y ∈ x, (y ≠ v ∧ y ≠ s ∧ y ≠ t) ∧ y ∉ ms ++ [v] := fun y hy => by
      have h1 : y ≠ v := fun e => p7 (e ▸ hy)
      have h2 : y ∈ ms ++ v :: x := by simp [hy]
      refine ⟨⟨h1, fun e => p1 (e ▸ h2), fun e => p2 (e ▸ h2)⟩, fun h => ?_⟩
      rcases List.mem_append.1 h with h | h
      · exact p6 y h y (List.mem_cons_of_mem _ hy) rfl
      · exact h1 (List.mem_singleton.1 h)
    have hq1 : ∀ y ∈ mq, (y ≠ v ∧ y ≠ s ∧ y ≠ t) ∧ y ∉ ms ++ [v] := fun y hy => by
      refine ⟨⟨fun e => h2.dis v (by simp) (e ▸ hy), fun e => q1 (e ▸ hy), fun e => q2 (e ▸ hy)⟩, fun h => ?_⟩
      rcases List.mem_append.1 h with h | h
      · exact h2.dis y (by simp [h]) hy
      · obtain rfl := List.mem_singleton.1 h
        exact h2.dis y (by simp) hy
    have htv : t ∉ ms ++ [v] := fun h => by
      rcases List.mem_append.1 h with h | h
      · exact htm h
      · exact hvt (List.mem_singleton.1 h).symm
    have hend : ∀ {z : List Int}, (∀ y ∈ z, (y ≠ v ∧ y ≠ s ∧ y ≠ t) ∧ y ∉ ms ++ [v]) → ∀ y ∈ z ++ [t], y ∉ ms ++ [v] ∧ y ≠ s := fun hz y hy => by
      rcases List.mem_append.1 hy with h | h
      · exact ⟨(hz y h).2, (hz y h).1.2.1⟩
      · obtain rfl := List.mem_singleton.1 h
        exact ⟨htv, Ne.symm hst⟩
    have hpath : PathM (goodE n) n.nodes.toNat t v x := by
      have := h2.p.path
      unfold PathM at this
      rw [List.append_assoc, List.cons_append] at this
      exact PathG.append this
    obtain ⟨ps, a1, a2, a3⟩ := way_of_path (sh := shutB v s t (shutP pre)) hnet x v (hpath.mono fun y z hy hz hyz => by
      rw [hyz, Bool.true_and, hbad]
      refine ⟨(hend hx1 z hz).1, fun h => ?_, (hend hx1 z hz).2⟩
      rcases hy with rfl | hy
      · rfl
      · exact absurd h (hend hx1 y hy).1) fun y hy => (hsh y).2 (hx1 y hy)
    obtain ⟨qs, b1, b2, b3⟩ := way_of_path (sh := shutB v s t (shutP pre)) hnet mq s (h2.q.path.mono fun y z hy hz hyz => by
      rw [hyz, Bool.true_and, hbad]
      refine ⟨(hend hq1 z hz).1, fun hin4 => ?_, (hend hq1 z hz).2⟩
      rcases hy with hy | hy
      · rw [hy] at hin4; exact absurd hin4 hnd1
      · exact absurd hin4 (hend hq1 y hy).1) fun y hy => (hsh y).2 (hq1 y hy)
    have hnn : (x ++ mq).Nodup := List.nodup_append.2 ⟨p8, q3, fun a ha b hb e => h2.dis a (by simp [ha]) (e ▸ hb)⟩
    refine ⟨ps, qs, ⟨a1, b1, ?_, by rw [a2, b2]; exact hnn⟩, by rw [a3, b3]; rfl⟩
    apply nodup_of_map (f := fun a : Lk => a.1)
    rw [List.map_append, way_tails a1, way_tails b1, a2, b2]
    refine List.nodup_append.2 ⟨p5, List.nodup_cons.2 ⟨q1, q3⟩, fun a ha b hb e => ?_⟩
    subst e
    have ha2 : a ∈ ms ++ v :: x := List.mem_append_right _ ha
    rcases List.mem_cons.1 hb with rfl | hb
    · exact p1 ha2
    · exact h2.dis a ha2 hb
  have hfrom : ∀ ps qs, Cand (leftB (arcsE n) pre) (shutB v s t (shutP pre)) v s t ps qs → Two n s t (ms ++ v :: inner ps) (inner qs) ∧ wcost ps + wcost qs = keyG (costW n) (v :: (inner ps ++ [t])) + key n s t (inner qs) := by
    intro ps qs hc
    obtain ⟨p1, p2⟩ := path_of_way hnet h8 hto hc.p hvt
    obtain ⟨q1, q2⟩ := path_of_way hnet h8 hto hc.q hst
    obtain ⟨n1, n2, n3⟩ := List.nodup_append.1 hc.nodes
    have hps := fun x hx => (hsh x).1 (hc.p.open_ x hx)
    have hqs := fun x hx => (hsh x).1 (hc.q.open_ x hx)
    have hgp : PathM (goodE n) n.nodes.toNat t s (ms ++ v :: inner ps) := by
      have := hext _ (path_imp p1 fun x y hxy => and_left_ hxy)
      unfold PathM
      rw [List.append_assoc, List.cons_append]
      exact this
    have hmpn : (ms ++ v :: inner ps).Nodup := List.nodup_append.2 ⟨hnd3, List.nodup_cons.2 ⟨fun h => (hps v h).1.1 rfl, n1⟩, fun a ha b hb e => by
      subst e
      rcases List.mem_cons.1 hb with rfl | hb
      · exact hvm ha
      · exact (hps a hb).2 (List.mem_append_left _ ha)⟩
    have hrp : (rt s t (ms ++ v :: inner ps)).Nodup := nd_rt hst (fun h => by
      rcases List.mem_append.1 h with h | h
      · exact hsm h
      · rcases List.mem_cons.1 h with h | h
        · exact hsv h
        · exact (hps s h).1.2.1 rfl) (fun h => by
      rcases List.mem_append.1 h with h | h
      · exact htm h
      · rcases List.mem_cons.1 h with h | h
        · exact hvt h.symm
        · exact (hps t h).1.2.2 rfl) hmpn
    have hrq : (rt s t (inner qs)).Nodup := nd_rt hst (fun h => (hqs s h).1.2.1 rfl) (fun h => (hqs t h).1.2.2 rfl) n2
    refine ⟨⟨⟨hgp, hrp⟩, ⟨path_imp q1 fun x y hxy => and_left_ hxy, hrq⟩, fun e => ?_, fun x hx hy => ?_⟩, by rw [p2, q2]; rfl⟩
    · have : v ∈ inner qs := by rw [← e]; simp
      exact (hqs v this).1.1 rfl
    · rcases List.mem_append.1 hx with h | h
      · exact (hqs x hy).2 (List.mem_append_left _ h)
      · rcases List.mem_cons.1 h with rfl | h
        · exact (hqs x hy).1.1 rfl
        · exact n3 x h x hy rfl
  rcases h with ⟨h1, _, ⟨ps, qs, hc, he⟩, h4⟩ | ⟨h1, h2⟩
  · obtain ⟨k1, k2⟩ := hfrom ps qs hc
    refine .inl ⟨h1, ⟨_, _, k1, by rw [← k2]; exact he⟩, fun x mq hm => ?_⟩
    obtain ⟨ps, qs, hc, he⟩ := hto2 x mq hm
    rw [← he]
    exact h4 ps qs hc
  · refine .inr ⟨h1, fun x mq hm => ?_⟩
    obtain ⟨ps, qs, hc, _⟩ := hto2 x mq hm
    exact h2 ps qs hc
end Go.Proofs.Ytleldppdflgmgaa

/- Walks: the reference's Less and Disjoint; the law RouteDisjoint. -/
namespace Go.Proofs.Ytleldppdflgmgaa
open Go.RowKit Go.Eng Go.Nw Go.Rt

def lexLt : List Int → List Int → Bool
  | [], b => !b.isEmpty
  | _ :: _, [] => false
  | a :: l, b :: m => if a ≠ b then decide (a < b) else lexLt l m
theorem lex_drop {a b : List Int} {i : Nat} {x y : Int} (hx : a[i]? = some x) (hy : b[i]? = some y) : lexLt (a.drop i) (b.drop i) = if x ≠ y then decide (x < y) else lexLt (a.drop (i + 1)) (b.drop (i + 1)) := by
  obtain ⟨h1, rfl⟩ := List.getElem?_eq_some_iff.1 hx
  obtain ⟨h2, rfl⟩ := List.getElem?_eq_some_iff.1 hy
  rw [List.drop_eq_getElem_cons h1, List.drop_eq_getElem_cons h2]
  rfl
theorem lex_no : ∀ {a b : List Int}, lexLt a b = false → lexLt b a = false → a = b
  | [], [], _, _ => rfl
  | [], b :: m, h, _ => by simp [lexLt] at h
  | a :: l, [], _, h => by simp [lexLt] at h
  | a :: l, b :: m, h1, h2 => by
    unfold lexLt at h1 h2
    by_cases e : a = b
    · subst e
      rw [if_neg (fun h => h rfl)] at h1 h2
      rw [lex_no h1 h2]
    · rw [if_pos e] at h1
      rw [if_pos (Ne.symm e)] at h2
      have h3 := of_decide_eq_false h1
      have h4 := of_decide_eq_false h2
      omega
theorem lex_self : ∀ a : List Int, lexLt a a = false
  | [] => rfl
  | a :: l => by unfold lexLt; rw [if_neg (fun h => h rfl)]; exact lex_self l
theorem lex_ne (a b : List Int) : (lexLt a b || lexLt b a) = decide (a ≠ b) := by
  by_cases e : a = b
  · subst e; rw [lex_self]; simp
  · rw [decide_eq_true e]
    cases h1 : lexLt a b with
    | true => rfl
    | false =>
      cases h2 : lexLt b a with
      | true => rfl
      | false => exact absurd (lex_no h1 h2) e

theorem less_spec (a b : List Int) (hla : a.length ≤ 1000000000000) (_hlb : b.length ≤ 1000000000000) {A1 A2 : Option Addr} {c1 c2 B : Nat} {w0 : World} {H : List HP} {w : World} (hr1 : Rd B w0 H A1 (a.flatMap numF)) (hr2 : Rd B w0 H A2 (b.flatMap numF)) (hw : St B w0 H w) :
    Calls Try.prog 31 [.slice A1 a.length c1, .slice A2 b.length c2].toArray w (Post B w0 fun v K => v = .bool (lexLt a b) ∧ K = H) := by
  refine Calls_of_VC Try.func31 Try.ntmps31 rfl rfl hw ?_
  repeat' (first | apply (zs2 ?_) | apply (zs65 ?_) | apply (zs68 ?_) | apply (zs69 ?_) | apply (zs70 ?_) | apply (zs73 ?_) | fail)
  refine VC_loop1 (fun (i : Nat) => [(5, .int .i64 i), (0, .slice A1 a.length c1), (1, .slice A2 b.length c2)]) (fun _ => H) (fun i => i ≤ a.length ∧ i ≤ b.length ∧ lexLt a b = lexLt (a.drop i) (b.drop i)) (fun i => a.length - i) 0 ⟨Nat.zero_le _, Nat.zero_le _, rfl⟩ ?_ (fun w hw => hw) ?_
  · (repeat (first | exact sub_nil _ | (apply sub_cons; first | exact rfl | exact congrArg (fun z : Int => some (Value.int .i64 z)) (by omega))))
  rintro i ⟨h1, h2, hi⟩ K hK
  by_cases hlt : i < a.length ∧ i < b.length
  · obtain ⟨hl1, hl2⟩ := hlt
    obtain ⟨x, hx⟩ : ∃ x, a[i]? = some x := ⟨_, List.getElem?_eq_getElem hl1⟩
    obtain ⟨y, hy⟩ : ∃ y, b[i]? = some y := ⟨_, List.getElem?_eq_getElem hl2⟩
    have hst := lex_drop hx hy
    by_cases hxy : x = y
    · rw [if_neg (fun h => h hxy)] at hst
      repeat' (first | apply (zs1 ?_) | apply (zs2 ?_) | (apply zg1; refine zs4 ?_) | (apply zg3; refine zs60 ?_) | (apply zg4; refine zs9 ?_) | (apply zg5; refine zs57 ?_) | (apply zg6; refine zs11 ?_) | (apply zg8; (refine zs16 ?_ ?_ <;> intro _ <;> try (exfalso; omega))) | (apply (zs17 ?_ ?_) <;> intro _ <;> try (exfalso; omega)) | (apply zg13; refine zs30 ?_) | apply (zs65 ?_) | apply (zs66 ?_) | apply (zs68 ?_) | apply (zs69 ?_) | apply (zs70 ?_) | (apply zg27; first | refine zs71 ?_ | refine zs72 ?_) | apply (zs73 ?_) | apply (zs76 ?_) | apply (zs79 ?_) | (apply zg28; refine zs83 ?_) | fail)
      apply hK (i + 1)
      · exact ⟨by omega, by omega, hi.trans hst⟩
      · omega
      · (repeat (first | exact sub_nil _ | (apply sub_cons; first | exact rfl | exact congrArg (fun z : Int => some (Value.int .i64 z)) (by omega))))
      · exact fun w hw => hw
    · rw [if_pos hxy] at hst
      rw [hi, hst]
      clear hK
      by_cases hlt2 : x < y
      · rw [decide_eq_true hlt2]
        repeat' (first | apply (zs1 ?_) | apply (zs2 ?_) | (apply zg1; refine zs4 ?_) | (apply zg3; refine zs60 ?_) | (apply zg4; refine zs9 ?_) | (apply zg5; refine zs57 ?_) | (apply zg6; refine zs11 ?_) | (apply zg8; (refine zs16 ?_ ?_ <;> intro _ <;> try (exfalso; omega))) | (apply (zs17 ?_ ?_) <;> intro _ <;> try (exfalso; omega)) | apply (zs65 ?_) | apply (zs66 ?_) | apply (zs68 ?_) | apply (zs69 ?_) | apply (zs70 ?_) | (apply zg27; refine zs71 ?_) | apply (zs73 ?_) | apply (zs74 ?_) | apply (zs76 ?_) | apply (zs77 ?_) | apply (zs78 ?_) | (apply zg28; refine zs83 ?_) | fail)
        apply VQ_ret1; exact rfl; exact rfl; exact ⟨rfl, rfl⟩
      · rw [decide_eq_false hlt2]
        repeat' (first | apply (zs1 ?_) | apply (zs2 ?_) | (apply zg1; refine zs4 ?_) | (apply zg3; refine zs60 ?_) | (apply zg4; refine zs9 ?_) | (apply zg5; refine zs57 ?_) | (apply zg6; refine zs11 ?_) | (apply zg8; (refine zs16 ?_ ?_ <;> intro _ <;> try (exfalso; omega))) | (apply (zs17 ?_ ?_) <;> intro _ <;> try (exfalso; omega)) | apply (zs65 ?_) | apply (zs66 ?_) | apply (zs68 ?_) | apply (zs69 ?_) | apply (zs70 ?_) | (apply zg27; refine zs71 ?_) | apply (zs73 ?_) | apply (zs74 ?_) | apply (zs76 ?_) | apply (zs77 ?_) | apply (zs78 ?_) | (apply zg28; refine zs83 ?_) | fail)
        apply VQ_ret1; exact rfl; exact rfl; exact ⟨rfl, rfl⟩
  · clear hK
    have hend : lexLt a b = decide (a.length < b.length) := by
      rw [hi]
      by_cases hla2 : i = a.length
      · rw [hla2, List.drop_length]
        by_cases hb : a.length < b.length
        · rw [decide_eq_true hb, List.drop_eq_getElem_cons hb]; rfl
        · rw [decide_eq_false hb, List.drop_eq_nil_of_le (by omega)]; rfl
      · have hb : i = b.length := by omega
        rw [hb, List.drop_length, decide_eq_false (by omega), List.drop_eq_getElem_cons (by omega)]; rfl
    rw [hend]
    by_cases hb : a.length < b.length
    · rw [decide_eq_true hb]
      repeat' (first | apply (zs1 ?_) | apply (zs2 ?_) | (apply zg1; refine zs3 ?_) | (apply zg4; refine zs9 ?_) | (apply zg6; refine zs12 ?_) | (apply (zs17 ?_ ?_) <;> intro _ <;> try (exfalso; omega)) | apply (zs65 ?_) | apply (zs68 ?_) | apply (zs69 ?_) | apply (zs70 ?_) | (apply zg27; refine zs72 ?_) | apply (zs74 ?_) | apply (zs75 ?_) | apply (zs80 ?_) | apply (zs81 ?_) | fail)
      all_goals (apply VQ_ret1; exact rfl; exact rfl; exact ⟨rfl, rfl⟩)
    · rw [decide_eq_false hb]
      repeat' (first | apply (zs1 ?_) | apply (zs2 ?_) | (apply zg1; first | refine zs3 ?_ | refine zs4 ?_) | (apply zg4; refine zs9 ?_) | (apply zg6; first | refine zs11 ?_ | refine zs12 ?_) | (apply (zs17 ?_ ?_) <;> intro _ <;> try (exfalso; omega)) | apply (zs65 ?_) | apply (zs68 ?_) | apply (zs69 ?_) | apply (zs70 ?_) | (apply zg27; refine zs72 ?_) | apply (zs74 ?_) | apply (zs75 ?_) | apply (zs80 ?_) | apply (zs81 ?_) | fail)
      all_goals (apply VQ_ret1; exact rfl; exact rfl; exact ⟨rfl, rfl⟩)

set_option maxRecDepth 10000 in
set_option maxHeartbeats 1000000 in
theorem rdisjoint_spec (a b : List Int) (hla : a.length ≤ 1000000000000) (hlb : b.length ≤ 1000000000000) {A1 A2 : Option Addr} {c1 c2 B : Nat} {w0 : World} {H : List HP} {w : World} (hr1 : Rd B w0 H A1 (a.flatMap numF)) (hr2 : Rd B w0 H A2 (b.flatMap numF)) (hw : St B w0 H w) :
    Calls Try.prog 12 [.slice A1 a.length c1, .slice A2 b.length c2].toArray w (Post B w0 fun v K => v = .bool (disjE a b) ∧ K = H) := by
  refine Calls_of_VC Try.func12 Try.ntmps12 rfl rfl hw ?_
  have hl1 := fun {w : World} (hw : St B w0 H w) => less_spec a b hla hlb (c1 := c1) (c2 := c2) hr1 hr2 hw
  have hl2 := fun {w : World} (hw : St B w0 H w) => less_spec b a hlb hla (c1 := c2) (c2 := c1) hr2 hr1 hw
  have hne := lex_ne a b
  obtain ⟨x1, hx1⟩ : ∃ x, lexLt a b = x := ⟨_, rfl⟩
  obtain ⟨x2, hx2⟩ : ∃ x, lexLt b a = x := ⟨_, rfl⟩
  rw [hx1] at hl1 hne
  rw [hx2] at hl2 hne
  by_cases h1 : a.length < 2
  · have hd : disjE a b = false := by unfold disjE; rw [decide_eq_false (by omega)]; rfl
    rw [hd]
    repeat' (first | apply (zs1 ?_) | apply (zs2 ?_) | (apply zg1; refine zs3 ?_) | (apply zg4; refine zs9 ?_) | (apply zg6; refine zs11 ?_) | (apply (zs17 ?_ ?_) <;> intro _ <;> try (exfalso; omega)) | apply (zs65 ?_) | apply (zs66 ?_) | apply (zs68 ?_) | apply (zs69 ?_) | apply (zs70 ?_) | (apply zg27; refine zs71 ?_) | apply (zs74 ?_) | apply (zs77 ?_) | (apply zg28; refine zs84 ?_) | fail)
    apply VQ_ret1; exact rfl; exact rfl; exact ⟨rfl, rfl⟩
  by_cases h2 : b.length < 2
  · have hd : disjE a b = false := by unfold disjE; rw [decide_eq_false (by omega)]; rfl
    rw [hd]
    repeat' (first | apply (zs1 ?_) | apply (zs2 ?_) | (apply zg1; first | refine zs3 ?_ | refine zs4 ?_) | (apply zg4; refine zs9 ?_) | (apply zg6; first | refine zs11 ?_ | refine zs12 ?_) | (apply (zs17 ?_ ?_) <;> intro _ <;> try (exfalso; omega)) | apply (zs65 ?_) | apply (zs66 ?_) | apply (zs68 ?_) | apply (zs69 ?_) | apply (zs70 ?_) | (apply zg27; refine zs71 ?_) | apply (zs74 ?_) | apply (zs77 ?_) | (apply zg28; refine zs84 ?_) | fail)
    apply VQ_ret1; exact rfl; exact rfl; exact ⟨rfl, rfl⟩
  have ga0 := getD_get (l := a) (i := 0) (by omega)
  have gb0 := getD_get (l := b) (i := 0) (by omega)
  have ga1 := getD_get (l := a) (i := a.length - 1) (by omega)
  have gb1 := getD_get (l := b) (i := b.length - 1) (by omega)
  have ea1 : ((a.length : Int) - 1).toNat = a.length - 1 := by omega
  have eb1 : ((b.length : Int) - 1).toNat = b.length - 1 := by omega
  by_cases h4 : a.getD 0 0 ≠ b.getD 0 0
  · have hd : disjE a b = false := by unfold disjE; rw [decide_eq_false (fun h => h4 h.2.2.2.1)]; rfl
    rw [hd]
    repeat' (first | apply (zs1 ?_) | apply (zs2 ?_) | (apply zg1; first | refine zs3 ?_ | refine zs4 ?_) | (apply zg3; refine zs60 ?_) | (apply zg4; refine zs9 ?_) | (apply zg5; refine zs57 ?_) | (apply zg6; first | refine zs11 ?_ | refine zs12 ?_) | (apply zg8; (refine zs16 ?_ ?_ <;> intro _ <;> try (exfalso; omega))) | (apply (zs17 ?_ ?_) <;> intro _ <;> try (exfalso; omega)) | apply (zs65 ?_) | apply (zs66 ?_) | apply (zs68 ?_) | apply (zs69 ?_) | apply (zs70 ?_) | (apply zg27; refine zs71 ?_) | apply (zs74 ?_) | apply (zs77 ?_) | (apply zg28; refine zs84 ?_) | fail)
    apply VQ_ret1; exact rfl; exact rfl; exact ⟨rfl, rfl⟩
  by_cases h5 : a.getD (a.length - 1) 0 ≠ b.getD (b.length - 1) 0
  · have hd : disjE a b = false := by unfold disjE; rw [decide_eq_false (fun h => h5 h.2.2.2.2)]; rfl
    rw [hd]
    rw [← ea1] at ga1 h5
    rw [← eb1] at gb1 h5
    repeat' (first | apply (zs1 ?_) | apply (zs2 ?_) | (apply zg1; first | refine zs3 ?_ | refine zs4 ?_) | (apply zg3; refine zs60 ?_) | (apply zg4; refine zs9 ?_) | (apply zg5; refine zs57 ?_) | (apply zg6; first | refine zs11 ?_ | refine zs12 ?_) | (apply zg8; (refine zs16 ?_ ?_ <;> intro _ <;> try (exfalso; omega))) | (apply (zs17 ?_ ?_) <;> intro _ <;> try (exfalso; omega)) | (apply zg14; refine zs31 ?_) | apply (zs65 ?_) | apply (zs66 ?_) | apply (zs68 ?_) | apply (zs69 ?_) | apply (zs70 ?_) | (apply zg27; refine zs71 ?_) | apply (zs74 ?_) | apply (zs77 ?_) | (apply zg28; refine zs84 ?_) | fail)
    apply VQ_ret1; exact rfl; exact rfl; exact ⟨rfl, rfl⟩
  by_cases h3 : a = b
  · have hd : disjE a b = false := by unfold disjE; rw [decide_eq_false (fun h => h.2.2.1 h3)]; rfl
    rw [hd]
    rw [decide_eq_false (fun h => h h3)] at hne
    obtain ⟨rfl, rfl⟩ := Bool.or_eq_false_iff.1 hne
    rw [← ea1] at ga1 h5
    rw [← eb1] at gb1 h5
    repeat' (first | apply (zs1 ?_) | apply (zs2 ?_) | (apply zg1; refine zs4 ?_) | (apply zg3; refine zs60 ?_) | (apply zg4; refine zs9 ?_) | (apply zg5; refine zs57 ?_) | (apply zg6; refine zs12 ?_) | (apply zg8; (refine zs16 ?_ ?_ <;> intro _ <;> try (exfalso; omega))) | (apply (zs17 ?_ ?_) <;> intro _ <;> try (exfalso; omega)) | (apply zg14; refine zs31 ?_) | apply (zs65 ?_) | apply (zs68 ?_) | apply (zs69 ?_) | apply (zs70 ?_) | (apply zg28; refine zs84 ?_) | fail)
    first | apply VL_callt en31 | apply VL_callq en31
    (repeat (first | exact args_nil | (apply args_cons; exact rfl)))
    exact rfl
    exact fun _ hw => (hl1 hw)
    repeat' (first | apply (zs1 ?_) | (apply zg1; refine zs4 ?_) | (apply zg20; refine zs48 ?_) | fail)
    first | apply VL_callt en31 | apply VL_callq en31
    (repeat (first | exact args_nil | (apply args_cons; exact rfl)))
    exact rfl
    exact fun _ hw => (hl2 hw)
    repeat' (first | apply (zs2 ?_) | (apply zg1; refine zs4 ?_) | (apply zg6; first | refine zs11 ?_ | refine zs12 ?_) | (apply zg20; refine zs48 ?_) | apply (zs65 ?_) | apply (zs66 ?_) | apply (zs68 ?_) | apply (zs69 ?_) | apply (zs70 ?_) | (apply zg27; refine zs71 ?_) | apply (zs74 ?_) | apply (zs77 ?_) | fail)
    apply VQ_ret1; exact rfl; exact rfl; exact ⟨rfl, rfl⟩
  rw [decide_eq_true h3] at hne
  have hd : disjE a b = !(List.range a.length).any fun i => (List.range b.length).any fun k => meetAt a b i k := by
    unfold disjE; rw [decide_eq_true ⟨by omega, by omega, h3, by omega, by omega⟩]; rfl
  rw [hd]
  rw [← ea1] at ga1 h5
  rw [← eb1] at gb1 h5
  iterate 6 (first | apply (zs2 ?_) | apply (zs65 ?_) | apply (zs68 ?_) | apply (zs69 ?_) | apply (zs70 ?_) | fail)
  refine VC_cutQ (fun _ : Unit => [(0, .slice A1 a.length c1), (1, .slice A2 b.length c2)]) (fun _ => H) ?_ ?_
  · intro KK hKK
    cases x1 with
    | true =>
      repeat' (first | apply (zs1 ?_) | (apply zg1; refine zs4 ?_) | (apply zg3; refine zs60 ?_) | (apply zg4; refine zs9 ?_) | (apply zg5; refine zs57 ?_) | (apply zg6; refine zs12 ?_) | (apply zg8; (refine zs16 ?_ ?_ <;> intro _ <;> try (exfalso; omega))) | (apply (zs17 ?_ ?_) <;> intro _ <;> try (exfalso; omega)) | (apply zg14; refine zs31 ?_) | apply (zs69 ?_) | (apply zg28; refine zs84 ?_) | fail)
      first | apply VL_callt en31 | apply VL_callq en31
      (repeat (first | exact args_nil | (apply args_cons; exact rfl)))
      exact rfl
      exact fun _ hw => (hl1 hw)
      repeat' (first | apply (zs1 ?_) | (apply zg1; first | refine zs3 ?_ | refine zs4 ?_) | (apply zg6; refine zs12 ?_) | (apply zg20; refine zs47 ?_) | apply (zs66 ?_) | apply (zs68 ?_) | (apply zg27; refine zs72 ?_) | apply (zs76 ?_) | fail)
      exact hKK () _ _ (by (repeat (first | exact sub_nil _ | (apply sub_cons; first | exact rfl | exact congrArg (fun z : Int => some (Value.int .i64 z)) (by omega))))) (fun w hw => hw)
    | false =>
      obtain rfl : x2 = true := by simpa using hne
      repeat' (first | apply (zs1 ?_) | (apply zg1; refine zs4 ?_) | (apply zg3; refine zs60 ?_) | (apply zg4; refine zs9 ?_) | (apply zg5; refine zs57 ?_) | (apply zg6; refine zs12 ?_) | (apply zg8; (refine zs16 ?_ ?_ <;> intro _ <;> try (exfalso; omega))) | (apply (zs17 ?_ ?_) <;> intro _ <;> try (exfalso; omega)) | (apply zg14; refine zs31 ?_) | apply (zs69 ?_) | (apply zg28; refine zs84 ?_) | fail)
      first | apply VL_callt en31 | apply VL_callq en31
      (repeat (first | exact args_nil | (apply args_cons; exact rfl)))
      exact rfl
      exact fun _ hw => (hl1 hw)
      repeat' (first | apply (zs1 ?_) | (apply zg1; refine zs4 ?_) | (apply zg20; refine zs48 ?_) | fail)
      first | apply VL_callt en31 | apply VL_callq en31
      (repeat (first | exact args_nil | (apply args_cons; exact rfl)))
      exact rfl
      exact fun _ hw => (hl2 hw)
      repeat' (first | (apply zg1; refine zs4 ?_) | (apply zg6; first | refine zs11 ?_ | refine zs12 ?_) | (apply zg20; refine zs47 ?_) | apply (zs66 ?_) | apply (zs68 ?_) | (apply zg27; refine zs72 ?_) | apply (zs76 ?_) | fail)
      exact hKK () _ _ (by (repeat (first | exact sub_nil _ | (apply sub_cons; first | exact rfl | exact congrArg (fun z : Int => some (Value.int .i64 z)) (by omega))))) (fun w hw => hw)
  intro _
  clear ga0 gb0 ga1 gb1 h4 h5 hd hne hl1 hl2
  repeat' (first | apply (zs2 ?_) | apply (zs65 ?_) | apply (zs68 ?_) | apply (zs69 ?_) | apply (zs70 ?_) | apply (zs73 ?_) | fail)
  refine VC_loop1 (fun (i : Nat) => [(5, .int .i64 i), (0, .slice A1 a.length c1), (1, .slice A2 b.length c2)]) (fun _ => H) (fun i => i ≤ a.length ∧ ((List.range i).any fun i => (List.range b.length).any fun k => meetAt a b i k) = false) (fun i => a.length - i) 0 ⟨Nat.zero_le _, rfl⟩ ?_ (fun w hw => hw) ?_
  · (repeat (first | exact sub_nil _ | (apply sub_cons; first | exact rfl | exact congrArg (fun z : Int => some (Value.int .i64 z)) (by omega))))
  rintro i ⟨hi, hiv⟩ K hK
  by_cases hlt : i < a.length
  · have hgi := getD_get (l := a) (i := i) hlt
    obtain ⟨x, hx⟩ : ∃ x, a.getD i 0 = x := ⟨_, rfl⟩
    rw [hx] at hgi
    repeat' (first | apply (zs1 ?_) | apply (zs2 ?_) | (apply zg4; refine zs9 ?_) | (apply (zs17 ?_ ?_) <;> intro _ <;> try (exfalso; omega)) | apply (zs65 ?_) | apply (zs68 ?_) | apply (zs69 ?_) | apply (zs70 ?_) | (apply zg27; refine zs71 ?_) | apply (zs73 ?_) | apply (zs76 ?_) | fail)
    refine VC_loop1 (fun (k : Nat) => [(6, .int .i64 k), (5, .int .i64 i), (0, .slice A1 a.length c1), (1, .slice A2 b.length c2)]) (fun _ => H) (fun k => k ≤ b.length ∧ ((List.range k).any fun k => meetAt a b i k) = false) (fun k => b.length - k) 0 ⟨Nat.zero_le _, rfl⟩ ?_ (fun w hw => hw) ?_
    · (repeat (first | exact sub_nil _ | (apply sub_cons; first | exact rfl | exact congrArg (fun z : Int => some (Value.int .i64 z)) (by omega))))
    rintro k ⟨hk, hkv⟩ K2 hK2
    by_cases hlt2 : k < b.length
    · have hgk := getD_get (l := b) (i := k) hlt2
      obtain ⟨y, hy⟩ : ∃ y, b.getD k 0 = y := ⟨_, rfl⟩
      rw [hy] at hgk
      by_cases hm : x = y ∧ ¬ ((i = 0 ∧ k = 0) ∨ (i + 1 = a.length ∧ k + 1 = b.length))
      · have hmt : meetAt a b i k = true := by unfold meetAt; rw [hx, hy]; exact decide_eq_true hm
        have hall : ((List.range a.length).any fun i => (List.range b.length).any fun k => meetAt a b i k) = true := any_true (p := fun i => (List.range b.length).any fun k => meetAt a b i k) hlt (any_true (p := fun k => meetAt a b i k) hlt2 hmt)
        rw [hall]
        clear hK hK2
        repeat' (first | apply (zs1 ?_) | apply (zs2 ?_) | (apply zg1; first | refine zs3 ?_ | refine zs4 ?_) | (apply zg3; refine zs60 ?_) | (apply zg4; refine zs9 ?_) | (apply zg5; refine zs57 ?_) | (apply zg6; first | refine zs11 ?_ | refine zs12 ?_) | (apply zg7; (refine zs15 ?_ ?_ <;> intro _ <;> try (exfalso; omega))) | (apply (zs17 ?_ ?_) <;> intro _ <;> try (exfalso; omega)) | (apply zg14; refine zs31 ?_) | (apply zg20; refine zs48 ?_) | apply (zs65 ?_) | apply (zs66 ?_) | apply (zs68 ?_) | apply (zs69 ?_) | apply (zs70 ?_) | (apply zg27; refine zs71 ?_) | apply (zs73 ?_) | apply (zs74 ?_) | apply (zs76 ?_) | apply (zs77 ?_) | apply (zs78 ?_) | (apply zg28; refine zs83 ?_) | fail)
        all_goals (apply VQ_ret1; exact rfl; exact rfl; exact ⟨rfl, rfl⟩)
      · have hmt : meetAt a b i k = false := by unfold meetAt; rw [hx, hy]; exact decide_eq_false hm
        repeat' (first | apply (zs1 ?_) | apply (zs2 ?_) | (apply zg1; first | refine zs3 ?_ | refine zs4 ?_) | (apply zg3; refine zs60 ?_) | (apply zg4; refine zs9 ?_) | (apply zg5; refine zs57 ?_) | (apply zg6; first | refine zs11 ?_ | refine zs12 ?_) | (apply zg7; (refine zs15 ?_ ?_ <;> intro _ <;> try (exfalso; omega))) | (apply (zs17 ?_ ?_) <;> intro _ <;> try (exfalso; omega)) | (apply zg13; refine zs30 ?_) | (apply zg14; refine zs31 ?_) | (apply zg20; first | refine zs47 ?_ | refine zs48 ?_) | apply (zs65 ?_) | apply (zs66 ?_) | apply (zs68 ?_) | apply (zs69 ?_) | apply (zs70 ?_) | (apply zg27; first | refine zs71 ?_ | refine zs72 ?_) | apply (zs73 ?_) | apply (zs76 ?_) | apply (zs79 ?_) | (apply zg28; refine zs83 ?_) | fail)
        all_goals (
          apply hK2 (k + 1)
          · exact ⟨by omega, any_false2 hkv hmt⟩
          · omega
          · (repeat (first | exact sub_nil _ | (apply sub_cons; first | exact rfl | exact congrArg (fun z : Int => some (Value.int .i64 z)) (by omega))))
          · exact fun w hw => hw)
    · obtain rfl : k = b.length := by omega
      clear hK2
      repeat' (first | apply (zs1 ?_) | apply (zs2 ?_) | (apply zg4; refine zs9 ?_) | (apply (zs17 ?_ ?_) <;> intro _ <;> try (exfalso; omega)) | (apply zg13; refine zs30 ?_) | apply (zs65 ?_) | apply (zs68 ?_) | apply (zs69 ?_) | apply (zs70 ?_) | (apply zg27; refine zs72 ?_) | apply (zs75 ?_) | apply (zs79 ?_) | apply (zs80 ?_) | apply (zs81 ?_) | fail)
      apply hK (i + 1)
      · exact ⟨by omega, any_false2 hiv hkv⟩
      · omega
      · (repeat (first | exact sub_nil _ | (apply sub_cons; first | exact rfl | exact congrArg (fun z : Int => some (Value.int .i64 z)) (by omega))))
      · exact fun w hw => hw
  · obtain rfl : i = a.length := by omega
    clear hK
    rw [hiv]
    repeat' (first | apply (zs1 ?_) | apply (zs2 ?_) | (apply zg4; refine zs9 ?_) | (apply (zs17 ?_ ?_) <;> intro _ <;> try (exfalso; omega)) | apply (zs65 ?_) | apply (zs68 ?_) | apply (zs69 ?_) | apply (zs70 ?_) | (apply zg27; refine zs72 ?_) | apply (zs74 ?_) | apply (zs75 ?_) | apply (zs80 ?_) | apply (zs81 ?_) | fail)
    apply VQ_ret1; exact rfl; exact rfl; exact ⟨rfl, rfl⟩

theorem any_swap {p : Nat → Nat → Bool} {n m : Nat} : ((List.range n).any fun i => (List.range m).any fun k => p i k) = ((List.range m).any fun k => (List.range n).any fun i => p i k) := by
  rw [Bool.eq_iff_iff]
  simp only [List.any_eq_true, List.mem_range]
  constructor
  · rintro ⟨i, hi, k, hk, h⟩; exact ⟨k, hk, i, hi, h⟩
  · rintro ⟨i, hi, k, hk, h⟩; exact ⟨k, hk, i, hi, h⟩
theorem disj_symm (a b : List Int) : disjE a b = disjE b a := by
  unfold disjE
  rw [any_swap]
  have h1 : decide (2 ≤ a.length ∧ 2 ≤ b.length ∧ a ≠ b ∧ a.getD 0 0 = b.getD 0 0 ∧ a.getD (a.length - 1) 0 = b.getD (b.length - 1) 0) = decide (2 ≤ b.length ∧ 2 ≤ a.length ∧ b ≠ a ∧ b.getD 0 0 = a.getD 0 0 ∧ b.getD (b.length - 1) 0 = a.getD (a.length - 1) 0) := by
    rw [decide_eq_decide]
    constructor
    · rintro ⟨q1, q2, q3, q4, q5⟩; exact ⟨q2, q1, Ne.symm q3, q4.symm, q5.symm⟩
    · rintro ⟨q1, q2, q3, q4, q5⟩; exact ⟨q2, q1, Ne.symm q3, q4.symm, q5.symm⟩
  have h2 : ∀ i k, meetAt a b i k = meetAt b a k i := fun i k => by
    unfold meetAt
    rw [decide_eq_decide]
    constructor
    · rintro ⟨q1, q2⟩; exact ⟨q1.symm, fun h => q2 (by omega)⟩
    · rintro ⟨q1, q2⟩; exact ⟨q1.symm, fun h => q2 (by omega)⟩
  rw [h1]
  simp only [h2]

theorem law_disjoint (a b : List Int) (hla : a.length ≤ 9223372036854775807) (hlb : b.length ≤ 9223372036854775807) {A1 A2 : Option Addr} {c1 c2 B : Nat} {w0 : World} {H : List HP} {w : World} (hr1 : Rd B w0 H A1 (a.flatMap numF)) (hr2 : Rd B w0 H A2 (b.flatMap numF)) (hw : St B w0 H w) :
    Calls Try.prog 3 [.slice A1 a.length c1, .slice A2 b.length c2].toArray w (Post B w0 fun v K => v = .bool true ∧ K = H) := by
  refine Calls_of_VC Try.func3 Try.ntmps3 rfl rfl hw ?_
  by_cases hbig : 12 < a.length ∨ 12 < b.length
  · skip
    repeat' (first | ((first | apply VL_callt en10 | apply VL_callq en10); (repeat (first | exact args_nil | (apply args_cons; exact rfl))); exact rfl; exact fun _ hw => (awakeR_spec hw)) | apply (zs1 ?_) | apply (zs2 ?_) | (apply zg1; first | refine zs3 ?_ | refine zs4 ?_) | (apply zg4; refine zs9 ?_) | (apply zg6; first | refine zs11 ?_ | refine zs12 ?_) | (apply (zs19 ?_ ?_) <;> intro _ <;> try (exfalso; omega)) | (apply zg20; refine zs47 ?_) | apply (zs65 ?_) | apply (zs68 ?_) | apply (zs69 ?_) | apply (zs70 ?_) | (apply zg27; first | refine zs71 ?_ | refine zs72 ?_) | apply (zs74 ?_) | apply (zs76 ?_) | apply (zs77 ?_) | fail)
    all_goals (apply VQ_ret1; exact rfl; exact rfl; exact ⟨rfl, rfl⟩)
  · have h1 := fun {w : World} (hw : St B w0 H w) => disjoint_spec a b (by omega) (by omega) (c1 := c1) (c2 := c2) hr1 hr2 hw
    have h2 := fun {w : World} (hw : St B w0 H w) => rdisjoint_spec a b (by omega) (by omega) (c1 := c1) (c2 := c2) hr1 hr2 hw
    have h3 := fun {w : World} (hw : St B w0 H w) => disjoint_spec b a (by omega) (by omega) (c1 := c2) (c2 := c1) hr2 hr1 hw
    rw [← disj_symm a b] at h3
    obtain ⟨x, hx⟩ : ∃ x, disjE a b = x := ⟨_, rfl⟩
    rw [hx] at h1 h2 h3
    repeat' (first | ((first | apply VL_callt en10 | apply VL_callq en10); (repeat (first | exact args_nil | (apply args_cons; exact rfl))); exact rfl; exact fun _ hw => (awakeR_spec hw)) | apply (zs1 ?_) | apply (zs2 ?_) | (apply zg1; refine zs4 ?_) | (apply zg4; refine zs9 ?_) | (apply zg6; refine zs12 ?_) | (apply (zs19 ?_ ?_) <;> intro _ <;> try (exfalso; omega)) | (apply zg20; refine zs47 ?_) | apply (zs65 ?_) | apply (zs68 ?_) | apply (zs69 ?_) | apply (zs70 ?_) | (apply zg27; refine zs72 ?_) | apply (zs76 ?_) | fail)
    first | apply VL_callt en11 | apply VL_callq en11
    (repeat (first | exact args_nil | (apply args_cons; exact rfl)))
    exact rfl
    exact fun _ hw => (h1 hw)
    repeat' (first | apply (zs1 ?_) | fail)
    first | apply VL_callt en12 | apply VL_callq en12
    (repeat (first | exact args_nil | (apply args_cons; exact rfl)))
    exact rfl
    exact fun _ hw => (h2 hw)
    cases x
    all_goals (
      repeat' (first | apply (zs1 ?_) | (apply zg1; refine zs4 ?_) | (apply zg7; refine zs64 ?_) | fail)
      first | apply VL_callt en11 | apply VL_callq en11
      (repeat (first | exact args_nil | (apply args_cons; exact rfl)))
      exact rfl
      exact fun _ hw => (h1 hw)
      repeat' (first | apply (zs1 ?_) | (apply zg1; refine zs4 ?_) | fail)
      first | apply VL_callt en11 | apply VL_callq en11
      (repeat (first | exact args_nil | (apply args_cons; exact rfl)))
      exact rfl
      exact fun _ hw => (h3 hw)
      repeat' (first | apply (zs2 ?_) | (apply zg1; refine zs4 ?_) | (apply zg6; refine zs11 ?_) | (apply zg7; refine zs64 ?_) | apply (zs65 ?_) | apply (zs68 ?_) | apply (zs74 ?_) | fail)
      apply VQ_ret1; exact rfl; exact rfl; exact ⟨rfl, rfl⟩)
end Go.Proofs.Ytleldppdflgmgaa

/- Routes, plain: the loop of pair finds the first route that is in a cheapest pair. -/
namespace Go.Proofs.Ytleldppdflgmgaa
open Go.RowKit Go.Eng Go.Nw Go.Rt

/-! ### The order of lists -/
theorem lex_pre : ∀ (r : List Int) {b c : Int} (p q : List Int), b < c → lexLt (r ++ b :: p) (r ++ c :: q) = true
  | [], b, c, p, q, h => by
    show (if b ≠ c then decide (b < c) else lexLt p q) = true
    rw [if_pos (by omega)]; exact decide_eq_true h
  | x :: r, b, c, p, q, h => by
    show (if x ≠ x then decide (x < x) else lexLt (r ++ b :: p) (r ++ c :: q)) = true
    rw [if_neg (fun h => h rfl)]; exact lex_pre r p q h
theorem lex_asymm : ∀ {a b : List Int}, lexLt a b = true → lexLt b a = false
  | [], [], h => by cases h
  | [], b :: m, _ => rfl
  | a :: l, [], h => by cases h
  | a :: l, b :: m, h => by
    unfold lexLt at h ⊢
    by_cases e : a = b
    · subst e
      rw [if_neg (fun h => h rfl)] at h ⊢
      exact lex_asymm h
    · rw [if_pos e] at h
      rw [if_pos (Ne.symm e)]
      have := of_decide_eq_true h
      exact decide_eq_false (by omega)
theorem walk_sorted {st : Int → Int → Bool} {nodes : Nat} {to : Int} : ∀ (f : Nat) (r : List Int), (walkG st nodes to f r).Pairwise fun a b => lexLt a b = true
  | 0, r => by
    unfold walkG
    split
    · exact List.pairwise_singleton _ _
    · exact .nil
  | f + 1, r => by
    unfold walkG
    split
    · exact List.pairwise_singleton _ _
    · rw [List.pairwise_flatMap]
      refine ⟨fun b _ => ?_, ?_⟩
      · split
        · exact walk_sorted f _
        · exact .nil
      · refine List.Pairwise.imp ?_ (List.pairwise_lt_range (n := nodes))
        intro b c hbc x hx y hy
        split at hx
        · split at hy
          · obtain ⟨p, rfl, _⟩ := walk_mem f _ x hx
            obtain ⟨q, rfl, _⟩ := walk_mem f _ y hy
            rw [List.append_assoc, List.append_assoc]
            exact lex_pre r p q (by omega)
          · cases hy
        · cases hx
theorem first_lex {key : List Int → Int} {l : List (List Int)} {x y : List Int} (h : FirstMin key l x) (hp : l.Pairwise fun a b => lexLt a b = true) (hy : y ∈ l) : key x ≤ key y ∧ (key y = key x → y = x ∨ lexLt x y = true) := by
  refine ⟨h.le hy, fun he => ?_⟩
  obtain ⟨l1, l2, rfl, h1, h2⟩ := h
  rcases List.mem_append.1 hy with hy | hy
  · have := h1 y hy; omega
  · rcases List.mem_cons.1 hy with rfl | hy
    · exact .inl rfl
    · obtain ⟨_, h4, _⟩ := List.pairwise_append.1 hp
      exact .inr ((List.pairwise_cons.1 h4).1 y hy)

/-! ### The scan and the loop -/
structure Ch (L : List Lk) (at_ : Int) (r : List Int) (C : Int → Prop) (st : Int × Int) : Prop where
  pos : 0 ≤ st.1
  ok : C st.1
  arc : (at_, st.1, st.2) ∈ L
  out : st.1 ∉ r
theorem scan_ok {fuel nodes : Nat} {L : List Lk} {t total : Int} {r : List Int} {spent at_ : Int} {C : Int → Prop} (hrest : ∀ a ∈ L, a.1 = at_ → a.2.1 ∉ r → ∃ c, restF fuel nodes L (r ++ [a.2.1]) t = some c ∧ (c.2 = true ∧ spent + a.2.2 + c.1 = total ↔ C a.2.1)) (h0 : ∀ a ∈ L, 0 ≤ a.2.1) : ∀ (m : List Lk), (∀ a ∈ m, a ∈ L) → ∀ st : Int × Int, (st.1 = -1 ∨ Ch L at_ r C st) →
    ∃ st2, pairScan fuel nodes L t total r spent at_ m st = some st2 ∧ (st2.1 = -1 ∨ Ch L at_ r C st2) ∧ (0 ≤ st.1 → 0 ≤ st2.1 ∧ st2.1 ≤ st.1) ∧ ∀ a ∈ m, a.1 = at_ → a.2.1 ∉ r → C a.2.1 → 0 ≤ st2.1 ∧ st2.1 ≤ a.2.1
  | [], _, st, hst => ⟨st, rfl, hst, fun h => ⟨h, Int.le_refl _⟩, fun a ha => absurd ha List.not_mem_nil⟩
  | a :: m, hm, st, hst => by
    have haL := hm a List.mem_cons_self
    have ih := scan_ok hrest h0 m fun b hb => hm b (List.mem_cons_of_mem _ hb)
    by_cases hskip : a.1 ≠ at_ ∨ a.2.1 ∈ r ∨ (0 ≤ st.1 ∧ st.1 < a.2.1)
    · have hs : pairStep fuel nodes L t total r spent at_ st a = some st := by unfold pairStep; rw [if_pos hskip]
      obtain ⟨st2, h1, h2, h3, h4⟩ := ih st hst
      refine ⟨st2, by unfold pairScan; rw [hs]; exact h1, h2, h3, fun b hb e1 e2 e3 => ?_⟩
      rcases List.mem_cons.1 hb with rfl | hb
      · rcases hskip with h | h | h
        · exact absurd e1 h
        · exact absurd h e2
        · have := h3 h.1; omega
      · exact h4 b hb e1 e2 e3
    · have ha1 : a.1 = at_ := Decidable.byContradiction fun h => hskip (.inl h)
      have ha2 : a.2.1 ∉ r := fun h => hskip (.inr (.inl h))
      have ha3 : ¬ (0 ≤ st.1 ∧ st.1 < a.2.1) := fun h => hskip (.inr (.inr h))
      obtain ⟨c, hc, hiff⟩ := hrest a haL ha1 ha2
      have hs : pairStep fuel nodes L t total r spent at_ st a = if c.2 = true ∧ spent + a.2.2 + c.1 = total then some (a.2.1, a.2.2) else some st := by unfold pairStep; rw [if_neg hskip, hc]
      by_cases hf : c.2 = true ∧ spent + a.2.2 + c.1 = total
      · rw [if_pos hf] at hs
        have hch : Ch L at_ r C (a.2.1, a.2.2) := ⟨h0 a haL, hiff.1 hf, by rw [← ha1]; exact haL, ha2⟩
        obtain ⟨st2, h1, h2, h3, h4⟩ := ih (a.2.1, a.2.2) (.inr hch)
        have h5 := h3 hch.pos
        simp only at h5
        refine ⟨st2, by unfold pairScan; rw [hs]; exact h1, h2, fun h => ⟨h5.1, by omega⟩, fun b hb e1 e2 e3 => ?_⟩
        rcases List.mem_cons.1 hb with rfl | hb
        · exact h5
        · exact h4 b hb e1 e2 e3
      · rw [if_neg hf] at hs
        obtain ⟨st2, h1, h2, h3, h4⟩ := ih st hst
        refine ⟨st2, by unfold pairScan; rw [hs]; exact h1, h2, h3, fun b hb e1 e2 e3 => ?_⟩
        rcases List.mem_cons.1 hb with rfl | hb
        · exact absurd (hiff.2 e3) hf
        · exact h4 b hb e1 e2 e3

/-- A route of a pair of some cost. -/
def inB (n : Net) (s t total : Int) (q : List Int) : Prop := ∃ mp, q = rt s t mp ∧ ∃ mq, Two n s t mp mq ∧ key n s t mp + key n s t mq = total
theorem key_pre {n : Net} {s t v : Int} {ms x : List Int} : key n s t (ms ++ v :: x) = keyG (costW n) (s :: ms ++ [v]) + keyG (costW n) (v :: (x ++ [t])) := by
  have := keyG_append (w := costW n) (s :: ms) v (x ++ [t])
  unfold key rt
  rw [← this]
  simp
theorem loop_ok {n : Net} (hok : Ok n) {s t total : Int} (hs : 0 ≤ s ∧ s < n.nodes) (ht : 0 ≤ t ∧ t < n.nodes) (hst : s ≠ t) (hmin : ∀ x y, Two n s t x y → total ≤ key n s t x + key n s t y) : ∀ (k : Nat) (ms : List Int) (spent at_ : Int), (s :: ms).Nodup → lastOf (s :: ms) = at_ → (∀ x ∈ s :: ms, 0 ≤ x ∧ x < n.nodes) → spent = keyG (costW n) (s :: ms) → (∀ p, PathG (goodE n) n.nodes.toNat t at_ p → PathG (goodE n) n.nodes.toNat t s (ms ++ p)) → (at_ ≠ t → t ∉ s :: ms) → n.nodes.toNat + 1 ≤ (s :: ms).length + k → (∃ p, PathG (goodE n) n.nodes.toNat t at_ p ∧ inB n s t total (s :: ms ++ p)) →
    ∃ P, pairLoop 100000 n.nodes.toNat (arcsE n) t total k (s :: ms) spent at_ = some P ∧ inB n s t total P ∧ (∃ p, P = s :: ms ++ p) ∧ ∀ f, ∀ x ∈ walkG (goodE n) n.nodes.toNat t f (s :: ms), inB n s t total x → x = P ∨ lexLt P x = true := by
  have hn0 := hok.n0
  have hn1 := hok.n1
  intro k
  induction k with
  | zero =>
    intro ms spent at_ hnd _ hr _ _ _ hk _
    have := Rt.nodup_len n.nodes.toNat _ hnd fun x hx => by have := hr x hx; omega
    omega
  | succ k ih =>
    intro ms spent at_ hnd hl hr hsp hext hnt hk ⟨p, hp, hin⟩
    by_cases hat : at_ = t
    · subst hat
      obtain rfl : p = [] := by
        cases hp with
        | done => rfl
        | step hu => exact absurd rfl hu
      rw [List.append_nil] at hin
      refine ⟨s :: ms, by unfold pairLoop; rw [if_pos rfl], hin, ⟨[], by simp⟩, fun f x hx _ => ?_⟩
      left
      cases f <;> (unfold walkG at hx; rw [if_pos hl] at hx; exact List.mem_singleton.1 hx)
    · have htr := hnt hat
      obtain ⟨hnd1, hnd2⟩ := List.nodup_cons.1 hnd
      have hsn : ∀ {v : Int}, v ∉ s :: ms → (s :: (ms ++ [v])).Nodup := fun {v} hv => by
        have : (s :: ms ++ [v]).Nodup := List.nodup_append.2 ⟨hnd, by simp, fun a ha b hb => by
          obtain rfl := List.mem_singleton.1 hb
          exact fun e => hv (e ▸ ha)⟩
        exact this
      have hks : ∀ v, keyG (costW n) (s :: ms ++ [v]) = spent + costW n at_ v := fun v => by
        rw [keyG_last (by simp), hl, hsp]; simp [keyG]
      -- what a further node is worth
      have hrest : ∀ a ∈ arcsE n, a.1 = at_ → a.2.1 ∉ s :: ms → ∃ c, restF 100000 n.nodes.toNat (arcsE n) (s :: ms ++ [a.2.1]) t = some c ∧ (c.2 = true ∧ spent + a.2.2 + c.1 = total ↔ ∃ p, PathG (goodE n) n.nodes.toNat t a.2.1 p ∧ inB n s t total (s :: ms ++ a.2.1 :: p)) := by
        rintro ⟨u, v, c0⟩ ha hau hav
        simp only at hau hav ⊢
        subst hau
        obtain ⟨hg, rfl⟩ := ((net0 hok).iff _ _ _).1 ha
        have hvr := (arcs8 hok _ ha).2.1
        simp only at hvr
        have hstep : ∀ p, PathG (goodE n) n.nodes.toNat t v p → PathG (goodE n) n.nodes.toNat t s (ms ++ v :: p) := fun p hp => hext _ (.step hat hg hvr hp)
        by_cases hvt : v = t
        · subst hvt
          have hrt : IsRt n s v ms := ⟨hstep [] .done, hsn hav⟩
          obtain ⟨c, hc, h⟩ := rest_end hok hs ht hrt 100000
          refine ⟨c, hc, ?_⟩
          have hk1 : key n s v ms = spent + costW n u v := hks v
          rcases h with ⟨h1, ⟨mq, h2, h3⟩, h4⟩ | ⟨h1, h2⟩
          · constructor
            · rintro ⟨_, he⟩
              exact ⟨[], .done, ms, rfl, mq, h2, by omega⟩
            · rintro ⟨p, hp, mp, heq, mq2, h5, h6⟩
              obtain rfl : p = [] := by
                cases hp with
                | done => rfl
                | step hu => exact absurd rfl hu
              obtain rfl : ms = mp := rt_inj heq
              have h7 := h4 mq2 h5
              have h8 := hmin _ _ h2
              exact ⟨h1, by omega⟩
          · constructor
            · rintro ⟨h3, _⟩; rw [h1] at h3; cases h3
            · rintro ⟨p, hp, mp, heq, mq2, h5, h6⟩
              obtain rfl : p = [] := by
                cases hp with
                | done => rfl
                | step hu => exact absurd rfl hu
              obtain rfl : ms = mp := rt_inj heq
              exact absurd h5 (h2 mq2)
        · obtain ⟨c, hc, h⟩ := rest_mid hok hs ht (v := v) (ms := ms) ⟨hvr.1, by omega⟩ hst hvt (fun h => htr (List.mem_cons_of_mem _ h)) (hsn hav) hstep
          refine ⟨c, hc, ?_⟩
          have hk1 : ∀ x, key n s t (ms ++ v :: x) = spent + costW n u v + keyG (costW n) (v :: (x ++ [t])) := fun x => by rw [key_pre, hks]
          have hsh : ∀ x, s :: ms ++ v :: (x ++ [t]) = rt s t (ms ++ v :: x) := fun x => by unfold rt; simp
          have hback : ∀ p mp, PathG (goodE n) n.nodes.toNat t v p → s :: ms ++ v :: p = rt s t mp → ∃ x, mp = ms ++ v :: x := fun p mp hp heq => by
            obtain ⟨x, rfl⟩ := path_mids hp hvt
            rw [hsh] at heq
            exact ⟨x, (rt_inj heq).symm⟩
          rcases h with ⟨h1, ⟨x, mq, h2, h3⟩, h4⟩ | ⟨h1, h2⟩
          · constructor
            · rintro ⟨_, he⟩
              have hpath : PathG (goodE n) n.nodes.toNat t v (x ++ [t]) := by
                have := h2.p.path
                unfold PathM at this
                rw [List.append_assoc, List.cons_append] at this
                exact PathG.append this
              refine ⟨x ++ [t], hpath, ms ++ v :: x, hsh x, mq, h2, ?_⟩
              rw [hk1]; omega
            · rintro ⟨p, hp, mp, heq, mq2, h5, h6⟩
              obtain ⟨x2, rfl⟩ := hback p mp hp heq
              have h7 := h4 x2 mq2 h5
              have h8 := hmin _ _ h2
              rw [hk1] at h6 h8
              exact ⟨h1, by omega⟩
          · constructor
            · rintro ⟨h3, _⟩; rw [h1] at h3; cases h3
            · rintro ⟨p, hp, mp, heq, mq2, h5, h6⟩
              obtain ⟨x2, rfl⟩ := hback p mp hp heq
              exact absurd h5 (h2 x2 mq2)
      obtain ⟨st2, g1, g2, _, g4⟩ := scan_ok (C := fun v => ∃ p, PathG (goodE n) n.nodes.toNat t v p ∧ inB n s t total (s :: ms ++ v :: p)) hrest (fun a ha => (arcs8 hok a ha).2.1.1) (arcsE n) (fun a ha => ha) (-1, 0) (.inl rfl)
      -- some node goes on
      have hnode : ∀ {c : Int} {q : List Int}, goodE n at_ c = true → PathG (goodE n) n.nodes.toNat t c q → inB n s t total (s :: ms ++ c :: q) → 0 ≤ st2.1 ∧ st2.1 ≤ c := fun {c q} hg hq hin => by
        have hnin : c ∉ s :: ms := by
          obtain ⟨mp, heq, mq, h2, _⟩ := hin
          have := h2.p.nd
          rw [← heq] at this
          exact fun h => (List.nodup_append.1 this).2.2 c h c List.mem_cons_self rfl
        exact g4 (at_, c, costW n at_ c) (((net0 hok).iff _ _ _).2 ⟨hg, rfl⟩) rfl hnin ⟨q, hq, hin⟩
      have hpos : 0 ≤ st2.1 := by
        cases hp with
        | done => exact absurd rfl hat
        | @step _ v q hu hg hv hq => exact (hnode hg hq hin).1
      rcases g2 with g2 | ⟨g5, ⟨pb, hpb, hinb⟩, garc, gout⟩
      · omega
      · obtain ⟨b, pr⟩ := st2
        simp only at g5 hpb hinb garc gout hpos hnode
        obtain ⟨hg, rfl⟩ := ((net0 hok).iff _ _ _).1 garc
        have hbr := (arcs8 hok _ garc).2.1
        simp only at hbr
        obtain ⟨P, i1, i2, ⟨i3, i4⟩, i5⟩ := ih (ms ++ [b]) (spent + costW n at_ b) b (hsn gout) (by rw [← List.cons_append, last_snoc]) (fun x hx => by
          rw [← List.cons_append] at hx
          rcases List.mem_append.1 hx with h | h
          · exact hr x h
          · obtain rfl := List.mem_singleton.1 h; omega) (by rw [← List.cons_append, hks]) (fun q hq => by
          rw [List.append_assoc]
          exact hext _ (.step hat hg hbr hq)) (fun hbt hm => by
          rw [← List.cons_append] at hm
          rcases List.mem_append.1 hm with h | h
          · exact htr h
          · exact hbt (List.mem_singleton.1 h).symm) (by simp only [List.length_cons, List.length_append, List.length_nil] at hk ⊢; omega) ⟨pb, hpb, by rw [← List.cons_append, List.append_assoc]; exact hinb⟩
        refine ⟨P, ?_, i2, ⟨b :: i3, by rw [i4]; simp⟩, fun f x hx hxin => ?_⟩
        · unfold pairLoop
          rw [if_neg hat, g1]
          dsimp only
          rw [if_neg (by omega)]
          exact i1
        · cases f with
          | zero => unfold walkG at hx; rw [if_neg (by rw [hl]; exact hat)] at hx; cases hx
          | succ f =>
            unfold walkG at hx
            rw [if_neg (by rw [hl]; exact hat), hl] at hx
            obtain ⟨c, hc, hx⟩ := List.mem_flatMap.1 hx
            split at hx
            · rename_i hcc
              obtain ⟨q, hxe, hq⟩ := walk_mem f _ x hx
              rw [last_snoc] at hq
              rw [List.append_assoc, List.singleton_append] at hxe
              have hle := (hnode hcc.1 hq (by rw [← hxe]; exact hxin)).2
              rcases Int.lt_or_eq_of_le hle with h | h
              · right
                rw [i4, hxe, show s :: (ms ++ [b]) ++ i3 = (s :: ms) ++ b :: i3 by simp]
                exact lex_pre (s :: ms) i3 q h
              · refine i5 f x ?_ hxin
                rw [h]; exact hx
            · cases hx
end Go.Proofs.Ytleldppdflgmgaa

/- Routes, plain: Pair, and the reference's search. -/
namespace Go.Proofs.Ytleldppdflgmgaa
open Go.RowKit Go.Eng Go.Nw Go.Rt

def allW (n : Net) (s t : Int) : List (List Int) := walkG (goodE n) n.nodes.toNat t (n.nodes.toNat - 1) [s]
theorem rt_walk {n : Net} (hok : Ok n) {s t : Int} {mp : List Int} (hs : 0 ≤ s ∧ s < n.nodes) (h : IsRt n s t mp) : rt s t mp ∈ allW n s t := by
  have hl := rt_bd hok hs h
  have := walk_all (n.nodes.toNat - 1) [s] (mp ++ [t]) h.path h.nd (by rw [List.length_append, List.length_singleton]; omega)
  exact this
theorem walk_rt {n : Net} {s t : Int} (hst : s ≠ t) {q : List Int} (h : q ∈ allW n s t) : ∃ mp, q = rt s t mp ∧ IsRt n s t mp := by
  obtain ⟨p, rfl, hp⟩ := walk_mem _ _ _ h
  have hnd := walk_nodup _ _ _ (by simp) h
  obtain ⟨mp, rfl⟩ := path_mids hp hst
  exact ⟨mp, rfl, hp, hnd⟩

/-- The cheapest pair, the first one of these. -/
structure Best (n : Net) (s t total : Int) (mp mq : List Int) : Prop where
  two : Two n s t mp mq
  cost : key n s t mp + key n s t mq = total
  least : ∀ x y, Two n s t x y → total ≤ key n s t x + key n s t y
  fst : ∀ x y, Two n s t x y → key n s t x + key n s t y = total → rt s t x = rt s t mp ∨ lexLt (rt s t mp) (rt s t x) = true
  snd : ∀ y, Two n s t mp y → key n s t mp + key n s t y = total → rt s t y = rt s t mq ∨ lexLt (rt s t mq) (rt s t y) = true
theorem pairF_sem {n : Net} (hok : Ok n) {s t : Int} (hs : 0 ≤ s ∧ s < n.nodes) (ht : 0 ≤ t ∧ t < n.nodes) (hst : s ≠ t) : ∃ r, bothF 100000 n.nodes.toNat (arcsE n) s s t (fun _ => false) = some r ∧ ((r.2.1 = true ∧ (∃ L π, BothYes n.nodes.toNat (arcsE n) s s t r.1 (shutB s s t (fun _ => false)) r.2.2 L π) ∧ ∃ mp mq, pairF 100000 n.nodes.toNat (arcsE n) s t = some (some (rt s t mp, rt s t mq)) ∧ Best n s t r.1 mp mq) ∨ (r.2.1 = false ∧ pairF 100000 n.nodes.toNat (arcsE n) s t = some none ∧ ∀ mp mq, ¬ Two n s t mp mq)) := by
  have hn0 := hok.n0
  have hn1 := hok.n1
  obtain ⟨r, hr, h⟩ := total_sem hok hs ht hst
  refine ⟨r, hr, ?_⟩
  unfold pairF
  rw [hr]
  dsimp only
  rcases h with ⟨h1, h2, ⟨mp0, mq0, h3, h4⟩, h5⟩ | ⟨h1, h2⟩
  · refine .inl ⟨h1, h2, ?_⟩
    rw [if_neg (by rw [h1]; decide)]
    obtain ⟨P, l1, ⟨mp, rfl, mq1, l2, l3⟩, _, l4⟩ := loop_ok hok hs ht hst h5 400 [] 0 s (by simp) rfl (fun x hx => by obtain rfl := List.mem_singleton.1 hx; exact hs) rfl (fun p hp => hp) (fun _ hm => hst (List.mem_singleton.1 hm).symm) (by simp only [List.length_singleton]; omega) ⟨mp0 ++ [t], h3.p.path, mp0, rfl, mq0, h3, h4⟩
    rcases other_sem hok hs ht l2.p with ⟨_, mq, k1, k2, k3, k4⟩ | ⟨_, k⟩
    · rw [l1]
      dsimp only
      rw [k2]
      have hle := other_le hok hs ht l2
      have hle2 := h5 _ _ k1
      refine ⟨mp, mq, rfl, k1, by omega, h5, fun x y h6 h7 => ?_, fun y h6 h7 => ?_⟩
      · exact l4 _ (rt s t x) (rt_walk hok hs h6.p) ⟨x, rfl, y, h6, h7⟩
      · have hl := rt_bd hok hs h6.q
        obtain ⟨g1, g2⟩ := (path_avoid l2.p).2 h6
        have hm : rt s t y ∈ walkG (stA n s t mp) n.nodes.toNat t (n.nodes.toNat - 1) [s] := walk_all (n.nodes.toNat - 1) [s] (y ++ [t]) g1 g2 (by rw [List.length_append, List.length_singleton]; omega)
        obtain ⟨_, h8⟩ := first_lex k4 (walk_sorted _ _) hm
        exact h8 (show key n s t y = key n s t mq by omega)
    · exact absurd l2 (k mq1)
  · rw [if_pos h1]
    exact .inr ⟨h1, rfl, h2⟩

/-! ### Costs -/
theorem costTo_cons2 (n : Net) (u : Int) (r : List Int) : ∀ k, costTo n (u :: r) (k + 1) = (lossE n u (r.getD 0 0) + 1) + costTo n r k
  | 0 => by simp [costTo]
  | k + 1 => by
    have := costTo_cons2 n u r k
    rw [costTo, this]
    simp only [costTo, List.getD_cons_succ]
    omega
theorem costE_keyW (n : Net) : ∀ r : List Int, costE n r = keyG (costW n) r
  | [] => rfl
  | [_] => rfl
  | u :: v :: r => by
    have h1 := costE_keyW n (v :: r)
    have h2 := costTo_cons2 n u (v :: r) r.length
    unfold costE at h1 ⊢
    simp only [List.length_cons, Nat.add_sub_cancel] at h1 ⊢
    rw [h2, keyG, ← h1]
    rfl

/-! ### The search over all pairs -/
structure PFin (len : Nat) (D : Nat → Nat → Bool) (S : Nat → Nat → Int) (i0 k0 : Nat) (T : Int) : Prop where
  lt : i0 < k0
  klen : k0 < len
  dis : D i0 k0 = true
  sum : S i0 k0 = T
  min : ∀ i k, i < k → k < len → D i k = true → T ≤ S i k ∧ ((i < i0 ∨ (i = i0 ∧ k < k0)) → T < S i k)
def PRes (len : Nat) (D : Nat → Nat → Bool) (S : Nat → Nat → Int) : Option (Nat × Nat × Int) → Prop
  | none => ∀ i k, i < k → k < len → D i k = false
  | some z => PFin len D S z.1 z.2.1 z.2.2
def stepP (D : Nat → Nat → Bool) (S : Nat → Nat → Int) (i k : Nat) (st : Int × Int × Int) : Int × Int × Int := if D i k = true ∧ (st.1 < 0 ∨ S i k < st.2.2) then ((i : Int), (k : Int), S i k) else st
def PInv (i k : Nat) (st : Int × Int × Int) : Option (Nat × Nat × Int) → Prop
  | none => st = (-1, -1, 0)
  | some z => ((i < z.1 ∨ (i = z.1 ∧ k ≤ z.2.1)) → st.1 < 0 ∨ (0 ≤ st.1 ∧ z.2.2 < st.2.2)) ∧ (¬ (i < z.1 ∨ (i = z.1 ∧ k ≤ z.2.1)) → st = ((z.1 : Int), (z.2.1 : Int), z.2.2))
theorem inv_step {len : Nat} {D : Nat → Nat → Bool} {S : Nat → Nat → Int} {o : Option (Nat × Nat × Int)} (h : PRes len D S o) {i k : Nat} (hik : i < k) (hk : k < len) {st : Int × Int × Int} (hi : PInv i k st o) : PInv i (k + 1) (stepP D S i k st) o := by
  unfold stepP
  cases o with
  | none =>
    rw [if_neg (by rw [h i k hik hk]; intro h; cases h.1)]
    exact hi
  | some z =>
    obtain ⟨i0, k0, T⟩ := z
    obtain ⟨h1, h2, h3, h4, h5⟩ : PFin len D S i0 k0 T := h
    obtain ⟨a1, a2⟩ := hi
    simp only at a1 a2
    have h6 := h5 i k hik hk
    by_cases hbef : i < i0 ∨ (i = i0 ∧ k < k0)
    · have h7 := a1 (by omega)
      refine ⟨fun _ => ?_, fun h => absurd (show i < i0 ∨ (i = i0 ∧ k + 1 ≤ k0) by omega) h⟩
      by_cases hd : D i k = true
      · have h8 := (h6 hd).2 hbef
        by_cases hc : st.1 < 0 ∨ S i k < st.2.2
        · rw [if_pos ⟨hd, hc⟩]
          right
          simp only
          omega
        · rw [if_neg (fun h => hc h.2)]
          exact h7
      · rw [if_neg (fun h => hd h.1)]
        exact h7
    · by_cases he : i = i0 ∧ k = k0
      · obtain ⟨rfl, rfl⟩ := he
        have h7 := a1 (by omega)
        refine ⟨fun h => absurd h (by simp only; omega), fun _ => ?_⟩
        rw [if_pos ⟨h3, by omega⟩, h4]
      · have h7 := a2 (by omega)
        refine ⟨fun h => absurd h (by simp only; omega), fun _ => ?_⟩
        rw [if_neg (fun h => by
          have h8 := (h6 h.1).1
          rw [h7] at h
          simp only at h
          omega), h7]
theorem inv_row {len : Nat} {D : Nat → Nat → Bool} {S : Nat → Nat → Int} {o : Option (Nat × Nat × Int)} (h : PRes len D S o) {i : Nat} {st : Int × Int × Int} (hi : PInv i len st o) : PInv (i + 1) (i + 1 + 1) st o := by
  cases o with
  | none => exact hi
  | some z =>
    obtain ⟨i0, k0, T⟩ := z
    obtain ⟨h1, h2, h3, h4, h5⟩ : PFin len D S i0 k0 T := h
    obtain ⟨a1, a2⟩ := hi
    simp only at a1 a2
    exact ⟨fun h => a1 (by simp only at h; omega), fun h => a2 (by simp only at h; omega)⟩
theorem inv_0 {len : Nat} {D : Nat → Nat → Bool} {S : Nat → Nat → Int} {o : Option (Nat × Nat × Int)} (h : PRes len D S o) : PInv 0 (0 + 1) (-1, -1, 0) o := by
  cases o with
  | none => rfl
  | some z =>
    obtain ⟨i0, k0, T⟩ := z
    obtain ⟨h1, h2, h3, h4, h5⟩ : PFin len D S i0 k0 T := h
    exact ⟨fun _ => .inl (by decide), fun h => absurd (show 0 < i0 ∨ (0 = i0 ∧ 0 + 1 ≤ k0) by omega) h⟩
theorem inv_end {len : Nat} {D : Nat → Nat → Bool} {S : Nat → Nat → Int} {o : Option (Nat × Nat × Int)} (h : PRes len D S o) {st : Int × Int × Int} (hi : PInv len (len + 1) st o) : match o with
    | none => st = (-1, -1, 0)
    | some z => st = ((z.1 : Int), (z.2.1 : Int), z.2.2) := by
  cases o with
  | none => exact hi
  | some z =>
    obtain ⟨i0, k0, T⟩ := z
    obtain ⟨h1, h2, h3, h4, h5⟩ : PFin len D S i0 k0 T := h
    exact hi.2 (by simp only; omega)

def dAt (l : List (List Int)) (i k : Nat) : Bool := disjE (l.getD i []) (l.getD k [])
def sAt (n : Net) (l : List (List Int)) (i k : Nat) : Int := costE n (l.getD i []) + costE n (l.getD k [])
theorem getD_some {l : List (List Int)} {i : Nat} {x : List Int} (h : l[i]? = some x) : l.getD i [] = x := by
  rw [List.getD_eq_getElem?_getD, h]; rfl
theorem some_getD {l : List (List Int)} {i : Nat} (h : i < l.length) : l[i]? = some (l.getD i []) := by
  rw [List.getD_eq_getElem?_getD, List.getElem?_eq_getElem h]; rfl
/-- What the search over all pairs finds. -/
theorem pairs_best {n : Net} (hok : Ok n) {s t : Int} (hs : 0 ≤ s ∧ s < n.nodes) (hst : s ≠ t) {total : Int} {mp mq : List Int} (hb : Best n s t total mp mq) : ∃ i0 k0, (allW n s t)[i0]? = some (rt s t mp) ∧ (allW n s t)[k0]? = some (rt s t mq) ∧ PRes (allW n s t).length (dAt (allW n s t)) (sAt n (allW n s t)) (some (i0, k0, total)) := by
  have hsrt : (allW n s t).Pairwise fun a b => lexLt a b = true := walk_sorted _ _
  have hlt : ∀ {i k : Nat} {x y : List Int}, (allW n s t)[i]? = some x → (allW n s t)[k]? = some y → i < k → lexLt x y = true := fun hx hy hik => by
    obtain ⟨h1, rfl⟩ := List.getElem?_eq_some_iff.1 hx
    obtain ⟨h2, rfl⟩ := List.getElem?_eq_some_iff.1 hy
    exact List.pairwise_iff_getElem.1 hsrt _ _ h1 h2 hik
  have hgt : ∀ {i k : Nat} {x y : List Int}, (allW n s t)[i]? = some x → (allW n s t)[k]? = some y → lexLt x y = true → i < k := fun {i k x y} hx hy hl => by
    rcases Nat.lt_trichotomy i k with h | h | h
    · exact h
    · subst h
      rw [hx] at hy
      obtain rfl := Option.some.inj hy
      rw [lex_self] at hl; cases hl
    · have := hlt hy hx h
      rw [lex_asymm hl] at this; cases this
  obtain ⟨i0, hi0⟩ := List.mem_iff_getElem?.1 (rt_walk hok hs hb.two.p)
  obtain ⟨k0, hk0⟩ := List.mem_iff_getElem?.1 (rt_walk hok hs hb.two.q)
  have hik : i0 < k0 := by
    rcases hb.fst mq mp hb.two.symm (by have := hb.cost; omega) with h | h
    · exact absurd (rt_inj h).symm hb.two.ne
    · exact hgt hi0 hk0 h
  have hkc : ∀ x, costE n (rt s t x) = key n s t x := fun x => costE_keyW n _
  refine ⟨i0, k0, hi0, hk0, hik, (List.getElem?_eq_some_iff.1 hk0).1, ?_, ?_, fun i k hlk hk hd => ?_⟩
  · unfold dAt
    rw [getD_some hi0, getD_some hk0, disj_iff hb.two.p.nd hb.two.q.nd]
    exact ⟨hb.two.ne, hb.two.dis⟩
  · unfold sAt
    rw [getD_some hi0, getD_some hk0, hkc, hkc]
    exact hb.cost
  · have hx := some_getD (l := allW n s t) (i := i) (by omega)
    have hy := some_getD (l := allW n s t) hk
    unfold dAt at hd
    unfold sAt
    obtain ⟨a, ea, ha⟩ := walk_rt hst (List.mem_of_getElem? hx)
    obtain ⟨b, eb, hb2⟩ := walk_rt hst (List.mem_of_getElem? hy)
    rw [ea] at hx hd ⊢
    rw [eb] at hy hd ⊢
    obtain ⟨d1, d2⟩ := (disj_iff ha.nd hb2.nd).1 hd
    have h2 : Two n s t a b := ⟨ha, hb2, d1, d2⟩
    have hle := hb.least a b h2
    rw [hkc, hkc]
    refine ⟨hle, fun hbef => ?_⟩
    rcases Int.lt_or_eq_of_le hle with h | h
    · exact h
    · exfalso
      rcases hbef with hbef | ⟨hbef, hbk⟩
      · have h3 := hlt hx hi0 hbef
        rcases hb.fst a b h2 h.symm with h4 | h4
        · rw [h4, lex_self] at h3; cases h3
        · rw [lex_asymm h4] at h3; cases h3
      · subst hbef
        rw [hi0] at hx
        obtain rfl : mp = a := rt_inj (Option.some.inj hx)
        have h3 := hlt hy hk0 hbk
        rcases hb.snd b h2 h.symm with h4 | h4
        · rw [h4, lex_self] at h3; cases h3
        · rw [lex_asymm h4] at h3; cases h3
theorem pairs_none {n : Net} {s t : Int} (hst : s ≠ t) (hno : ∀ mp mq, ¬ Two n s t mp mq) : PRes (allW n s t).length (dAt (allW n s t)) (sAt n (allW n s t)) none := by
  intro i k hlk hk
  have hx := some_getD (l := allW n s t) (i := i) (by omega)
  have hy := some_getD (l := allW n s t) hk
  obtain ⟨a, ea, ha⟩ := walk_rt hst (List.mem_of_getElem? hx)
  obtain ⟨b, eb, hb2⟩ := walk_rt hst (List.mem_of_getElem? hy)
  unfold dAt
  rw [ea, eb]
  cases hd : disjE (rt s t a) (rt s t b) with
  | false => rfl
  | true =>
    obtain ⟨d1, d2⟩ := (disj_iff ha.nd hb2.nd).1 hd
    exact absurd ⟨ha, hb2, d1, d2⟩ (hno a b)
end Go.Proofs.Ytleldppdflgmgaa

/- Routes, plain: the bound of a potential; what Prove finds. -/
namespace Go.Proofs.Ytleldppdflgmgaa
open Go.RowKit Go.Eng Go.Nw Go.Rt

/-! ### What all edges miss -/
def missE (q : Int → Int) (e : E3) : Int := max 0 (q e.2.1 - q e.1 - e.2.2)
theorem miss_weak {L : List FA} (q : Int → Int) : bal L q - costF L ≤ sumI (missE q) (endsF L) := by
  unfold endsF bal costF
  rw [sumI_map]
  induction L with
  | nil => exact Int.le_refl _
  | cons x L ih =>
    rw [sumI_cons, sumI_cons, sumI_cons]
    unfold missE balG costG at *
    simp only at *
    split <;> omega
theorem miss_tight {L : List FA} {q : Int → Int} (h : PotE (flat2 L) q) : sumI (missE q) (endsF L) = bal L q - costF L := by
  have h1 : ∀ x ∈ L, (x.u = true → 0 ≤ q x.t - q x.f - x.c) ∧ (x.u = false → q x.t - q x.f - x.c ≤ 0) := fun x hx => by
    refine ⟨fun hu => ?_, fun hu => ?_⟩
    · have := h _ (flat2_mem hx).2 (by unfold rev; simp [hu])
      simp only [rev] at this
      omega
    · have := h _ (flat2_mem hx).1 (by unfold fwd; simp [hu])
      simp only [fwd] at this
      omega
  clear h
  unfold endsF bal costF
  rw [sumI_map]
  induction L with
  | nil => rfl
  | cons x L ih =>
    rw [sumI_cons, sumI_cons, sumI_cons, ih fun y hy => h1 y (List.mem_cons_of_mem _ hy)]
    obtain ⟨a1, a0⟩ := h1 x List.mem_cons_self
    unfold missE balG costG
    simp only
    cases hu : x.u with
    | true =>
      have := a1 hu
      simp only [if_pos]
      omega
    | false =>
      have := a0 hu
      simp only [Bool.false_eq_true, if_false]
      omega
theorem sumI_congr {α : Type} {f g : α → Int} : ∀ {l : List α}, (∀ x ∈ l, f x = g x) → sumI f l = sumI g l
  | [], _ => rfl
  | a :: l, h => by rw [sumI_cons, sumI_cons, h a List.mem_cons_self, sumI_congr fun x hx => h x (List.mem_cons_of_mem _ hx)]
theorem miss_sum {nodes : Nat} {l : List Lk} {s t d : Int} {q : Int → Int} {pin pout : List Int} (hl : Arcs8 nodes l) (hi : ∀ v : Int, 0 ≤ v → v < nodes → q (2 * v) = farAt pin v + d ∧ q (2 * v + 1) = farAt pout v + d) : sumI (missE q) (endsF (splitFA nodes l (shutB s s t (fun _ => false)))) = sumI (slackA pin pout) l + sumI (slackN s t pin pout) (List.range nodes) := by
  unfold endsF splitFA
  rw [List.map_append, sumI_append, Int.add_comm]
  congr 1
  · unfold arcFA
    rw [sumI_map, sumI_map]
    refine sumI_congr fun a ha => ?_
    obtain ⟨h1, h2, _⟩ := hl a ha
    have e1 := (hi a.1 h1.1 h1.2).2
    have e2 := (hi a.2.1 h2.1 h2.2).1
    unfold missE slackA
    simp only
    rw [e1, e2]
    congr 1
    omega
  · have : ∀ k, k ≤ nodes → sumI (missE q) ((nodeFA (shutB s s t (fun _ => false)) k).map fun x => (x.f, x.t, x.c)) = sumI (slackN s t pin pout) (List.range k) := by
      intro k
      induction k with
      | zero => intro _; rfl
      | succ k ih =>
        intro hk
        have e := hi (k : Int) (by omega) (by omega)
        unfold nodeFA at ih ⊢
        rw [List.range_succ, List.flatMap_append, List.map_append, sumI_append, sumI_append, ih (by omega)]
        congr 1
        unfold slackN
        rw [List.flatMap_cons, List.flatMap_nil, List.append_nil, sumI_cons, sumI_nil, Int.add_zero]
        by_cases hst : (k : Int) ≠ s ∧ (k : Int) ≠ t
        · have hsh : shutB s s t (fun _ => false) (k : Int) = false := (shut_abt _ _ _ _ _).2 ⟨⟨hst.1, hst.1, hst.2⟩, rfl⟩
          rw [hsh, if_neg (by decide), if_pos hst, List.map_singleton, sumI_cons, sumI_nil, Int.add_zero]
          unfold missE
          simp only
          rw [e.1, e.2]
          congr 1
          omega
        · have hsh : shutB s s t (fun _ => false) (k : Int) = true := by
            unfold shutB
            rw [Bool.or_false]
            exact decide_eq_true (by omega)
          rw [hsh, if_pos rfl, if_neg hst]
          rfl
    exact this nodes (Nat.le_refl _)

/-! ### Bounds -/
theorem bound_is {nodes : Nat} {l : List Lk} {s t d : Int} {q : Int → Int} {pin pout : List Int} (hl : Arcs8 nodes l) (hs : 0 ≤ s ∧ s < nodes) (ht : 0 ≤ t ∧ t < nodes) (hi : ∀ v : Int, 0 ≤ v → v < nodes → q (2 * v) = farAt pin v + d ∧ q (2 * v + 1) = farAt pout v + d) : boundV nodes l s t pin pout = want s s t q - sumI (missE q) (endsF (splitFA nodes l (shutB s s t (fun _ => false)))) := by
  rw [miss_sum hl hi]
  have h1 := (hi s hs.1 hs.2).2
  have h2 := (hi t ht.1 ht.2).1
  unfold boundV want
  omega
/-- No bound is more than the least cost. -/
theorem bound_le {nodes : Nat} {l : List Lk} {s t x : Int} {es : List Ed} {L : List FA} {π : Int → Int} (h : BothYes nodes l s s t x (shutB s s t (fun _ => false)) es L π) (hl : Arcs8 nodes l) (hs : 0 ≤ s ∧ s < nodes) (ht : 0 ≤ t ∧ t < nodes) (pin pout : List Int) : boundV nodes l s t pin pout ≤ x := by
  have hi : ∀ v : Int, 0 ≤ v → v < nodes → (fun y : Int => if y % 2 = 0 then farAt pin (y / 2) else farAt pout (y / 2)) (2 * v) = farAt pin v + 0 ∧ (fun y : Int => if y % 2 = 0 then farAt pin (y / 2) else farAt pout (y / 2)) (2 * v + 1) = farAt pout v + 0 := fun v _ _ => by
    simp only
    rw [if_pos (by omega), if_neg (by omega), show 2 * v / 2 = v by omega, show (2 * v + 1) / 2 = v by omega]
    omega
  rw [bound_is (q := fun y : Int => if y % 2 = 0 then farAt pin (y / 2) else farAt pout (y / 2)) (d := 0) hl hs ht hi, ← h.ends]
  have := miss_weak (L := L) (fun y : Int => if y % 2 = 0 then farAt pin (y / 2) else farAt pout (y / 2))
  rw [h.bal_, h.cost] at this
  omega
theorem minL_le : ∀ {l : List Int} {x : Int}, x ∈ l → minL l ≤ x := by
  have hf : ∀ (l : List Int) (a : Int), l.foldl min a ≤ a ∧ ∀ x ∈ l, l.foldl min a ≤ x := by
    intro l
    induction l with
    | nil => exact fun a => ⟨Int.le_refl _, fun x hx => absurd hx List.not_mem_nil⟩
    | cons b l ih =>
      intro a
      rw [List.foldl_cons]
      obtain ⟨h1, h2⟩ := ih (min a b)
      refine ⟨by omega, fun x hx => ?_⟩
      rcases List.mem_cons.1 hx with rfl | hx
      · omega
      · exact h2 x hx
  intro l x hx
  cases l with
  | nil => cases hx
  | cons a l =>
    obtain ⟨h1, h2⟩ := hf l a
    show l.foldl min a ≤ x
    rcases List.mem_cons.1 hx with rfl | hx
    · exact h1
    · exact h2 x hx
theorem potIn_at {nodes : Nat} {far : List Int} {v : Int} (h0 : 0 ≤ v) (h1 : v < nodes) : farAt (potIn nodes far) v = farAt far (2 * v) - minL far := by
  unfold potIn
  conv => lhs; unfold farAt
  rw [List.getD_eq_getElem?_getD, List.getElem?_map, List.getElem?_range (by omega)]
  simp only [Option.map_some, Option.getD_some]
  rw [show ((v.toNat : Nat) : Int) = v by omega]
  rfl
theorem potOut_at {nodes : Nat} {far : List Int} {v : Int} (h0 : 0 ≤ v) (h1 : v < nodes) : farAt (potOut nodes far) v = farAt far (2 * v + 1) - minL far := by
  unfold potOut
  conv => lhs; unfold farAt
  rw [List.getD_eq_getElem?_getD, List.getElem?_map, List.getElem?_range (by omega)]
  simp only [Option.map_some, Option.getD_some]
  rw [show ((v.toNat : Nat) : Int) = v by omega]
  rfl
theorem rep0_at (k : Nat) (v : Int) : farAt (List.replicate k (0 : Int)) v = 0 := by
  unfold farAt
  rw [List.getD_eq_getElem?_getD, List.getElem?_replicate]
  split <;> rfl
/-- The potential that Prove finds, and its bound. -/
theorem prove_sem {nodes : Nat} {l : List Lk} {s t x : Int} {es : List Ed} {L : List FA} {π : Int → Int} (hn : 1 ≤ nodes ∧ nodes ≤ 24) (h : BothYes nodes l s s t x (shutB s s t (fun _ => false)) es L π) (hl : Arcs8 nodes l) (hs : 0 ≤ s ∧ s < nodes) (ht : 0 ≤ t ∧ t < nodes) :
    ∃ fb, relaxF 100000 es (List.replicate (2 * nodes) 0) (List.replicate (2 * nodes) (-1)) = some fb ∧ (∀ y ∈ potIn nodes fb.1 ++ potOut nodes fb.1, 0 ≤ y ∧ y ≤ 1048576) ∧ boundV nodes l s t (potIn nodes fb.1) (potOut nodes fb.1) = x := by
  have hnc := noneC_eq
  have hes : Ed8 (2 * nodes) es := by
    rw [h.es]
    refine ed8_of fun e he => ?_
    rw [h.ends] at he
    have := split_ends8 hl e he
    omega
  have hp : PotE es fun v => π v - 64 * (nodes : Int) := by
    intro e he hr
    rw [h.es] at he
    have := h.pot e he hr
    simp only; omega
  have hG : RelG (2 * nodes) (fun v => π v - 64 * (nodes : Int)) (List.replicate (2 * nodes) 0, List.replicate (2 * nodes) (-1), false) := by
    refine ⟨List.length_replicate, List.length_replicate, fun v h0 h1 => ?_, fun v h0 h1 => ?_, fun v h0 h1 => ?_⟩
    · have := h.bd v h0 h1
      simp only; rw [rep0_at]; omega
    · intro _; simp only; rw [rep0_at]; omega
    · simp only; rw [rep0_at]; omega
  have hmes : mes (2 * nodes) (-(80 * (nodes : Int))) (List.replicate (2 * nodes) 0) < 100000 := by
    unfold mes
    have h1 : ∀ k : Nat, sumW (clipW (2 * nodes) (-(80 * (nodes : Int)))) (List.replicate k 0) = k * (80 * nodes) := by
      intro k
      induction k with
      | zero => simp [sumW]
      | succ k ih =>
        have : clipW (2 * nodes) (-(80 * (nodes : Int))) 0 = 80 * nodes := by unfold clipW; omega
        unfold sumW at ih ⊢
        rw [List.replicate_succ, List.map_cons, List.sum_cons, ih, this, Nat.add_mul k 1, Nat.one_mul, Nat.add_comm]
    rw [h1]
    have : 2 * nodes * (80 * nodes) ≤ 48 * 1920 := Nat.mul_le_mul (by omega) (by omega)
    omega
  obtain ⟨⟨far, by_⟩, hrel, ⟨l1, l2, hlo, hhi, htop⟩, hI, hcl⟩ := relax_end (L := -(80 * (nodes : Int))) (by omega) hes hp (fun v h0 h1 => by have := h.bd v h0 h1; omega) (fun far _ => ∀ v : Int, 0 ≤ v → v < (2 * nodes : Nat) → farAt far v ≤ 0) (fun i e st hi hG h0 => by
    have he := hes e (List.mem_of_getElem? hi)
    intro v v0 v1
    unfold relStep
    split
    · rename_i hc
      by_cases hv : v = e.t
      · have h9 := h0 e.t he.2.1.1 he.2.1.2
        have hl9 := hG.l1
        obtain ⟨_, _, c3⟩ := hc
        simp only
        rw [hv, farAt_self (by omega)]
        omega
      · simp only
        rw [farAt_ne (by omega)]
        exact h0 v v0 v1
    · exact h0 v v0 v1) 100000 _ _ hG (fun v _ _ => by rw [rep0_at]; exact Int.le_refl _) hmes
  simp only at l1 l2 hlo hhi htop hI hcl
  refine ⟨(far, by_), hrel, ?_, ?_⟩
  · have hmin := minL_mem (l := far) (by omega)
    obtain ⟨u, u0, u1, hu⟩ := far_mem hmin
    have h1 := hlo u u0 (by omega)
    have h2 := h.bd u u0 (by omega)
    have hbd : ∀ v : Int, 0 ≤ v → v < (2 * nodes : Nat) → 0 ≤ farAt far v - minL far ∧ farAt far v - minL far ≤ 1048576 := fun v v0 v1 => by
      have h3 := hI v v0 v1
      have h4 := minL_le (l := far) (x := farAt far v) (List.mem_of_getElem? (farAt_get (far := far) (i := v) (by omega)))
      omega
    intro y hy
    simp only at hy
    rcases List.mem_append.1 hy with hy | hy
    · obtain ⟨v, hv, rfl⟩ := List.mem_map.1 hy
      have := List.mem_range.1 hv
      exact hbd _ (by omega) (by omega)
    · obtain ⟨v, hv, rfl⟩ := List.mem_map.1 hy
      have := List.mem_range.1 hv
      exact hbd _ (by omega) (by omega)
  · have hpot : PotE (flat2 L) (farAt far) := by
      rw [← h.es]
      intro e he hr
      have h1 := hcl e he
      obtain ⟨e1, e2, e3⟩ := hes e he
      have h2 := hI e.f e1.1 e1.2
      rcases Int.lt_or_le (farAt far e.f + e.c) (farAt far e.t) with h3 | h3
      · exact absurd ⟨hr, by omega, h3⟩ h1
      · exact h3
    have hi : ∀ v : Int, 0 ≤ v → v < nodes → farAt far (2 * v) = farAt (potIn nodes far) v + minL far ∧ farAt far (2 * v + 1) = farAt (potOut nodes far) v + minL far := fun v v0 v1 => by
      rw [potIn_at v0 v1, potOut_at v0 v1]
      omega
    rw [bound_is (q := farAt far) hl hs ht hi, ← h.ends, miss_tight hpot, h.bal_, h.cost]
    omega
end Go.Proofs.Ytleldppdflgmgaa

/- Routes, plain: lists without a fault are routes; the laws RouteProves and RouteBelow. -/
namespace Go.Proofs.Ytleldppdflgmgaa
open Go.RowKit Go.Eng Go.Nw Go.Rt

theorem twice_nodup {r : List Int} : twiceE r = false ↔ r.Nodup := by
  unfold twiceE
  rw [List.any_eq_false]
  constructor
  · intro h
    refine List.pairwise_iff_getElem.2 fun i j hi hj hij e => ?_
    have h1 := h j (List.mem_range.2 hj)
    apply h1
    rw [List.contains_iff_mem, List.getD_eq_getElem?_getD, List.getElem?_eq_getElem hj, Option.getD_some, ← e]
    refine List.mem_iff_getElem?.2 ⟨i, ?_⟩
    rw [List.getElem?_take_of_lt hij, List.getElem?_eq_getElem hi]
  · intro h i hi hc
    have hi := List.mem_range.1 hi
    rw [List.contains_iff_mem, List.getD_eq_getElem?_getD, List.getElem?_eq_getElem hi, Option.getD_some] at hc
    obtain ⟨k, hk⟩ := List.mem_iff_getElem?.1 hc
    have hki : k < i := by
      have := (List.getElem?_eq_some_iff.1 hk).1
      rw [List.length_take] at this
      omega
    rw [List.getElem?_take_of_lt hki] at hk
    obtain ⟨h1, h2⟩ := List.getElem?_eq_some_iff.1 hk
    exact List.pairwise_iff_getElem.1 h k i h1 hi hki h2
theorem rt_lastD (s t : Int) (mp : List Int) : (rt s t mp).getD ((rt s t mp).length - 1) 0 = t := rt_last s t mp
theorem rt_fault {n : Net} (hok : Ok n) {s t : Int} (hs : 0 ≤ s ∧ s < n.nodes) {mp : List Int} (h : IsRt n s t mp) (h8 : n.nodes ≤ 8) : faultE n s t (rt s t mp) = 0 := by
  have hl := rt_bd hok hs h
  have hn0 := hok.n0
  have hlen := rt_len s t mp
  unfold faultE
  rw [if_neg (by omega), if_neg (by omega), if_neg, if_neg, if_neg, if_neg]
  · unfold brokenE
    rw [Bool.not_eq_true, List.any_eq_false]
    intro i hi
    have hi := List.mem_range.1 hi
    have := path_good h.path i (by rw [List.length_append, List.length_singleton]; omega)
    show ¬ (!goodE n ((s :: (mp ++ [t])).getD i 0) ((s :: (mp ++ [t])).getD (i + 1) 0)) = true
    rw [this]; simp
  · rw [Bool.not_eq_true]
    exact twice_nodup.2 h.nd
  · rintro (h1 | h1)
    · exact h1 rfl
    · exact h1 (rt_lastD s t mp)
  · rw [Bool.not_eq_true, List.any_eq_false]
    intro x hx
    have : 0 ≤ x ∧ x < n.nodes := by
      unfold rt at hx
      rcases List.mem_cons.1 hx with rfl | hx
      · exact hs
      · have := path_mem h.path x hx; omega
    unfold offE
    rw [decide_eq_true_eq]
    omega
theorem path_build {n : Net} {nodes : Nat} {t : Int} : ∀ (r : List Int) (u : Int), (u :: r).Nodup → (∀ i, i < r.length → goodE n ((u :: r).getD i 0) ((u :: r).getD (i + 1) 0) = true) → (u :: r).getD r.length 0 = t → (∀ x ∈ r, 0 ≤ x ∧ x < nodes) → PathG (goodE n) nodes t u r
  | [], u, _, _, h, _ => by
    have : u = t := h
    subst this; exact .done
  | v :: r, u, hnd, hg, hl, hr => by
    obtain ⟨h1, h2⟩ := List.nodup_cons.1 hnd
    have hl2 : (v :: r).getD r.length 0 = t := hl
    have htm : t ∈ v :: r := by
      rw [← hl2, List.getD_eq_getElem?_getD, List.getElem?_eq_getElem (by simp)]
      exact List.getElem_mem _
    exact .step (fun e => h1 (e ▸ htm)) (hg 0 (by simp)) (hr v List.mem_cons_self) (path_build r v h2 (fun i hi => hg (i + 1) (by simpa using hi)) hl2 fun x hx => hr x (List.mem_cons_of_mem _ hx))
theorem fault_rt {n : Net} {s t : Int} {r : List Int} (hn0 : 0 ≤ n.nodes) (h : faultE n s t r = 0) : (0 ≤ s ∧ s < n.nodes) ∧ (0 ≤ t ∧ t < n.nodes) ∧ s ≠ t ∧ ∃ mp, r = rt s t mp ∧ IsRt n s t mp := by
  obtain ⟨⟨h1, h2⟩, h3, ⟨h4, h5⟩, h6, h7⟩ := fault_ok h
  have hnd := twice_nodup.1 h6
  have hoff : ∀ x ∈ r, 0 ≤ x ∧ x < n.nodes := fun x hx => by
    have := List.any_eq_false.1 h3 x hx
    unfold offE at this
    rw [decide_eq_true_eq] at this
    omega
  cases r with
  | nil => simp at h1
  | cons a r =>
    obtain rfl : a = s := h4
    rcases List.eq_nil_or_concat r with rfl | ⟨mp, t', rfl⟩
    · simp at h1
    · rw [List.concat_eq_append] at *
      have hlast : t' = t := by
        rw [← h5]
        exact (rt_lastD a t' mp).symm
      subst hlast
      have hrt : IsRt n a t' mp := ⟨path_build (mp ++ [t']) a hnd (fun i hi => broken_good h7 (by simpa using hi)) (by
        have := rt_lastD a t' mp
        rw [rt_len] at this
        rw [List.length_append, List.length_singleton]
        exact this) (fun x hx => by have := hoff x (List.mem_cons_of_mem _ hx); omega), hnd⟩
      exact ⟨hoff a List.mem_cons_self, hoff t' (by simp), (rt_nd hnd).1, mp, rfl, hrt⟩
theorem cost_ok {n : Net} {r : List Int} (hck : checkE n = 0) {s t : Int} {mp : List Int} (hr : r = rt s t mp) (h : faultE n s t r = 0) : CostE n r = (costE n r, 0) := by
  unfold CostE
  rw [if_neg (fun e => e hck)]
  have e1 : r.getD 0 0 = s := by rw [hr]; rfl
  have e2 : r.getD (r.length - 1) 0 = t := by rw [hr]; exact rt_lastD s t mp
  simp only [e1, e2, h]
  rfl

/-- Pairs and proofs. -/
theorem proves_sem (n : Net) (s t : Int) (h8 : endsE n s t = 0 → n.nodes ≤ 8) : ∃ r1 r2, PairE 100000 n s t = some r1 ∧ proveE 100000 n s t = some r2 ∧ ((r1.1 = none ∧ r1.2 ≠ 0 ∧ r2 = (([], []), r1.2)) ∨ (∃ p q, r1 = (some (p, q), 0) ∧ r2.2 = 0 ∧ disjE p q = true ∧ lexLt q p = false ∧ CheckR n s t p = 0 ∧ CheckR n s t q = 0 ∧ CostE n p = (costE n p, 0) ∧ CostE n q = (costE n q, 0) ∧ (0 ≤ costE n p ∧ costE n p ≤ 10000) ∧ (0 ≤ costE n q ∧ costE n q ≤ 10000) ∧ boundE n s t r2.1.1 r2.1.2 = (costE n p + costE n q, 0))) := by
  unfold PairE proveE
  by_cases he : endsE n s t = 0
  rotate_left
  · rw [if_pos he, if_pos he]
    exact ⟨_, _, rfl, rfl, .inl ⟨rfl, he, rfl⟩⟩
  rw [if_neg (fun h => h he), if_neg (fun h => h he)]
  obtain ⟨hck, hs, ht, hst⟩ := ends_ok he
  have hok := check_ok hck
  have hn0 := hok.n0
  have hn8 := h8 he
  obtain ⟨r, hr, h⟩ := pairF_sem hok hs ht hst
  rw [hr]
  rcases h with ⟨h1, ⟨L, π, hY⟩, mp, mq, h2, hb⟩ | ⟨h1, h2, _⟩
  · rw [h2]
    dsimp only
    have l1 := rt_bd hok hs hb.two.p
    have l2 := rt_bd hok hs hb.two.q
    have e1 := rt_len s t mp
    have e2 := rt_len s t mq
    rw [if_neg (show ¬ (9 < (rt s t mp).length ∨ 9 < (rt s t mq).length) by omega), if_neg (show ¬ r.2.1 = false by rw [h1]; decide)]
    obtain ⟨fb, k1, k2, k3⟩ := prove_sem (nodes := n.nodes.toNat) ⟨by omega, by omega⟩ hY (arcs8 hok) ⟨hs.1, by omega⟩ ⟨ht.1, by omega⟩
    rw [k1]
    refine ⟨_, _, rfl, rfl, .inr ⟨rt s t mp, rt s t mq, rfl, rfl, ?_⟩⟩
    have f1 := rt_fault hok hs hb.two.p hn8
    have f2 := rt_fault hok hs hb.two.q hn8
    have c1 := costE_keyW n (rt s t mp)
    have c2 := costE_keyW n (rt s t mq)
    have hpos : ∀ {ms : List Int}, IsRt n s t ms → 0 ≤ costE n (rt s t ms) ∧ costE n (rt s t ms) ≤ 10000 := fun {ms} h => by
      have l := rt_bd hok hs h
      have := path_key (net0 hok).pos h.path
      rw [List.length_append, List.length_singleton] at this
      rw [costE_keyW]
      unfold rt
      omega
    refine ⟨(disj_iff hb.two.p.nd hb.two.q.nd).2 ⟨hb.two.ne, hb.two.dis⟩, ?_, ?_, ?_, cost_ok hck rfl f1, cost_ok hck rfl f2, hpos hb.two.p, hpos hb.two.q, ?_⟩
    · rcases hb.fst mq mp hb.two.symm (by have := hb.cost; omega) with h | h
      · exact absurd (rt_inj h).symm hb.two.ne
      · exact lex_asymm h
    · unfold CheckR; rw [if_neg (fun h => h he)]; exact f1
    · unfold CheckR; rw [if_neg (fun h => h he)]; exact f2
    · unfold boundE
      rw [if_neg (fun h => h he), if_neg, if_neg]
      · dsimp only
        rw [k3, c1, c2, ← hb.cost]; rfl
      · rw [Bool.not_eq_true, List.any_eq_false]
        intro y hy
        have := k2 y hy
        unfold bigB
        rw [decide_eq_true_eq]
        omega
      · dsimp only
        unfold potIn potOut
        rw [List.length_map, List.length_map, List.length_range]
        omega
  · rw [h2]
    dsimp only
    rw [if_pos h1]
    exact ⟨_, _, rfl, rfl, .inl ⟨rfl, by decide, rfl⟩⟩

/-- What is below what. -/
theorem below_sem (n : Net) (a b pin pout : List Int) (ha : (CostE n a).2 = 0) (hb : (CostE n b).2 = 0) (hd : disjE a b = true) (h8 : checkE n = 0 → n.nodes ≤ 8) (hdi : endsE n (a.getD 0 0) (a.getD (a.length - 1) 0) = 0 → Dist n.nodes.toNat ((arcsE n).map dear) (a.getD (a.length - 1) 0) (distC n.nodes.toNat ((arcsE n).map dear) (a.getD (a.length - 1) 0))) :
    2 ≤ a.length ∧ ∃ r p q, shortE n (a.getD 0 0) (a.getD (a.length - 1) 0) = (r, 0) ∧ CostE n r = (costE n r, 0) ∧ PairE 100000 n (a.getD 0 0) (a.getD (a.length - 1) 0) = some (some (p, q), 0) ∧ CostE n p = (costE n p, 0) ∧ CostE n q = (costE n q, 0) ∧ costE n r ≤ (CostE n a).1 ∧ costE n r ≤ (CostE n b).1 ∧ costE n p + costE n q ≤ (CostE n a).1 + (CostE n b).1 ∧ 2 * costE n r ≤ costE n p + costE n q ∧ (0 ≤ costE n r ∧ costE n p ≤ 10000 ∧ costE n q ≤ 10000 ∧ (CostE n a).1 ≤ 10000 ∧ (CostE n b).1 ≤ 10000) ∧ ((boundE n (a.getD 0 0) (a.getD (a.length - 1) 0) pin pout).2 = 0 → (boundE n (a.getD 0 0) (a.getD (a.length - 1) 0) pin pout).1 ≤ costE n p + costE n q) := by
  have hck : checkE n = 0 := by
    unfold CostE at ha
    split at ha
    · cases ha
    · rename_i h; exact Decidable.byContradiction h
  have hok := check_ok hck
  have hn0 := hok.n0
  have hn8 := h8 hck
  have hf : ∀ {c : List Int}, (CostE n c).2 = 0 → faultE n (c.getD 0 0) (c.getD (c.length - 1) 0) c = 0 := fun {c} hc => by
    unfold CostE at hc
    rw [if_neg (fun h => h hck)] at hc
    dsimp only at hc
    split at hc
    · exact hc
    · rename_i h; exact Decidable.byContradiction h
  have fa := hf ha
  have fb := hf hb
  have hd2 := hd
  unfold disjE at hd2
  have hd3 := of_decide_eq_true (and_left_ hd2)
  obtain ⟨hla, hlb, hne, h0, h1⟩ := hd3
  rw [← h0, ← h1] at fb
  obtain ⟨s, hse⟩ : ∃ s, a.getD 0 0 = s := ⟨_, rfl⟩
  obtain ⟨t, hte⟩ : ∃ t, a.getD (a.length - 1) 0 = t := ⟨_, rfl⟩
  rw [hse, hte] at fa fb hdi ⊢
  obtain ⟨hs, ht, hst, ma, ra, hra⟩ := fault_rt (by omega) fa
  obtain ⟨_, _, _, mb, rb, hrb⟩ := fault_rt (by omega) fb
  have ca := cost_ok hck ra fa
  have cb := cost_ok hck rb fb
  rw [ca, cb]
  rw [ra, rb] at hd
  obtain ⟨d1, d2⟩ := (disj_iff hra.nd hrb.nd).1 hd
  have htwo : Two n s t ma mb := ⟨hra, hrb, d1, d2⟩
  have he : endsE n s t = 0 := by
    unfold endsE
    rw [if_neg (fun h => h hck), if_neg]
    rintro (h | h | h)
    · unfold offE at h; have := of_decide_eq_true h; omega
    · unfold offE at h; have := of_decide_eq_true h; omega
    · exact hst h
  have hkc : ∀ x, costE n (rt s t x) = key n s t x := fun x => costE_keyW n _
  have hpos : ∀ {ms : List Int}, IsRt n s t ms → 0 ≤ costE n (rt s t ms) ∧ costE n (rt s t ms) ≤ 10000 := fun {ms} h => by
    have l := rt_bd hok hs h
    have := path_key (net0 hok).pos h.path
    rw [List.length_append, List.length_singleton] at this
    rw [costE_keyW]
    unfold rt
    omega
  -- the pair
  obtain ⟨r0, hr0, h⟩ := pairF_sem hok hs ht hst
  rcases h with ⟨_, ⟨L, π, hY⟩, mp, mq, h2, hbst⟩ | ⟨_, _, hno⟩
  rotate_left
  · exact absurd htwo (hno _ _)
  have l1 := rt_bd hok hs hbst.two.p
  have l2 := rt_bd hok hs hbst.two.q
  have e1 := rt_len s t mp
  have e2 := rt_len s t mq
  have hpe : PairE 100000 n s t = some (some (rt s t mp, rt s t mq), 0) := by
    unfold PairE
    rw [if_neg (fun h => h he), h2]
    dsimp only
    rw [if_neg (by omega)]
  -- the shortest
  have hdd := hdi he
  have hmin : ∀ {ms : List Int}, IsRt n s t ms → shortR n s t ≠ [] ∧ ∃ mr, shortR n s t = rt s t mr ∧ IsRt n s t mr ∧ costE n (shortR n s t) ≤ costE n (rt s t ms) := fun {ms} h => by
    have hm : rt s t ms ∈ allE n s t := rt_walk hok hs h
    rcases all_short hok hs ht hdd with ⟨_, k2⟩ | ⟨k1, k2⟩
    · rw [k2] at hm; cases hm
    · obtain ⟨mr, k3, k4⟩ := walk_rt hst (show shortR n s t ∈ allW n s t from k2.mem)
      refine ⟨k1, mr, k3, k4, ?_⟩
      have k5 := k2.le hm
      rw [dear_key _ _ k1, dear_key _ _ (by unfold rt; simp)] at k5
      have l3 := rt_bd hok hs k4
      have l4 := rt_bd hok hs h
      rw [k3] at k5 ⊢
      rw [rt_len, rt_len] at k5
      omega
  obtain ⟨k1, mr, k3, k4, k5⟩ := hmin hra
  obtain ⟨_, _, _, _, k6⟩ := hmin hrb
  obtain ⟨_, _, _, _, k7⟩ := hmin hbst.two.p
  obtain ⟨_, _, _, _, k8⟩ := hmin hbst.two.q
  have l3 := rt_bd hok hs k4
  have e3 := rt_len s t mr
  have hle := hbst.least _ _ htwo
  have hco := hbst.cost
  rw [k3] at k5 k6 k7 k8
  rw [hkc] at k5 k6 k7 k8
  have p1 := hpos hra
  have p2 := hpos hrb
  have p3 := hpos hbst.two.p
  have p4 := hpos hbst.two.q
  have p5 := hpos k4
  have f1 := rt_fault hok hs hbst.two.p hn8
  have f2 := rt_fault hok hs hbst.two.q hn8
  have f3 := rt_fault hok hs k4 hn8
  refine ⟨hla, rt s t mr, rt s t mp, rt s t mq, ?_, cost_ok hck rfl f3, hpe, cost_ok hck rfl f1, cost_ok hck rfl f2, ?_⟩
  · unfold shortE
    rw [if_neg (fun h => h he), if_neg k1, if_neg (by rw [k3]; omega), k3]
  · simp only
    rw [ra, rb]
    rw [hkc] at p1 p2 p3 p4 p5
    rw [hkc, hkc, hkc, hkc, hkc]
    rw [hkc] at k5 k6 k7 k8
    refine ⟨k5, k6, by omega, by omega, ⟨by omega, by omega, by omega, by omega, by omega⟩, ?_⟩
    unfold boundE
    rw [if_neg (fun h => h he)]
    split
    · intro h; cases h
    · split
      · intro h; cases h
      · intro _
        have := bound_le hY (arcs8 hok) ⟨hs.1, by omega⟩ ⟨ht.1, by omega⟩ pin pout
        simp only
        omega
end Go.Proofs.Ytleldppdflgmgaa
