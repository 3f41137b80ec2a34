/- The law ScheduleAgain returns true at every input, and its arguments read behind the call as they read before: the statement Rows.ScheduleAgainCardSaid. Condition: the listed package-level variables start as the program's text lays them, to which the card ties them. -/
import Derived.Test.YtnkpfpgmbpnbgaaGreatDoorRows
import Derived.Lib.LaidU8
import Derived.LaidMore
import Derived.Deep.DeepLaidRun
import Derived.Stop.Joined
import Derived.Test.YtnkpfpgmbpnbgaaGreatDoorCards
import Derived.Test.YtnkpfpgmbpnbgaaGreatDoorTie
import Derived.SevenTiedAt
import Derived.Test.YtnkpfpgmbpnbgaaGreatDoorQ3

/- Walks: conflict.Disturbance. -/
namespace Go.Proofs.YtnkpfpgmbpnbgaaGreatDoor
open Go.RowKit Go.Eng Go.Nw

theorem cnode_spec (n : NetM) (v : Int) {B : Nat} {w0 : World} {H : List HP} {w : World} (hw : St B w0 H w) :
    Calls Tryz.prog 123 [n.val, .int .i64 v].toArray w (Post B w0 fun u K => u = .bool (insE v n.net.nodes) ∧ K = H) := by
  have e1 : n.net.nodes = n.nodes := rfl
  refine Calls_of_VC Tryz.func123 Tryz.ntmps123 rfl rfl hw ?_
  repeat' (first | apply (zs1 ?_) | apply (zs2 ?_) | (apply zg1; first | refine zs3 ?_ | refine zs4 ?_) | (apply zg2; refine zs6 ?_) | (apply zg3; refine zs7 ?_) | (apply zg6; first | refine zs11 ?_ | refine zs12 ?_) | (apply (zs17 ?_ ?_) <;> intro _ <;> try (exfalso; omega)) | (apply (zs20 ?_ ?_) <;> intro _ <;> try (exfalso; omega)) | (apply zg23; (refine zs52 ?_; intro _)) | apply (zs65 ?_) | apply (zs68 ?_) | apply (zs69 ?_) | apply (zs70 ?_) | apply (zs74 ?_) | fail)
  all_goals (
    apply VQ_st H
    · (intro w hw; refine hw.perm ?_; focus repeat (first | with_reducible exact Perm.refl _ | (with_reducible apply perm_take; focus ((repeat (first | with_reducible exact rem_here | with_reducible apply rem_there)); done)) | with_reducible apply Perm.dropK))
    apply VQ_ret1; exact rfl; exact rfl
    first
      | exact ⟨by rw [show insE v n.net.nodes = true from decide_eq_true (by omega)], rfl⟩
      | exact ⟨by rw [show insE v n.net.nodes = false from decide_eq_false (by omega)], rfl⟩)
theorem dist1_spec (n : NetM) (c : Cel) (gn : Nat) {B : Nat} {w0 : World} {H : List HP} {w : World} (hm : blk gn (.cells #[.int .i64 n.nodes, .slice n.pA n.rows.length n.pcap, .int .i64 n.noise, .int .i64 n.thr, .slice n.lA n.links.length n.lcap, .slice n.mA n.margin.length n.mcap] 26 (0, 0)) ∈ H) (hw : St B w0 H w) :
    Calls Tryz.prog 122 [celV c, .pointer (some ⟨gn, 0, none⟩)].toArray w (Post B w0 fun v K => v = .bool (noNode n.net c) ∧ K = H) := by
  refine Calls_of_VC Tryz.func122 Tryz.ntmps122 rfl rfl hw ?_
  obtain ⟨b, hb⟩ : ∃ b, noNode n.net c = b := ⟨_, rfl⟩
  rw [hb]
  unfold noNode fromC toC at hb
  repeat' (first | ((first | apply VL_calltb en123 | apply VL_callqb en123); (repeat (first | exact args_nil | (apply args_cons; exact rfl))); exact rfl; exact fun _ hw => (cnode_spec n _ hw); all_goals (intro hB; (try simp only [decide_eq_true_eq, decide_eq_false_iff_not] at hB); try (exfalso; omega))) | apply (zs1 ?_) | apply (zs2 ?_) | (apply zg1; first | refine zs3 ?_ | refine zs4 ?_) | (apply zg2; refine zs6 ?_) | (apply zg3; first | refine zs7 ?_ | refine zs8 ?_) | (apply zg6; first | refine zs11 ?_ | refine zs12 ?_) | (apply zg20; first | refine zs47 ?_ | refine zs48 ?_) | (apply zg23; (refine zs52 ?_; intro _)) | apply (zs65 ?_) | apply (zs68 ?_) | apply (zs69 ?_) | apply (zs70 ?_) | apply (zs74 ?_) | fail)
  all_goals (
    apply VQ_st H
    · (intro w hw; refine hw.perm ?_; focus repeat (first | with_reducible exact Perm.refl _ | (with_reducible apply perm_take; focus ((repeat (first | with_reducible exact rem_here | with_reducible apply rem_there)); done)) | with_reducible apply Perm.dropK))
    apply VQ_ret1; exact rfl; exact rfl
    refine ⟨?_, rfl⟩
    rw [← hb]
    simp [*])
theorem containsC_spec (p : Cel → Bool) (l : List Cel) (f : Nat) (cs : List Value) (hen : ∀ xs w, (callFunc f xs).run Tryz.prog w = .ok (.enter f xs) w) (hlen : l.length ≤ 1000) {A : Option Addr} {cap B : Nat} {w0 : World} {H : List HP} {w : World} (hr : Rd B w0 H A (l.flatMap celF))
    (hp : ∀ a ∈ l, ∀ w, St B w0 H w → Calls Tryz.prog f ([celV a] ++ cs).toArray w (Post B w0 fun v K => v = .bool (p a) ∧ K = H)) (hw : St B w0 H w) :
    Calls Tryz.prog 124 [.slice A l.length cap, .func (.func f) #[] cs.toArray].toArray w (Post B w0 fun v K => v = .bool (l.any p) ∧ K = H) := by
  refine Calls_of_VC Tryz.func124 Tryz.ntmps124 rfl rfl hw ?_
  rw [← idx_some]
  repeat' (first | apply (zs1 ?_) | apply (zs2 ?_) | apply (zs65 ?_) | apply (zs68 ?_) | apply (zs69 ?_) | apply (zs70 ?_) | fail)
  first | apply VL_callt en143 | apply VL_callq en143
  (repeat (first | exact args_nil | (apply args_cons; exact rfl)))
  exact rfl
  exact fun _ hw => (indexFuncC p l f cs hen hlen hr hp hw)
  by_cases h0 : 0 ≤ idxFrom p l 0
  · rw [decide_eq_true h0]
    repeat' (first | apply (zs2 ?_) | (apply (zs20 ?_ ?_) <;> intro _ <;> try (exfalso; omega)) | apply (zs65 ?_) | apply (zs68 ?_) | apply (zs74 ?_) | fail)
    apply VQ_ret1; exact rfl; exact rfl
    exact ⟨rfl, rfl⟩
  · rw [decide_eq_false h0]
    repeat' (first | apply (zs2 ?_) | (apply (zs20 ?_ ?_) <;> intro _ <;> try (exfalso; omega)) | apply (zs65 ?_) | apply (zs68 ?_) | apply (zs74 ?_) | fail)
    apply VQ_ret1; exact rfl; exact rfl
    exact ⟨rfl, rfl⟩
def partP (n : Net) (c : Cel) (node : Int) (m : Nat) : Int := (([c.2.2.1, c.2.2.2.1].take m).map fun e => powN n e node).sum
theorem part_step {n : Net} {c : Cel} {node e : Int} {m : Nat} (h : [c.2.2.1, c.2.2.2.1][m]? = some e) : partP n c node (m + 1) = partP n c node m + powN n e node := by
  unfold partP
  rw [List.take_add_one, h, Option.toList_some, List.map_append, List.sum_append]
  simp
theorem part_bd {n : Net} (hok : Ok n) (c : Cel) (node : Int) {m : Nat} (h : m ≤ 2) : 0 ≤ partP n c node m ∧ partP n c node m ≤ 137438953472 := by
  have h1 := powN_bd hok c.2.2.1 node
  have h2 := powN_bd hok c.2.2.2.1 node
  match m, h with
  | 0, _ => simp [partP]
  | 1, _ => simp [partP]; omega
  | 2, _ => simp [partP]; omega
set_option maxRecDepth 10000 in
set_option maxHeartbeats 2000000 in
theorem disturb_in (n : NetM) (l : List Cel) (j : Nat) (node : Int) (hok : Ok n.net) (hnode : 0 ≤ node ∧ node < n.nodes) (hlen : l.length ≤ 1000) {A : Option Addr} {cap B : Nat} {w0 : World} {H : List HP} {w : World} (hin : n.In B w0 H) (hr : Rd B w0 H A (l.flatMap celF)) (hw : St B w0 H w) :
    Calls Tryz.prog 125 [n.val, .slice A l.length cap, .int .i64 j, .int .i64 node].toArray w (Post B w0 fun v K => v = .int .i64 (distTo n.net l j node l.length) ∧ K = H) := by
  refine Calls_of_VC Tryz.func125 Tryz.ntmps125 rfl rfl hw ?_
  have e1 : n.net.nodes = n.nodes := rfl
  repeat' (first | apply (zs1 ?_) | apply (zs2 ?_) | (apply zg4; refine zs9 ?_) | (apply zg23; (refine zs52 ?_; intro _)) | apply (zs65 ?_) | apply (zs68 ?_) | apply (zs69 ?_) | apply (zs70 ?_) | apply (zs73 ?_) | fail)
  rename_i gn
  refine VC_loop1 (fun (k : Nat) => [(16, .int .i64 k), (15, .int .i64 l.length), (14, .slice A l.length cap), (9, .int .i64 (distTo n.net l j node k)), (4, .pointer (some ⟨gn, 0, none⟩)), (2, .int .i64 j), (3, .int .i64 node)]) (fun _ => netN gn n :: H) (fun k => k ≤ l.length) (fun k => l.length - k) 0 (Nat.zero_le _) ?_ (fun w hw => hw) ?_
  · (repeat (first | exact sub_nil _ | (apply sub_cons; first | exact rfl | exact congrArg (fun z : Int => some (Value.int .i64 z)) (by omega))))
  rintro k hk K hK
  have hbd := dist_bd hok l j node k
  have hrc := hr.cons (X := netN gn n)
  by_cases hlt : k < l.length
  · obtain ⟨c, hc⟩ : ∃ c, l[k]? = some c := ⟨_, List.getElem?_eq_getElem hlt⟩
    have hcl : celL l k = c := by unfold celL; rw [List.getD_eq_getElem?_getD, hc]; rfl
    have hst : distTo n.net l j node (k + 1) = distTo n.net l j node k + if k = j then 0 else powN n.net c.2.2.1 node + powN n.net c.2.2.2.1 node := by
      rw [distTo, hcl]; rfl
    by_cases hkj : k = j
    · rw [if_pos hkj, Int.add_zero] at hst
      repeat' (first | apply (zs1 ?_) | apply (zs2 ?_) | (apply zg3; refine zs61 ?_) | (apply zg5; refine zs57 ?_) | (apply zg7; (refine zs15 ?_ ?_ <;> intro _ <;> try (exfalso; omega))) | (apply (zs17 ?_ ?_) <;> intro _ <;> try (exfalso; omega)) | (apply zg13; refine zs30 ?_) | (apply zg22; refine zs51 ?_) | (apply zg24; (refine zs54 ?_; intro _)) | apply (zs65 ?_) | apply (zs68 ?_) | apply (zs69 ?_) | apply (zs70 ?_) | (apply zg27; refine zs71 ?_) | apply (zs73 ?_) | apply (zs75 ?_) | apply (zs76 ?_) | apply (zs80 ?_) | apply (zs81 ?_) | fail)
      apply hK (k + 1)
      · show k + 1 ≤ _
        omega
      · omega
      · rw [hst]
        (repeat (first | exact sub_nil _ | (apply sub_cons; first | exact rfl | exact congrArg (fun z : Int => some (Value.int .i64 z)) (by omega))))
      · (intro w hw; refine hw.perm ?_; focus repeat (first | with_reducible exact Perm.refl _ | (with_reducible apply perm_take; focus ((repeat (first | with_reducible exact rem_here | with_reducible apply rem_there)); done)) | with_reducible apply Perm.dropK))
    rw [if_neg hkj] at hst
    repeat' (first | apply (zs1 ?_) | apply (zs2 ?_) | (apply zg2; refine zs6 ?_) | (apply zg3; first | refine zs7 ?_ | refine zs61 ?_) | (apply zg4; refine zs9 ?_) | (apply zg5; refine zs57 ?_) | (apply zg7; (refine zs15 ?_ ?_ <;> intro _ <;> try (exfalso; omega))) | (apply (zs17 ?_ ?_) <;> intro _ <;> try (exfalso; omega)) | (apply zg22; refine zs51 ?_) | (apply zg24; (refine zs54 ?_; intro _)) | (apply zg26; (refine zs56 ?_; intro _)) | apply (zs65 ?_) | apply (zs68 ?_) | apply (zs69 ?_) | apply (zs70 ?_) | (apply zg27; first | refine zs71 ?_ | refine zs72 ?_) | apply (zs73 ?_) | apply (zs76 ?_) | fail)
    rename_i gc _ ge
    refine VC_loop1 (fun (m : Nat) => [(30, .int .i64 m), (29, .int .i64 ((2 : Nat) : Int)), (28, .slice (some ⟨ge, 0, none⟩) ([c.2.2.1, c.2.2.2.1] : List Int).length 2), (9, .int .i64 (distTo n.net l j node k + partP n.net c node m)), (16, .int .i64 k), (15, .int .i64 l.length), (14, .slice A l.length cap), (4, .pointer (some ⟨gn, 0, none⟩)), (2, .int .i64 j), (3, .int .i64 node)]) (fun _ => blk ge (.cells #[.int .i64 c.2.2.1, .int .i64 c.2.2.2.1] 3 (0, 0)) :: netN gn n :: H) (fun m => m ≤ 2) (fun m => 2 - m) 0 (Nat.zero_le _) ?_ ?_ ?_
    · rw [show partP n.net c node 0 = 0 from rfl, Int.add_zero]
      (repeat (first | exact sub_nil _ | (apply sub_cons; first | exact rfl | exact congrArg (fun z : Int => some (Value.int .i64 z)) (by omega))))
    · (intro w hw; refine hw.perm ?_; focus repeat (first | with_reducible exact Perm.refl _ | (with_reducible apply perm_take; focus ((repeat (first | with_reducible exact rem_here | with_reducible apply rem_there)); done)) | with_reducible apply Perm.dropK))
    rintro m hm K2 hK2
    have hpb := part_bd hok c node hm
    have hre : Rd B w0 (blk ge (.cells #[.int .i64 c.2.2.1, .int .i64 c.2.2.2.1] 3 (0, 0)) :: netN gn n :: H) (some ⟨ge, 0, none⟩) (([c.2.2.1, c.2.2.2.1] : List Int).flatMap numF) := Rd.blk (cs := #[.int .i64 c.2.2.1, .int .i64 c.2.2.2.1]) (.head _)
    clear hrc
    unfold netN at hre ⊢
    by_cases hlt2 : m < 2
    · obtain ⟨e, he⟩ : ∃ e, [c.2.2.1, c.2.2.2.1][m]? = some e := ⟨_, List.getElem?_eq_getElem hlt2⟩
      have hst2 := part_step (n := n.net) (node := node) he
      have hcn := fun {H' : List HP} {w : World} (hw : St B w0 H' w) => cnode_spec n e hw
      have hl2 : ([c.2.2.1, c.2.2.2.1] : List Int).length = 2 := rfl
      cases hie : insE e n.net.nodes with
      | false =>
        rw [hie] at hcn
        rw [show powN n.net e node = 0 by unfold powN; rw [hie]; simp, Int.add_zero] at hst2
        repeat' (first | ((first | apply VL_callt en123 | apply VL_callq en123); (repeat (first | exact args_nil | (apply args_cons; exact rfl))); exact rfl; exact fun _ hw => (hcn hw)) | apply (zs1 ?_) | apply (zs2 ?_) | (apply zg3; first | refine zs8 ?_ | refine zs60 ?_) | (apply zg5; refine zs57 ?_) | (apply (zs17 ?_ ?_) <;> intro _ <;> try (exfalso; omega)) | (apply zg13; refine zs30 ?_) | apply (zs65 ?_) | apply (zs68 ?_) | apply (zs69 ?_) | apply (zs70 ?_) | (apply zg27; first | refine zs71 ?_ | refine zs72 ?_) | apply (zs73 ?_) | apply (zs76 ?_) | apply (zs79 ?_) | fail)
        apply hK2 (m + 1)
        · show m + 1 ≤ 2
          omega
        · omega
        · rw [hst2]
          (repeat (first | exact sub_nil _ | (apply sub_cons; first | exact rfl | exact congrArg (fun z : Int => some (Value.int .i64 z)) (by omega))))
        · unfold netN
          (intro w hw; refine hw.perm ?_; focus repeat (first | with_reducible exact Perm.refl _ | (with_reducible apply perm_take; focus ((repeat (first | with_reducible exact rem_here | with_reducible apply rem_there)); done)) | with_reducible apply Perm.dropK))
      | true =>
        rw [hie] at hcn
        have he2 : 0 ≤ e ∧ e < n.net.nodes := of_decide_eq_true hie
        have hp0 : (n.rows.length : Int) = n.net.nodes := by
          have := hok.p0
          rwa [show n.net.power = n.rows.map RowM.xs from rfl, List.length_map] at this
        obtain ⟨r, hrw⟩ : ∃ r, n.rows[e.toNat]? = some r := ⟨_, List.getElem?_eq_getElem (by omega)⟩
        have hrm := List.mem_of_getElem? hrw
        have hrl : (r.xs.length : Int) = n.net.nodes := hok.p1 r.xs (List.mem_map.2 ⟨r, hrm, rfl⟩)
        obtain ⟨q, hq⟩ : ∃ q, r.xs[node.toNat]? = some q := ⟨_, List.getElem?_eq_getElem (by omega)⟩
        have hpw : powN n.net e node = q := by
          unfold powN
          rw [if_pos ⟨hie, decide_eq_true (by omega)⟩]
          exact powr_get (n := n.net) (r := r.xs) (by simp [NetM.net, hrw]) hq
        have hqb := powN_bd hok e node
        rw [hpw] at hqb hst2
        have hpd := hin.pw
        have hrd := hin.rw_ r hrm
        have hs1 := hin.s1
        have hs2 := hin.s2 r hrm
        repeat' (first | ((first | apply VL_callt en123 | apply VL_callq en123); (repeat (first | exact args_nil | (apply args_cons; exact rfl))); exact rfl; exact fun _ hw => (hcn hw)) | apply (zs1 ?_) | apply (zs2 ?_) | (apply zg2; refine zs6 ?_) | (apply zg3; first | refine zs7 ?_ | refine zs8 ?_ | refine zs60 ?_) | (apply zg5; refine zs57 ?_) | (apply (zs17 ?_ ?_) <;> intro _ <;> try (exfalso; omega)) | (apply zg13; refine zs30 ?_) | apply (zs65 ?_) | apply (zs68 ?_) | apply (zs69 ?_) | apply (zs70 ?_) | (apply zg27; refine zs71 ?_) | apply (zs73 ?_) | apply (zs76 ?_) | apply (zs79 ?_) | fail)
        apply hK2 (m + 1)
        · show m + 1 ≤ 2
          omega
        · omega
        · rw [hst2]
          (repeat (first | exact sub_nil _ | (apply sub_cons; first | exact rfl | exact congrArg (fun z : Int => some (Value.int .i64 z)) (by omega))))
        · unfold netN
          (intro w hw; refine hw.perm ?_; focus repeat (first | with_reducible exact Perm.refl _ | (with_reducible apply perm_take; focus ((repeat (first | with_reducible exact rem_here | with_reducible apply rem_there)); done)) | with_reducible apply Perm.dropK))
    · obtain rfl : m = 2 := by omega
      have hp2 : distTo n.net l j node (k + 1) = distTo n.net l j node k + partP n.net c node 2 := by
        rw [hst]
        simp [partP]
      repeat' (first | apply (zs1 ?_) | (apply (zs17 ?_ ?_) <;> intro _ <;> try (exfalso; omega)) | (apply zg13; refine zs30 ?_) | apply (zs65 ?_) | apply (zs68 ?_) | apply (zs69 ?_) | apply (zs70 ?_) | (apply zg27; refine zs72 ?_) | apply (zs75 ?_) | apply (zs79 ?_) | apply (zs80 ?_) | apply (zs81 ?_) | fail)
      apply hK (k + 1)
      · show k + 1 ≤ _
        omega
      · omega
      · rw [hp2]
        (repeat (first | exact sub_nil _ | (apply sub_cons; first | exact rfl | exact congrArg (fun z : Int => some (Value.int .i64 z)) (by omega))))
      · unfold netN
        (intro w hw; refine hw.perm ?_; focus repeat (first | with_reducible exact Perm.refl _ | (with_reducible apply perm_take; focus ((repeat (first | with_reducible exact rem_here | with_reducible apply rem_there)); done)) | with_reducible apply Perm.dropK))
  · repeat' (first | apply (zs1 ?_) | apply (zs2 ?_) | (apply (zs17 ?_ ?_) <;> intro _ <;> try (exfalso; omega)) | apply (zs65 ?_) | apply (zs68 ?_) | apply (zs69 ?_) | apply (zs70 ?_) | (apply zg27; refine zs72 ?_) | apply (zs74 ?_) | apply (zs75 ?_) | apply (zs80 ?_) | apply (zs81 ?_) | fail)
    apply VQ_st H
    · (intro w hw; refine hw.perm ?_; focus repeat (first | with_reducible exact Perm.refl _ | (with_reducible apply perm_take; focus ((repeat (first | with_reducible exact rem_here | with_reducible apply rem_there)); done)) | with_reducible apply Perm.dropK))
    apply VQ_ret1; exact rfl; exact rfl
    rw [show k = l.length by omega]
    exact ⟨rfl, rfl⟩
set_option maxRecDepth 10000 in
set_option maxHeartbeats 1000000 in
theorem disturbance_spec (n : NetM) (l : List Cel) (j : Nat) (node : Int) (hck : checkE n.net = 0) (hnode : 0 ≤ node ∧ node < n.nodes) (hj : j < l.length) (hlen : l.length ≤ 1000) (hno : l.any (noNode n.net) = false) {A : Option Addr} {cap B : Nat} {w0 : World} {H : List HP} {w : World} (hin : n.In B w0 H) (hr : Rd B w0 H A (l.flatMap celF)) (hw : St B w0 H w) :
    Calls Tryz.prog 89 [n.val, .slice A l.length cap, .int .i64 j, .int .i64 node].toArray w (Post B w0 fun v K => v = .int .i64 (distE n.net l j node) ∧ K = H) := by
  refine Calls_of_VC Tryz.func89 Tryz.ntmps89 rfl rfl hw ?_
  have e1 : n.net.nodes = n.nodes := rfl
  have hins : insE node n.net.nodes = true := decide_eq_true hnode
  have hd : distE n.net l j node = distTo n.net l j node l.length := by
    unfold distE
    rw [if_neg (by rw [hck, hins, hno]; simp; omega), Int.toNat_natCast]
  rw [hd]
  have hchk := fun {H' : List HP} {w : World} (hin : n.In B w0 H') (hw : St B w0 H' w) => check_spec n hin hw
  rw [hck] at hchk
  have hcn := fun {H' : List HP} {w : World} (hw : St B w0 H' w) => cnode_spec n node hw
  rw [hins] at hcn
  (apply VC_seq; apply VC_region; apply VL_box_agg; exact rfl; exact rfl; intro g)
  have hct := fun {H' : List HP} {w : World} (hm : blk g (.cells #[.int .i64 n.nodes, .slice n.pA n.rows.length n.pcap, .int .i64 n.noise, .int .i64 n.thr, .slice n.lA n.links.length n.lcap, .slice n.mA n.margin.length n.mcap] 26 (0, 0)) ∈ H') (hr : Rd B w0 H' A (l.flatMap celF)) (hw : St B w0 H' w) => containsC_spec (noNode n.net) l 122 [.pointer (some ⟨g, 0, none⟩)] en122 hlen (cap := cap) hr (fun c _ w hw => dist1_spec n c g hm hw) hw
  rw [hno] at hct
  repeat' (first | ((first | apply VL_callt en38 | apply VL_callq en38); (repeat (first | exact args_nil | (apply args_cons; exact rfl))); exact rfl; exact fun _ hw => (hchk hin.cons hw)) | ((first | apply VL_callt en123 | apply VL_callq en123); (repeat (first | exact args_nil | (apply args_cons; exact rfl))); exact rfl; exact fun _ hw => (hcn hw)) | ((first | apply VL_callt en124 | apply VL_callq en124); (repeat (first | exact args_nil | (apply args_cons; exact rfl))); exact rfl; exact fun _ hw => (hct (by (focus repeat (first | with_reducible exact List.mem_cons_self | with_reducible apply List.mem_cons_of_mem | assumption))) hr.cons hw)) | ((first | apply VL_callt en125 | apply VL_callq en125); (repeat (first | exact args_nil | (apply args_cons; exact rfl))); exact rfl; exact fun _ hw => (disturb_in n l j node (check_ok hck) hnode hlen hin.cons hr.cons hw)) | apply (zs1 ?_) | apply (zs2 ?_) | (apply zg1; refine zs4 ?_) | (apply zg3; refine zs8 ?_) | (apply zg4; refine zs9 ?_) | (apply zg6; refine zs12 ?_) | (apply zg8; (refine zs16 ?_ ?_ <;> intro _ <;> try (exfalso; omega))) | (apply (zs17 ?_ ?_) <;> intro _ <;> try (exfalso; omega)) | (apply (zs20 ?_ ?_) <;> intro _ <;> try (exfalso; omega)) | (apply zg20; refine zs47 ?_) | apply (zs65 ?_) | apply (zs68 ?_) | apply (zs69 ?_) | apply (zs70 ?_) | (apply zg27; refine zs72 ?_) | apply (zs74 ?_) | apply (zs76 ?_) | (apply zg29; (apply VL_makeFunc; (repeat (first | exact args_nil | (apply args_cons; exact rfl))) ; exact rfl)) | fail)
  apply VQ_st H
  · (intro w hw; refine hw.perm ?_; focus repeat (first | with_reducible exact Perm.refl _ | (with_reducible apply perm_take; focus ((repeat (first | with_reducible exact rem_here | with_reducible apply rem_there)); done)) | with_reducible apply Perm.dropK))
  apply VQ_ret1; exact rfl; exact rfl; exact ⟨rfl, rfl⟩
end Go.Proofs.YtnkpfpgmbpnbgaaGreatDoor

/- Walks: the program's disturbed. -/
namespace Go.Proofs.YtnkpfpgmbpnbgaaGreatDoor
open Go.RowKit Go.Eng Go.Nw

theorem inI_split {s : Sch} {slot : Int} {j n : Nat} (h : (celAt s j).1 = slot) (hj : j < n) : ∃ R, inI s slot n = inI s slot j ++ j :: R ∧ ∀ x ∈ R, j < x := by
  obtain ⟨m, rfl⟩ : ∃ m, n = j + (m + 1) := ⟨n - j - 1, by omega⟩
  have e : inI s slot (j + (m + 1)) = inI s slot j ++ ((List.range (m + 1)).map (j + ·)).filter fun i => decide ((celAt s i).1 = slot) := by
    unfold inI; rw [List.range_add, List.filter_append]
  rw [e, List.range_succ_eq_map, List.map_cons, List.filter_cons, if_pos (by simpa using h)]
  refine ⟨_, rfl, fun x hx => ?_⟩
  obtain ⟨y, hy, rfl⟩ := List.mem_map.1 (List.mem_filter.1 hx).1
  obtain ⟨z, _, rfl⟩ := List.mem_map.1 hy
  omega
theorem inI_take {s : Sch} {slot : Int} {n k j : Nat} (h : (inI s slot n)[k]? = some j) : (inI s slot n).take k = inI s slot j := by
  have hm := inI_mem.1 (List.mem_of_getElem? h)
  obtain ⟨R, hR, hRx⟩ := inI_split hm.2 hm.1
  rw [hR] at h ⊢
  have hk : k = (inI s slot j).length := by
    rcases Nat.lt_trichotomy k (inI s slot j).length with h1 | h1 | h1
    · rw [List.getElem?_append_left h1] at h
      have := (inI_mem.1 (List.mem_of_getElem? h)).1
      omega
    · exact h1
    · rw [List.getElem?_append_right (by omega)] at h
      obtain ⟨q, hq⟩ : ∃ q, k - (inI s slot j).length = q + 1 := ⟨k - (inI s slot j).length - 1, by omega⟩
      rw [hq, List.getElem?_cons_succ] at h
      have := hRx j (List.mem_of_getElem? h)
      omega
  rw [hk, List.take_left' rfl]
theorem filter_snocT {α : Type} {p : α → Bool} {l : List α} {i : Nat} {x : α} (h : l[i]? = some x) : (l.take (i + 1)).filter p = (l.take i).filter p ++ if p x = true then [x] else [] := by
  rw [List.take_add_one, h, Option.toList_some, List.filter_append]
  cases hp : p x <;> simp [hp]
def placeM (s : Sch) (c : Cel) (l : List Nat) : List Cel := (l.filter fun j => decide ((celAt s j).2.1 = c.2.1)).map (celAt s)
theorem placeM_eq {s : Sch} {c : Cel} : ∀ {m : Nat}, m ≤ s.cells.length → placeM s c (inI s c.1 m) = (s.cells.take m).filter (placeB c)
  | 0, _ => by simp [placeM, inI]
  | m + 1, h => by
    have ih := placeM_eq (s := s) (c := c) (m := m) (by omega)
    have hg := celAt_some (s := s) (i := m) (by omega)
    rw [filter_snocT hg, ← ih]
    have hp : placeB c (celAt s m) = true ↔ (celAt s m).1 = c.1 ∧ (celAt s m).2.1 = c.2.1 := by unfold placeB; rw [decide_eq_true_eq]
    by_cases h1 : (celAt s m).1 = c.1
    · rw [inI_yes h1]
      unfold placeM
      rw [List.filter_append, List.map_append]
      by_cases h2 : (celAt s m).2.1 = c.2.1
      · rw [if_pos (hp.2 ⟨h1, h2⟩)]
        simp [h2]
      · rw [if_neg fun h => h2 (hp.1 h).2]
        simp [h2]
    · rw [inI_no h1, if_neg fun h => h1 (hp.1 h).1, List.append_nil]
theorem placeM_snoc (s : Sch) (c : Cel) (l : List Nat) (j : Nat) : placeM s c (l ++ [j]) = placeM s c l ++ if (celAt s j).2.1 = c.2.1 then [celAt s j] else [] := by
  unfold placeM
  rw [List.filter_append, List.map_append]
  by_cases h : (celAt s j).2.1 = c.2.1
  · rw [if_pos h]; simp [h]
  · rw [if_neg h]; simp [h]
structure DsM where
  A : Option Addr
  cap : Nat
  M : List Cel
  a : Int
set_option maxRecDepth 10000 in
set_option maxHeartbeats 4000000 in
theorem disturbed_spec (n : NetM) (s : SchM) (i : Nat) (hck : checkE n.net = 0) (hgood : ∀ c ∈ s.cells, goodE n.net (fromC c) (toC c) = true) (hi : i < s.cells.length) (hl : s.cells.length ≤ 1000) {B : Nat} {w0 : World} {H : List HP} {w : World} (hin : n.In B w0 H) (hr : Rd B w0 H s.A (s.cells.flatMap celF)) (hw : St B w0 H w) :
    Calls Tryz.prog 45 [n.val, s.val, .int .i64 i].toArray w (Post B w0 fun v K => v = .bool (disturbB n.net s.sch i) ∧ K = H) := by
  refine Calls_of_VCm Tryz.func45 Tryz.ntmps45 rfl rfl hw ?_
  have hget : s.cells[i]? = some (celAt s.sch i) := celAt_some (s := s.sch) hi
  obtain ⟨c, hc⟩ : ∃ c, celAt s.sch i = c := ⟨_, rfl⟩
  rw [hc] at hget
  have hrm : Rd B w0 [many H] s.A (s.cells.flatMap celF) := hr.tail
  clear hr
  refine VC_st [many H] (fun w hw => hw.perm (.closeT H)) ?_
  repeat' (first | apply (zs2 ?_) | (apply zg22; refine zs50 ?_) | (apply zg23; first | (refine zs52 ?_; intro _) | (refine zs53 ?_; intro _)) | (apply zg24; (refine zs54 ?_; intro _)) | apply (zs65 ?_) | apply (zs68 ?_) | apply (zs69 ?_) | apply (zs70 ?_) | fail)
  rename_i gn gs gi g7 g8
  apply VC_held [0, 1, 2, 3, 4, 5, 6] [7] [false, false, true, true, false, true]
  kernel_rfl
  kernel_rfl
  (repeat (first | with_reducible exact split_nil | with_reducible apply split_t | with_reducible apply split_f))
  (simp only [pickOps, nthO]; rfl)
  (simp only [pickOps, nthO]; rfl)
  repeat' (first | (apply zg2; first | refine zs6 ?_ | refine zs58 ?_) | (apply zg3; first | refine zs7 ?_ | refine zs8 ?_ | refine zs59 ?_) | (apply zg5; refine zs57 ?_) | (apply VL_nilh; (repeat (first | with_reducible exact app_nil | with_reducible apply app_cons | exact app_niln _))) | apply (zs93 ?_) | fail)
  apply VL_call _ en65
  (repeat (first | exact args_nil | (apply args_cons; exact rfl)))
  exact rfl
  exact fun _ hw => (inS_spec s c.1 (hw))
  rintro _ _ ⟨g1, g2, rfl, rfl⟩
  repeat' (first | apply (zs65 ?_) | apply (zs68 ?_) | apply (zs73 ?_) | apply (zs94 ?_) | fail)
  obtain ⟨L, hL⟩ : ∃ L, inI s.sch c.1 s.cells.length = L := ⟨_, rfl⟩
  have hiL : i ∈ L := by
    rw [← hL]
    exact inI_mem.2 ⟨hi, by rw [hc]⟩
  have hr7 : Rd B w0 (intB g2 c.1 :: schB g1 s :: blk gi (.cells #[.int .i64 i] 3 (0, 0)) :: schB gs s :: netN gn n :: [many H]) s.A (s.cells.flatMap celF) := hrm.cons.cons.cons.cons.cons
  rw [show (Value.slice none 0 0).cells = #[Value.slice none 0 0] from rfl]
  refine VC_nilSlice 51 5 ?_
  refine VC_rangeFunc (gf := 102) (lb := [.pointer (some ⟨g1, 0, none⟩), .pointer (some ⟨g2, 0, none⟩)]) (xs := inXs s.sch c.1) (intB g2 c.1 :: schB g1 s :: blk gi (.cells #[.int .i64 i] 3 (0, 0)) :: schB gs s :: netN gn n :: [many H]) (fun x : DsM => [blk g7 (.cells #[.slice x.A x.M.length x.cap] 28 (0, 0)), cels x.A x.cap x.M, blk g8 (.cells #[.int .i64 x.a] 3 (0, 0))])
    (fun k x => x.M = placeM s.sch c (L.take k) ∧ x.a = if i ∈ L.take k then (shareAt s.sch i : Int) else 0) (fun _ _ => False) ⟨none, 0, [], 0⟩ rfl en102 (in1_iter s c.1 g1 g2 hr7 (by omega) (.tail _ (.head _)) (.head _)) rfl ?_ (by kernel_rfl) (by kernel_rfl) ?_ ⟨by simp [placeM], by simp⟩ ?_ ?_ (fun _ _ _ h => h.elim)
  · intro args h
    obtain ⟨k, hk⟩ := List.mem_iff_getElem?.1 h
    obtain ⟨i, _, _, rfl⟩ := inXs_get hk
    rfl
  · unfold schB intB cels netN
    simp only [List.cons_append, List.nil_append, List.length_nil, List.flatMap_nil]
    (intro w hw; refine hw.perm ?_; focus repeat (first | with_reducible exact Perm.refl _ | (with_reducible apply perm_take; focus ((repeat (first | with_reducible exact rem_here | with_reducible apply rem_there)); done)) | with_reducible apply Perm.dropK))
  · rintro l k args R ⟨A, cap, M, a⟩ hk ⟨hM, ha⟩
    obtain ⟨j, hj, hlt, rfl⟩ := inXs_get hk
    have hlt2 : j < s.cells.length := hlt
    have hj : L[k]? = some j := by rw [← hL]; exact hj
    dsimp only at hM ha ⊢
    dsimp only [putEnv, List.cons_append, List.nil_append]
    have hgj : s.cells[j]? = some (celAt s.sch j) := celAt_some (s := s.sch) hlt
    have htj : L.take k = inI s.sch c.1 j := by
      rw [← hL] at hj ⊢
      exact inI_take hj
    have htk : L.take (k + 1) = L.take k ++ [j] := by rw [List.take_add_one, hj, Option.toList_some]
    have hMf : M = (s.cells.take j).filter (placeB c) := by
      rw [hM, htj]
      exact placeM_eq (s := s.sch) (by show j ≤ s.cells.length; omega)
    have hMl : M.length ≤ s.cells.length := by
      rw [hMf]
      have h1 := List.length_filter_le (placeB c) (s.cells.take j)
      rw [List.length_take] at h1
      omega
    have hps := placeM_snoc s.sch c (L.take k) j
    rw [← htk, ← hM] at hps
    obtain ⟨d, hd⟩ : ∃ d, celAt s.sch j = d := ⟨_, rfl⟩
    rw [hd] at hgj hps
    repeat' (first | apply (zs2 ?_) | apply (zs65 ?_) | apply (zs70 ?_) | fail)
    apply VQ_assign rem_here
    intro R'
    unfold intB schB netN cels
    clear hr7
    by_cases hoff : d.2.1 = c.2.1
    rotate_left
    · have hij : i ≠ j := by
        rintro rfl
        rw [hc] at hd
        subst hd
        exact hoff rfl
      repeat' (first | apply (zs1 ?_) | (apply zg2; first | refine zs6 ?_ | refine zs58 ?_) | (apply zg3; first | refine zs7 ?_ | refine zs59 ?_) | (apply zg5; refine zs57 ?_) | (apply zg8; (refine zs16 ?_ ?_ <;> intro _ <;> try (exfalso; omega))) | apply (zs66 ?_) | apply (zs68 ?_) | apply (zs69 ?_) | (apply zg27; refine zs71 ?_) | apply (zs73 ?_) | apply (zs75 ?_) | apply (zs80 ?_) | apply (zs81 ?_) | (apply zg28; refine zs83 ?_) | fail)
      all_goals (
        apply VQ_body ⟨A, cap, M, a⟩
        · refine ⟨?_, ?_⟩
          · show M = _
            rw [hps, if_neg hoff, List.append_nil]
          · show a = _
            rw [ha, htk]
            simp [hij]
        · dsimp only [List.cons_append, List.nil_append]
          (intro w hw; refine hw.perm ?_; focus repeat (first | with_reducible exact Perm.refl _ | (with_reducible apply perm_take; focus ((repeat (first | with_reducible exact rem_here | with_reducible apply rem_there)); done)) | with_reducible apply Perm.dropK)))
    by_cases hji : j = i
    · obtain rfl := hji
      obtain rfl : d = c := hd.symm.trans hc
      have hsa : (M.length : Int) = (shareAt s.sch j : Int) := by
        rw [hMf]
        unfold shareAt
        rw [hc]
        rfl
      repeat' (first | apply (zs1 ?_) | (apply zg2; first | refine zs6 ?_ | refine zs58 ?_) | (apply zg3; first | refine zs7 ?_ | refine zs59 ?_) | (apply zg4; refine zs9 ?_) | (apply zg5; refine zs57 ?_) | (apply zg7; (refine zs15 ?_ ?_ <;> intro _ <;> try (exfalso; omega))) | (apply zg8; (refine zs16 ?_ ?_ <;> intro _ <;> try (exfalso; omega))) | (apply zg22; refine zs50 ?_) | apply (zs65 ?_) | apply (zs66 ?_) | apply (zs68 ?_) | apply (zs69 ?_) | apply (zs70 ?_) | (apply zg27; first | refine zs71 ?_ | refine zs72 ?_) | apply (zs73 ?_) | apply (zs76 ?_) | (apply zg28; refine zs83 ?_) | fail)
      apply VC_heldH [0, 1, 2, 3, 4, 5, 6] [7, 8] [false, true, false, false, false, false, false, true, false, true]
      kernel_rfl
      kernel_rfl
      (repeat (first | with_reducible exact split_nil | with_reducible apply split_t | with_reducible apply split_f))
      (simp only [pickOps, nthO]; rfl)
      (simp only [pickOps, nthO]; rfl)
      repeat' (first | (apply VL_load_sl T; exact rfl; (focus repeat (first | with_reducible exact List.mem_cons_self | with_reducible apply List.mem_cons_of_mem | assumption)); exact rfl; exact rfl; exact rfl) | apply (zs1 ?_) | (apply zg2; refine zs6 ?_) | (apply zg3; first | refine zs7 ?_ | refine zs61 ?_) | (apply zg5; refine zs57 ?_) | (apply zg21; (refine zs49 ?_; intro _ _)) | (apply zg22; refine zs50 ?_) | (apply zg26; (refine zs56 ?_; intro _)) | apply (zs65 ?_) | (apply VL_nilh; (repeat (first | with_reducible exact app_nil | with_reducible apply app_cons | exact app_niln _))) | apply (zs79 ?_) | apply (zs87 ?_) | (apply VQ_heldq; (repeat (first | with_reducible exact pull_nil | (with_reducible apply pull_cons; (repeat (first | with_reducible exact rem_here | with_reducible apply rem_there)))))) | apply (zs93 ?_) | apply (zs94 ?_) | fail)
      rename_i A9 cap9
      apply VQ_body ⟨A9, cap9, M ++ [d], (M.length : Int)⟩
      · refine ⟨?_, ?_⟩
        · show M ++ [d] = _
          rw [hps, if_pos hoff]
        · show (M.length : Int) = _
          rw [htk, if_pos (by simp), hsa]
      · dsimp only [List.cons_append, List.nil_append]
        intro w hw
        rw [cels_snocR, len_snoc M d] at hw
        unfold cels at hw
        revert w
        (intro w hw; refine hw.perm ?_; focus repeat (first | with_reducible exact Perm.refl _ | (with_reducible apply perm_take; focus ((repeat (first | with_reducible exact rem_here | with_reducible apply rem_there)); done)) | with_reducible apply Perm.dropK))
    · have hji2 : i ≠ j := fun e => hji e.symm
      repeat' (first | apply (zs1 ?_) | (apply zg2; first | refine zs6 ?_ | refine zs58 ?_) | (apply zg3; first | refine zs7 ?_ | refine zs59 ?_) | (apply zg5; refine zs57 ?_) | (apply zg7; (refine zs15 ?_ ?_ <;> intro _ <;> try (exfalso; omega))) | (apply zg8; (refine zs16 ?_ ?_ <;> intro _ <;> try (exfalso; omega))) | apply (zs65 ?_) | apply (zs66 ?_) | apply (zs68 ?_) | apply (zs69 ?_) | apply (zs70 ?_) | (apply zg27; refine zs72 ?_) | apply (zs73 ?_) | apply (zs76 ?_) | (apply zg28; refine zs83 ?_) | fail)
      apply VC_heldH [0, 1, 2, 3, 4, 5, 6] [7, 8] [false, true, false, false, false, false, false, true, false, true]
      kernel_rfl
      kernel_rfl
      (repeat (first | with_reducible exact split_nil | with_reducible apply split_t | with_reducible apply split_f))
      (simp only [pickOps, nthO]; rfl)
      (simp only [pickOps, nthO]; rfl)
      repeat' (first | (apply VL_load_sl T; exact rfl; (focus repeat (first | with_reducible exact List.mem_cons_self | with_reducible apply List.mem_cons_of_mem | assumption)); exact rfl; exact rfl; exact rfl) | apply (zs1 ?_) | (apply zg2; refine zs6 ?_) | (apply zg3; first | refine zs7 ?_ | refine zs61 ?_) | (apply zg5; refine zs57 ?_) | (apply zg21; (refine zs49 ?_; intro _ _)) | (apply zg22; refine zs50 ?_) | (apply zg26; (refine zs56 ?_; intro _)) | apply (zs65 ?_) | (apply VL_nilh; (repeat (first | with_reducible exact app_nil | with_reducible apply app_cons | exact app_niln _))) | apply (zs79 ?_) | apply (zs87 ?_) | (apply VQ_heldq; (repeat (first | with_reducible exact pull_nil | (with_reducible apply pull_cons; (repeat (first | with_reducible exact rem_here | with_reducible apply rem_there)))))) | apply (zs93 ?_) | apply (zs94 ?_) | fail)
      rename_i A9 cap9
      apply VQ_body ⟨A9, cap9, M ++ [d], a⟩
      · refine ⟨?_, ?_⟩
        · show M ++ [d] = _
          rw [hps, if_pos hoff]
        · show a = _
          rw [ha, htk]
          simp [hji2]
      · dsimp only [List.cons_append, List.nil_append]
        intro w hw
        rw [cels_snocR, len_snoc M d] at hw
        unfold cels at hw
        revert w
        (intro w hw; refine hw.perm ?_; focus repeat (first | with_reducible exact Perm.refl _ | (with_reducible apply perm_take; focus ((repeat (first | with_reducible exact rem_here | with_reducible apply rem_there)); done)) | with_reducible apply Perm.dropK))
  · rintro D ⟨A, cap, M, a⟩ ⟨hM, ha⟩
    have hLl : (inXs s.sch c.1).length = L.length := by rw [inXs, List.length_map]; exact congrArg List.length hL
    dsimp only at hM ha ⊢
    rw [hLl, List.take_length] at hM ha
    rw [if_pos hiL] at ha
    subst ha
    have hMS : M = shareE s.sch i := by
      rw [hM, ← hL]
      have h1 := placeM_eq (s := s.sch) (c := c) (Nat.le_refl _)
      rw [List.take_length] at h1
      rw [show s.cells.length = s.sch.cells.length from rfl, h1]
      unfold shareE
      rw [hc]
    have hMl : M.length ≤ 1000 := by
      rw [hMS]
      have h1 := List.length_filter_le (placeB (celAt s.sch i)) s.sch.cells
      exact Nat.le_trans h1 hl
    have hgM : M[((shareAt s.sch i : Nat) : Int).toNat]? = some c := by rw [hMS, Int.toNat_natCast, share_at (s := s.sch) hi, hc]
    have hal : shareAt s.sch i < M.length := (List.getElem?_eq_some_iff.1 hgM).1
    have hok := check_ok hck
    have hcm : c ∈ s.cells := List.mem_of_getElem? hget
    have hgd := hgood c hcm
    obtain ⟨⟨f0, f1⟩, ⟨t0, t1⟩, _, k1, k2⟩ : (0 ≤ c.2.2.1 ∧ c.2.2.1 < n.net.nodes) ∧ (0 ≤ c.2.2.2.1 ∧ c.2.2.2.1 < n.net.nodes) ∧ c.2.2.1 ≠ c.2.2.2.1 ∧ 0 ≤ findE n.net c.2.2.1 c.2.2.2.1 ∧ 0 ≤ findE n.net c.2.2.2.1 c.2.2.1 := good_nodes hok hgd
    have hno : M.any (noNode n.net) = false := by
      rw [List.any_eq_false]
      intro x hx
      have hxm : x ∈ s.cells := by
        rw [hMS] at hx
        exact (List.mem_filter.1 hx).1
      obtain ⟨h1, h2, _⟩ := good_nodes hok (hgood x hxm)
      unfold noNode
      rw [show insE (fromC x) n.net.nodes = true from decide_eq_true h1, show insE (toC x) n.net.nodes = true from decide_eq_true h2]
      simp
    have hinm : n.In B w0 [many H] := ⟨hin.pw.tail, fun r hr => (hin.rw_ r hr).tail, hin.lk.tail, hin.mg.tail, hin.s1, hin.s2, hin.s3, hin.s4⟩
    have hmg := hinm.mg
    have hs4 := hin.s4
    have hml : n.margin.length = n.net.links.length := hok.k1
    have x1 := find_lt k1
    have x2 := find_lt k2
    have hix : ∀ u v : Int, indexE n.net u v = findE n.net u v := fun u v => by unfold indexE; rw [if_neg (by omega)]
    have p1 := fun {H' : List HP} {w : World} (hin : n.In B w0 H') (hw : St B w0 H' w) => index_spec n c.2.2.1 c.2.2.2.1 hin hw
    have p2 := fun {H' : List HP} {w : World} (hin : n.In B w0 H') (hw : St B w0 H' w) => index_spec n c.2.2.2.1 c.2.2.1 hin hw
    rw [hix] at p1 p2
    obtain ⟨i1, hi1⟩ : ∃ z, findE n.net c.2.2.1 c.2.2.2.1 = z := ⟨_, rfl⟩
    obtain ⟨i2, hi2⟩ : ∃ z, findE n.net c.2.2.2.1 c.2.2.1 = z := ⟨_, rfl⟩
    rw [hi1] at p1 k1 x1
    rw [hi2] at p2 k2 x2
    have hm1 : n.margin[i1.toNat]? = some (mar n.net i1.toNat) := by
      unfold mar
      rw [List.getD_eq_getElem?_getD, show n.net.margin = n.margin from rfl, List.getElem?_eq_getElem (by omega)]; rfl
    have hm2 : n.margin[i2.toNat]? = some (mar n.net i2.toNat) := by
      unfold mar
      rw [List.getD_eq_getElem?_getD, show n.net.margin = n.margin from rfl, List.getElem?_eq_getElem (by omega)]; rfl
    have q1 := fun {H' : List HP} {w : World} (hin : n.In B w0 H') (hr : Rd B w0 H' A (M.flatMap celF)) (hw : St B w0 H' w) => disturbance_spec n M (shareAt s.sch i) c.2.2.2.1 hck ⟨t0, t1⟩ hal hMl hno (cap := cap) hin hr hw
    have q2 := fun {H' : List HP} {w : World} (hin : n.In B w0 H') (hr : Rd B w0 H' A (M.flatMap celF)) (hw : St B w0 H' w) => disturbance_spec n M (shareAt s.sch i) c.2.2.1 hck ⟨f0, f1⟩ hal hMl hno (cap := cap) hin hr hw
    have r1 := fun {H' : List HP} {w : World} (hin : n.In B w0 H') (hw : St B w0 H' w) => Hears_spec n (mar n.net i1.toNat) (distE n.net M (shareAt s.sch i) c.2.2.2.1) hin hw
    have r2 := fun {H' : List HP} {w : World} (hin : n.In B w0 H') (hw : St B w0 H' w) => Hears_spec n (mar n.net i2.toNat) (distE n.net M (shareAt s.sch i) c.2.2.1) hin hw
    have hres : disturbB n.net s.sch i = (!(hearsE n.net (mar n.net i1.toNat) (distE n.net M (shareAt s.sch i) c.2.2.2.1)) || !(hearsE n.net (mar n.net i2.toNat) (distE n.net M (shareAt s.sch i) c.2.2.1))) := by
      unfold disturbB
      rw [hc, ← hMS]
      unfold fromC toC
      rw [hi1, hi2]
    obtain ⟨b1, hb1⟩ : ∃ b, hearsE n.net (mar n.net i1.toNat) (distE n.net M (shareAt s.sch i) c.2.2.2.1) = b := ⟨_, rfl⟩
    obtain ⟨b2, hb2⟩ : ∃ b, hearsE n.net (mar n.net i2.toNat) (distE n.net M (shareAt s.sch i) c.2.2.1) = b := ⟨_, rfl⟩
    rw [hb1] at r1 hres
    rw [hb2] at r2 hres
    rw [hres]
    dsimp only [List.cons_append, List.nil_append]
    unfold cels intB schB netN
    cases b1 with
    | false =>
      repeat' (first | (apply zg2; refine zs6 ?_) | (apply zg3; first | refine zs7 ?_ | refine zs8 ?_ | refine zs61 ?_) | (apply zg5; refine zs10 ?_) | (apply zg22; refine zs51 ?_) | (apply zg24; (refine zs54 ?_; intro _)) | apply (zs65 ?_) | apply (zs68 ?_) | apply (zs69 ?_) | apply (zs70 ?_) | apply (zs79 ?_) | (apply zg28; refine zs84 ?_) | fail)
      first | apply VL_callt en86 | apply VL_callq en86
      (repeat (first | exact args_nil | (apply args_cons; exact rfl)))
      exact rfl
      exact fun _ hw => (p1 (by repeat (first | exact hinm | apply NetM.In.cons)) hw)
      repeat' (first | (apply zg2; refine zs6 ?_) | (apply zg3; first | refine zs7 ?_ | refine zs8 ?_) | fail)
      first | apply VL_callt en86 | apply VL_callq en86
      (repeat (first | exact args_nil | (apply args_cons; exact rfl)))
      exact rfl
      exact fun _ hw => (p2 (by repeat (first | exact hinm | apply NetM.In.cons)) hw)
      repeat' (first | apply (zs1 ?_) | apply (zs2 ?_) | (apply zg2; refine zs6 ?_) | (apply zg3; first | refine zs7 ?_ | refine zs8 ?_ | refine zs60 ?_) | (apply zg5; refine zs57 ?_) | apply (zs66 ?_) | apply (zs68 ?_) | apply (zs69 ?_) | (apply zg28; refine zs84 ?_) | fail)
      first | apply VL_callt en89 | apply VL_callq en89
      (repeat (first | exact args_nil | (apply args_cons; exact rfl)))
      exact rfl
      exact fun _ hw => (q1 (by repeat (first | exact hinm | apply NetM.In.cons)) (Rd.sl (by (focus repeat (first | with_reducible exact List.mem_cons_self | with_reducible apply List.mem_cons_of_mem | assumption)))) hw)
      repeat' (first | fail)
      first | apply VL_callt en88 | apply VL_callq en88
      (repeat (first | exact args_nil | (apply args_cons; exact rfl)))
      exact rfl
      exact fun _ hw => (r1 (by repeat (first | exact hinm | apply NetM.In.cons)) hw)
      repeat' (first | apply (zs1 ?_) | apply (zs2 ?_) | (apply zg1; refine zs3 ?_) | (apply zg6; refine zs11 ?_) | (apply zg20; refine zs48 ?_) | apply (zs66 ?_) | apply (zs68 ?_) | apply (zs74 ?_) | fail)
      apply VQ_mark
      · (repeat (first | with_reducible exact rem_here | with_reducible apply rem_there))
      apply VQ_m
      apply VQ_st H
      · intro w hw
        have h5 : St B w0 [many H] w := by
          revert w
          (intro w hw; refine hw.perm ?_; focus repeat (first | with_reducible exact Perm.refl _ | (with_reducible apply perm_take; focus ((repeat (first | with_reducible exact rem_here | with_reducible apply rem_there)); done)) | with_reducible apply Perm.dropK))
        exact h5.perm (.openT H)
      apply VQ_ret1; exact rfl; exact rfl; exact ⟨rfl, rfl⟩
    | true =>
      cases b2 with
      | false =>
        repeat' (first | (apply zg2; refine zs6 ?_) | (apply zg3; first | refine zs7 ?_ | refine zs8 ?_ | refine zs61 ?_) | (apply zg5; refine zs10 ?_) | (apply zg22; refine zs51 ?_) | (apply zg24; (refine zs54 ?_; intro _)) | apply (zs65 ?_) | apply (zs68 ?_) | apply (zs69 ?_) | apply (zs70 ?_) | apply (zs79 ?_) | (apply zg28; refine zs84 ?_) | fail)
        first | apply VL_callt en86 | apply VL_callq en86
        (repeat (first | exact args_nil | (apply args_cons; exact rfl)))
        exact rfl
        exact fun _ hw => (p1 (by repeat (first | exact hinm | apply NetM.In.cons)) hw)
        repeat' (first | (apply zg2; refine zs6 ?_) | (apply zg3; first | refine zs7 ?_ | refine zs8 ?_) | fail)
        first | apply VL_callt en86 | apply VL_callq en86
        (repeat (first | exact args_nil | (apply args_cons; exact rfl)))
        exact rfl
        exact fun _ hw => (p2 (by repeat (first | exact hinm | apply NetM.In.cons)) hw)
        repeat' (first | apply (zs1 ?_) | apply (zs2 ?_) | (apply zg2; refine zs6 ?_) | (apply zg3; first | refine zs7 ?_ | refine zs8 ?_ | refine zs60 ?_) | (apply zg5; refine zs57 ?_) | apply (zs66 ?_) | apply (zs68 ?_) | apply (zs69 ?_) | (apply zg28; refine zs84 ?_) | fail)
        first | apply VL_callt en89 | apply VL_callq en89
        (repeat (first | exact args_nil | (apply args_cons; exact rfl)))
        exact rfl
        exact fun _ hw => (q1 (by repeat (first | exact hinm | apply NetM.In.cons)) (Rd.sl (by (focus repeat (first | with_reducible exact List.mem_cons_self | with_reducible apply List.mem_cons_of_mem | assumption)))) hw)
        repeat' (first | fail)
        first | apply VL_callt en88 | apply VL_callq en88
        (repeat (first | exact args_nil | (apply args_cons; exact rfl)))
        exact rfl
        exact fun _ hw => (r1 (by repeat (first | exact hinm | apply NetM.In.cons)) hw)
        repeat' (first | apply (zs1 ?_) | (apply zg1; refine zs4 ?_) | (apply zg2; refine zs6 ?_) | (apply zg3; first | refine zs7 ?_ | refine zs8 ?_ | refine zs60 ?_) | (apply zg5; refine zs57 ?_) | (apply zg20; refine zs47 ?_) | fail)
        first | apply VL_callt en89 | apply VL_callq en89
        (repeat (first | exact args_nil | (apply args_cons; exact rfl)))
        exact rfl
        exact fun _ hw => (q2 (by repeat (first | exact hinm | apply NetM.In.cons)) (Rd.sl (by (focus repeat (first | with_reducible exact List.mem_cons_self | with_reducible apply List.mem_cons_of_mem | assumption)))) hw)
        repeat' (first | (apply zg1; refine zs4 ?_) | fail)
        first | apply VL_callt en88 | apply VL_callq en88
        (repeat (first | exact args_nil | (apply args_cons; exact rfl)))
        exact rfl
        exact fun _ hw => (r2 (by repeat (first | exact hinm | apply NetM.In.cons)) hw)
        repeat' (first | apply (zs2 ?_) | (apply zg1; refine zs4 ?_) | (apply zg6; refine zs12 ?_) | (apply zg20; refine zs48 ?_) | apply (zs66 ?_) | apply (zs68 ?_) | apply (zs74 ?_) | fail)
        apply VQ_mark
        · (repeat (first | with_reducible exact rem_here | with_reducible apply rem_there))
        apply VQ_m
        apply VQ_st H
        · intro w hw
          have h5 : St B w0 [many H] w := by
            revert w
            (intro w hw; refine hw.perm ?_; focus repeat (first | with_reducible exact Perm.refl _ | (with_reducible apply perm_take; focus ((repeat (first | with_reducible exact rem_here | with_reducible apply rem_there)); done)) | with_reducible apply Perm.dropK))
          exact h5.perm (.openT H)
        apply VQ_ret1; exact rfl; exact rfl; exact ⟨rfl, rfl⟩
      | true =>
        repeat' (first | (apply zg2; refine zs6 ?_) | (apply zg3; first | refine zs7 ?_ | refine zs8 ?_ | refine zs61 ?_) | (apply zg5; refine zs10 ?_) | (apply zg22; refine zs51 ?_) | (apply zg24; (refine zs54 ?_; intro _)) | apply (zs65 ?_) | apply (zs68 ?_) | apply (zs69 ?_) | apply (zs70 ?_) | apply (zs79 ?_) | (apply zg28; refine zs84 ?_) | fail)
        first | apply VL_callt en86 | apply VL_callq en86
        (repeat (first | exact args_nil | (apply args_cons; exact rfl)))
        exact rfl
        exact fun _ hw => (p1 (by repeat (first | exact hinm | apply NetM.In.cons)) hw)
        repeat' (first | (apply zg2; refine zs6 ?_) | (apply zg3; first | refine zs7 ?_ | refine zs8 ?_) | fail)
        first | apply VL_callt en86 | apply VL_callq en86
        (repeat (first | exact args_nil | (apply args_cons; exact rfl)))
        exact rfl
        exact fun _ hw => (p2 (by repeat (first | exact hinm | apply NetM.In.cons)) hw)
        repeat' (first | apply (zs1 ?_) | apply (zs2 ?_) | (apply zg2; refine zs6 ?_) | (apply zg3; first | refine zs7 ?_ | refine zs8 ?_ | refine zs60 ?_) | (apply zg5; refine zs57 ?_) | apply (zs66 ?_) | apply (zs68 ?_) | apply (zs69 ?_) | (apply zg28; refine zs84 ?_) | fail)
        first | apply VL_callt en89 | apply VL_callq en89
        (repeat (first | exact args_nil | (apply args_cons; exact rfl)))
        exact rfl
        exact fun _ hw => (q1 (by repeat (first | exact hinm | apply NetM.In.cons)) (Rd.sl (by (focus repeat (first | with_reducible exact List.mem_cons_self | with_reducible apply List.mem_cons_of_mem | assumption)))) hw)
        repeat' (first | fail)
        first | apply VL_callt en88 | apply VL_callq en88
        (repeat (first | exact args_nil | (apply args_cons; exact rfl)))
        exact rfl
        exact fun _ hw => (r1 (by repeat (first | exact hinm | apply NetM.In.cons)) hw)
        repeat' (first | apply (zs1 ?_) | (apply zg1; refine zs4 ?_) | (apply zg2; refine zs6 ?_) | (apply zg3; first | refine zs7 ?_ | refine zs8 ?_ | refine zs60 ?_) | (apply zg5; refine zs57 ?_) | (apply zg20; refine zs47 ?_) | fail)
        first | apply VL_callt en89 | apply VL_callq en89
        (repeat (first | exact args_nil | (apply args_cons; exact rfl)))
        exact rfl
        exact fun _ hw => (q2 (by repeat (first | exact hinm | apply NetM.In.cons)) (Rd.sl (by (focus repeat (first | with_reducible exact List.mem_cons_self | with_reducible apply List.mem_cons_of_mem | assumption)))) hw)
        repeat' (first | (apply zg1; refine zs4 ?_) | fail)
        first | apply VL_callt en88 | apply VL_callq en88
        (repeat (first | exact args_nil | (apply args_cons; exact rfl)))
        exact rfl
        exact fun _ hw => (r2 (by repeat (first | exact hinm | apply NetM.In.cons)) hw)
        repeat' (first | apply (zs2 ?_) | (apply zg1; refine zs4 ?_) | (apply zg6; refine zs12 ?_) | (apply zg20; refine zs47 ?_) | apply (zs66 ?_) | apply (zs68 ?_) | apply (zs74 ?_) | fail)
        apply VQ_mark
        · (repeat (first | with_reducible exact rem_here | with_reducible apply rem_there))
        apply VQ_m
        apply VQ_st H
        · intro w hw
          have h5 : St B w0 [many H] w := by
            revert w
            (intro w hw; refine hw.perm ?_; focus repeat (first | with_reducible exact Perm.refl _ | (with_reducible apply perm_take; focus ((repeat (first | with_reducible exact rem_here | with_reducible apply rem_there)); done)) | with_reducible apply Perm.dropK))
          exact h5.perm (.openT H)
        apply VQ_ret1; exact rfl; exact rfl; exact ⟨rfl, rfl⟩
end Go.Proofs.YtnkpfpgmbpnbgaaGreatDoor

/- Schedules, plain: what was added is there, and can be removed; a valid schedule has its form. -/
namespace Go.Proofs.YtnkpfpgmbpnbgaaGreatDoor
open Go.RowKit Go.Eng Go.Nw

/-- A flow that is found is one of the list. -/
theorem find_mem {l : List Flw} {id : Int} (h : 0 ≤ findF l id) : ∃ f ∈ l, f.1 = id := by
  unfold findF at h
  have := (idx_any (fun f : Flw => decide (f.1 = id)) l 0 (Int.le_refl _)).1 h
  obtain ⟨f, hf, hp⟩ := List.any_eq_true.1 this
  exact ⟨f, hf, of_decide_eq_true hp⟩
theorem flows_ids {nodes : Int} {l : List Flw} (h : (flowsE nodes l).2 = 0) : ∀ f ∈ l, 0 ≤ f.1 ∧ f.1 ≤ 255 ∧ 1 ≤ f.2.2.2.1 ∧ f.2.2.2.1 ≤ 512 := by
  intro f hf
  obtain ⟨i, hi⟩ := List.mem_iff_getElem?.1 hf
  have hl := (List.getElem?_eq_some_iff.1 hi).1
  unfold flowsE at h
  split at h
  · cases h
  split at h
  · cases h
  have := firstF_ok.1 h i (Nat.zero_le _) (by omega)
  unfold flowAtE at this
  have e : flwAt l i = f := by unfold flwAt; rw [List.getD_eq_getElem?_getD, hi]; rfl
  rw [e] at this
  split at this
  · rename_i h1; exact absurd this h1
  · rename_i h1
    have h2 : flowE nodes f = 0 := Decidable.not_not.1 h1
    unfold flowE at h2
    split at h2
    · cases h2
    split at h2
    · cases h2
    omega
structure Val (n : Net) (l : List Flw) (s : Sch) : Prop where
  whole : wholeE n l s = 0
  cells : (cellsF n l s).2 = 0
  twice : (twiceF s).2 = 0
  dist : (distF n s).2 = 0
theorem whole_ok {n : Net} {l : List Flw} {s : Sch} (h : wholeE n l s = 0) : checkE n = 0 ∧ (flowsE n.nodes l).2 = 0 ∧ sizedE s = true ∧ (∀ f ∈ l, s.len.tmod f.2.2.2.1 = 0) ∧ s.cells.length ≤ 512 := by
  unfold wholeE at h
  by_cases h1 : checkE n = 0
  rotate_left
  · rw [if_pos h1] at h; cases h
  rw [if_neg (fun e => e h1)] at h
  by_cases h2 : (flowsE n.nodes l).2 = 0
  rotate_left
  · rw [if_pos h2] at h; cases h
  rw [if_neg (fun e => e h2)] at h
  cases h3 : sizedE s with
  | false => rw [h3, if_pos rfl] at h; cases h
  | true =>
    rw [h3, if_neg (by decide)] at h
    split at h
    · cases h
    rename_i h4
    split at h
    · cases h
    refine ⟨h1, h2, rfl, fun f hf => ?_, by omega⟩
    have := List.any_eq_false.1 (Bool.eq_false_iff.2 h4) f hf
    simpa using this
theorem Val.frm {n : Net} {l : List Flw} {s : Sch} (h : Val n l s) : Frm s := by
  obtain ⟨h1, h2, h3, h4, h5⟩ := whole_ok h.whole
  have hok := check_ok h1
  have k1 := firstF_ok.1 h.cells
  have hids := flows_ids h2
  have hn := hok.n1
  have hcell : ∀ i, i < s.cells.length → placedE s (celAt s i) = true ∧ goodE n (fromC (celAt s i)) (toC (celAt s i)) = true ∧ 0 ≤ findF l (flowC (celAt s i)) ∧ (0 < i → celLt (celAt s (i - 1)) (celAt s i) = true) := fun i hi => by
    have := k1 i (Nat.zero_le _) (by omega)
    unfold cellF at this
    cases hp : placedE s (celAt s i) with
    | false => rw [hp, if_pos rfl] at this; cases this
    | true =>
      rw [hp, if_neg (by decide)] at this
      split at this
      · cases this
      rename_i h6
      split at this
      · cases this
      rename_i h7
      refine ⟨rfl, ?_, ?_, fun h0 => ?_⟩
      · cases hg : goodE n (fromC (celAt s i)) (toC (celAt s i)) with
        | true => rfl
        | false => exact absurd (.inl hg) h6
      · exact Int.not_lt.1 fun hlt => h6 (.inr hlt)
      · cases hc : celLt (celAt s (i - 1)) (celAt s i) with
        | true => rfl
        | false => exact absurd ⟨h0, hc⟩ h7
  refine ⟨h3, h5, fun c hc => ?_, ?_⟩
  · obtain ⟨i, hi⟩ := List.mem_iff_getElem?.1 hc
    obtain ⟨a1, a2, a3, _⟩ := hcell i (List.getElem?_eq_some_iff.1 hi).1
    rw [celAt_get hi] at a1 a2 a3
    have hg := good_nodes hok a2
    obtain ⟨f, hf, hfe⟩ := find_mem a3
    have hid := hids f hf
    unfold fromC toC flowC at *
    unfold formedE insE
    rw [a1, decide_eq_true (by omega), decide_eq_true (by omega), decide_eq_true (by omega)]
    rfl
  · refine ord_of_steps (lt := celLt) (fun h1 h2 => cel_trans h1 h2) fun i a b ha hb => ?_
    have := (hcell (i + 1) (List.getElem?_eq_some_iff.1 hb).1).2.2.2 (by omega)
    rw [Nat.add_sub_cancel, celAt_get ha, celAt_get hb] at this
    exact this
end Go.Proofs.YtnkpfpgmbpnbgaaGreatDoor

/- Walks: the program's Check. -/
namespace Go.Proofs.YtnkpfpgmbpnbgaaGreatDoor
open Go.RowKit Go.Eng Go.Nw

theorem cells_good {n : Net} {l : List Flw} {s : Sch} (h1 : (cellsF n l s).2 = 0) : ∀ c ∈ s.cells, goodE n (fromC c) (toC c) = true := by
  have k1 := firstF_ok.1 h1
  intro c hc
  obtain ⟨i, hi⟩ := List.mem_iff_getElem?.1 hc
  have hl := (List.getElem?_eq_some_iff.1 hi).1
  have := k1 i (Nat.zero_le _) (by omega)
  unfold cellF at this
  rw [celAt_get hi] at this
  cases hg : goodE n (fromC c) (toC c) with
  | true => rfl
  | false =>
    rw [hg] at this
    split at this
    · omega
    · rw [if_pos (.inl rfl)] at this; omega
theorem flows_few {nodes : Int} {l : List Flw} (h : (flowsE nodes l).2 = 0) : l.length ≤ 16 := by
  unfold flowsE at h
  split at h
  · cases h
  split at h
  · cases h
  · omega
set_option maxRecDepth 10000 in
set_option maxHeartbeats 4000000 in
theorem schCheck_spec (n : NetM) (l : List Flw) (s : SchM) (hlf : l.length ≤ 9223372036854775807) (hl : s.cells.length ≤ 1000000000000) {A : Option Addr} {cap B : Nat} {w0 : World} {H : List HP} {w : World} (hin : n.In B w0 H) (hrf : Rd B w0 H A (l.flatMap flwF)) (hr : Rd B w0 H s.A (s.cells.flatMap celF)) (hw : St B w0 H w) :
    Calls Tryz.prog 14 [n.val, .slice A l.length cap, s.val].toArray w (Post B w0 fun v K => v = .tuple #[.int .i64 (schE n.net l s.sch).1, .int .i64 (schE n.net l s.sch).2] ∧ K = H) := by
  refine Calls_of_VC Tryz.func14 Tryz.ntmps14 rfl rfl hw ?_
  have e4 : s.sch.cells.length = s.cells.length := rfl
  have e5 : s.sch.len = s.len := rfl
  have hchk := fun {H' : List HP} {w : World} (hin : n.In B w0 H') (hw : St B w0 H' w) => check_spec n hin hw
  have hsz := fun {H' : List HP} {w : World} (hw : St B w0 H' w) => sized_spec s hw
  by_cases h1 : checkE n.net = 0
  rotate_left
  · have hS : schE n.net l s.sch = (-1, 1) := by
      have hw1 : wholeE n.net l s.sch = 1 := by unfold wholeE; rw [if_pos h1]
      unfold schE; rw [hw1]; rfl
    rw [hS]
    repeat' (first | ((first | apply VL_callt en38 | apply VL_callq en38); (repeat (first | exact args_nil | (apply args_cons; exact rfl))); exact rfl; exact fun _ hw => (hchk hin.cons.cons hw)) | apply (zs2 ?_) | (apply zg3; refine zs8 ?_) | (apply zg8; (refine zs16 ?_ ?_ <;> intro _ <;> try (exfalso; omega))) | (apply zg23; (refine zs52 ?_; intro _)) | apply (zs65 ?_) | apply (zs68 ?_) | apply (zs69 ?_) | apply (zs70 ?_) | (apply zg27; refine zs71 ?_) | apply (zs74 ?_) | apply (zs77 ?_) | fail)
    apply VQ_st H
    · (intro w hw; refine hw.perm ?_; focus repeat (first | with_reducible exact Perm.refl _ | (with_reducible apply perm_take; focus ((repeat (first | with_reducible exact rem_here | with_reducible apply rem_there)); done)) | with_reducible apply Perm.dropK))
    apply VQ_ret2; exact rfl; exact rfl; exact rfl; exact ⟨rfl, rfl⟩
  rw [h1] at hchk
  by_cases h2 : (flowsE n.nodes l).2 = 0
  rotate_left
  · have hS : schE n.net l s.sch = (-1, 1) := by
      have hw1 : wholeE n.net l s.sch = 1 := by unfold wholeE; rw [if_neg (by omega)]; exact if_pos h2
      unfold schE; rw [hw1]; rfl
    rw [hS]
    repeat' (first | ((first | apply VL_callt en38 | apply VL_callq en38); (repeat (first | exact args_nil | (apply args_cons; exact rfl))); exact rfl; exact fun _ hw => (hchk hin.cons.cons hw)) | ((first | apply VL_callt en39 | apply VL_callq en39); (repeat (first | exact args_nil | (apply args_cons; exact rfl))); exact rfl; exact fun _ hw => (fcheckAll_spec n.nodes l hlf hrf.cons.cons hw)) | apply (zs1 ?_) | apply (zs2 ?_) | (apply zg2; refine zs6 ?_) | (apply zg3; first | refine zs7 ?_ | refine zs8 ?_) | apply (zs13 ?_) | (apply zg8; (refine zs16 ?_ ?_ <;> intro _ <;> try (exfalso; omega))) | (apply zg23; (refine zs52 ?_; intro _)) | apply (zs65 ?_) | apply (zs68 ?_) | apply (zs69 ?_) | apply (zs70 ?_) | (apply zg27; first | refine zs71 ?_ | refine zs72 ?_) | apply (zs74 ?_) | apply (zs76 ?_) | apply (zs77 ?_) | fail)
    apply VQ_st H
    · (intro w hw; refine hw.perm ?_; focus repeat (first | with_reducible exact Perm.refl _ | (with_reducible apply perm_take; focus ((repeat (first | with_reducible exact rem_here | with_reducible apply rem_there)); done)) | with_reducible apply Perm.dropK))
    apply VQ_ret2; exact rfl; exact rfl; exact rfl; exact ⟨rfl, rfl⟩
  have hl16 := flows_few h2
  have hper := flows_ids h2
  cases h3 : sizedE s.sch with
  | false =>
    rw [h3] at hsz
    have hS : schE n.net l s.sch = (-1, 2) := by
      have hw1 : wholeE n.net l s.sch = 2 := by unfold wholeE; rw [if_neg (by omega), if_neg (fun h => h h2), if_pos h3]
      unfold schE; rw [hw1]; rfl
    rw [hS]
    repeat' (first | ((first | apply VL_callt en38 | apply VL_callq en38); (repeat (first | exact args_nil | (apply args_cons; exact rfl))); exact rfl; exact fun _ hw => (hchk hin.cons.cons hw)) | ((first | apply VL_callt en39 | apply VL_callq en39); (repeat (first | exact args_nil | (apply args_cons; exact rfl))); exact rfl; exact fun _ hw => (fcheckAll_spec n.nodes l hlf hrf.cons.cons hw)) | ((first | apply VL_callt en40 | apply VL_callq en40); (repeat (first | exact args_nil | (apply args_cons; exact rfl))); exact rfl; exact fun _ hw => (hsz hw)) | apply (zs1 ?_) | apply (zs2 ?_) | (apply zg2; refine zs6 ?_) | (apply zg3; first | refine zs7 ?_ | refine zs8 ?_) | apply (zs13 ?_) | (apply zg8; (refine zs16 ?_ ?_ <;> intro _ <;> try (exfalso; omega))) | (apply zg20; refine zs48 ?_) | (apply zg23; (refine zs52 ?_; intro _)) | apply (zs65 ?_) | apply (zs68 ?_) | apply (zs69 ?_) | apply (zs70 ?_) | (apply zg27; first | refine zs71 ?_ | refine zs72 ?_) | apply (zs73 ?_) | apply (zs74 ?_) | apply (zs76 ?_) | apply (zs77 ?_) | apply (zs78 ?_) | fail)
    apply VQ_st H
    · (intro w hw; refine hw.perm ?_; focus repeat (first | with_reducible exact Perm.refl _ | (with_reducible apply perm_take; focus ((repeat (first | with_reducible exact rem_here | with_reducible apply rem_there)); done)) | with_reducible apply Perm.dropK))
    apply VQ_ret2; exact rfl; exact rfl; exact rfl; exact ⟨rfl, rfl⟩
  | true =>
  rw [h3] at hsz
  have hsl : 1 ≤ s.len ∧ s.len ≤ 512 := by
    have := of_decide_eq_true h3
    exact ⟨this.1, this.2.1⟩
  obtain ⟨b, hb⟩ : ∃ b, (l.any fun f => decide (s.len.tmod f.2.2.2.1 ≠ 0)) = b := ⟨_, rfl⟩
  have hw0 : wholeE n.net l s.sch = if b = true then 11 else if 512 < s.cells.length then 8 else 0 := by
    unfold wholeE
    rw [if_neg (by omega), if_neg (fun h => h h2), h3, if_neg (by decide), e5, hb]
    rfl
  have hcf := fun {H' : List HP} {w : World} (gs : Nat) (hm : blk gs (.cells #[.int .i64 s.len, .int .i64 s.off, .slice s.A s.cells.length s.cap] 30 (0, 0)) ∈ H') (hr : Rd B w0 H' A (l.flatMap flwF)) (hw : St B w0 H' w) => containsF_spec (fun f => decide (s.len.tmod f.2.2.2.1 ≠ 0)) l 42 [.pointer (some ⟨gs, 0, none⟩)] en42 (by omega) (cap := cap) hr (fun f hf w hw => period1_spec s f gs hsl ⟨(hper f hf).2.2.1, (hper f hf).2.2.2⟩ hm hw) hw
  rw [hb] at hcf
  cases b with
  | true =>
    rw [if_pos rfl] at hw0
    have hS : schE n.net l s.sch = (-1, 11) := by unfold schE; rw [hw0]; rfl
    rw [hS]
    repeat' (first | ((first | apply VL_callt en38 | apply VL_callq en38); (repeat (first | exact args_nil | (apply args_cons; exact rfl))); exact rfl; exact fun _ hw => (hchk hin.cons.cons hw)) | ((first | apply VL_callt en39 | apply VL_callq en39); (repeat (first | exact args_nil | (apply args_cons; exact rfl))); exact rfl; exact fun _ hw => (fcheckAll_spec n.nodes l hlf hrf.cons.cons hw)) | ((first | apply VL_callt en40 | apply VL_callq en40); (repeat (first | exact args_nil | (apply args_cons; exact rfl))); exact rfl; exact fun _ hw => (hsz hw)) | ((first | apply VL_callt en41 | apply VL_callq en41); (repeat (first | exact args_nil | (apply args_cons; exact rfl))); exact rfl; exact fun _ hw => (hcf _ (by (focus repeat (first | with_reducible exact List.mem_cons_self | with_reducible apply List.mem_cons_of_mem | assumption))) hrf.cons.cons hw)) | apply (zs1 ?_) | apply (zs2 ?_) | (apply zg2; refine zs6 ?_) | (apply zg3; first | refine zs7 ?_ | refine zs8 ?_) | apply (zs13 ?_) | (apply zg8; (refine zs16 ?_ ?_ <;> intro _ <;> try (exfalso; omega))) | (apply zg20; refine zs47 ?_) | (apply zg23; (refine zs52 ?_; intro _)) | apply (zs65 ?_) | apply (zs68 ?_) | apply (zs69 ?_) | apply (zs70 ?_) | (apply zg27; first | refine zs71 ?_ | refine zs72 ?_) | apply (zs73 ?_) | apply (zs74 ?_) | apply (zs76 ?_) | apply (zs77 ?_) | apply (zs78 ?_) | (apply zg29; (apply VL_makeFunc; (repeat (first | exact args_nil | (apply args_cons; exact rfl))) ; exact rfl)) | fail)
    apply VQ_st H
    · (intro w hw; refine hw.perm ?_; focus repeat (first | with_reducible exact Perm.refl _ | (with_reducible apply perm_take; focus ((repeat (first | with_reducible exact rem_here | with_reducible apply rem_there)); done)) | with_reducible apply Perm.dropK))
    apply VQ_ret2; exact rfl; exact rfl; exact rfl; exact ⟨rfl, rfl⟩
  | false =>
  rw [if_neg (by decide)] at hw0
  by_cases h5 : 512 < s.cells.length
  · rw [if_pos h5] at hw0
    have hS : schE n.net l s.sch = (-1, 8) := by unfold schE; rw [hw0]; rfl
    rw [hS]
    repeat' (first | ((first | apply VL_callt en38 | apply VL_callq en38); (repeat (first | exact args_nil | (apply args_cons; exact rfl))); exact rfl; exact fun _ hw => (hchk hin.cons.cons hw)) | ((first | apply VL_callt en39 | apply VL_callq en39); (repeat (first | exact args_nil | (apply args_cons; exact rfl))); exact rfl; exact fun _ hw => (fcheckAll_spec n.nodes l hlf hrf.cons.cons hw)) | ((first | apply VL_callt en40 | apply VL_callq en40); (repeat (first | exact args_nil | (apply args_cons; exact rfl))); exact rfl; exact fun _ hw => (hsz hw)) | ((first | apply VL_callt en41 | apply VL_callq en41); (repeat (first | exact args_nil | (apply args_cons; exact rfl))); exact rfl; exact fun _ hw => (hcf _ (by (focus repeat (first | with_reducible exact List.mem_cons_self | with_reducible apply List.mem_cons_of_mem | assumption))) hrf.cons.cons hw)) | apply (zs1 ?_) | apply (zs2 ?_) | (apply zg2; refine zs6 ?_) | (apply zg3; first | refine zs7 ?_ | refine zs8 ?_) | (apply zg4; refine zs9 ?_) | apply (zs13 ?_) | (apply zg8; (refine zs16 ?_ ?_ <;> intro _ <;> try (exfalso; omega))) | (apply (zs19 ?_ ?_) <;> intro _ <;> try (exfalso; omega)) | (apply zg20; refine zs47 ?_) | (apply zg23; (refine zs52 ?_; intro _)) | apply (zs65 ?_) | apply (zs68 ?_) | apply (zs69 ?_) | apply (zs70 ?_) | (apply zg27; first | refine zs71 ?_ | refine zs72 ?_) | apply (zs73 ?_) | apply (zs74 ?_) | apply (zs76 ?_) | apply (zs77 ?_) | apply (zs78 ?_) | (apply zg29; (apply VL_makeFunc; (repeat (first | exact args_nil | (apply args_cons; exact rfl))) ; exact rfl)) | fail)
    apply VQ_st H
    · (intro w hw; refine hw.perm ?_; focus repeat (first | with_reducible exact Perm.refl _ | (with_reducible apply perm_take; focus ((repeat (first | with_reducible exact rem_here | with_reducible apply rem_there)); done)) | with_reducible apply Perm.dropK))
    apply VQ_ret2; exact rfl; exact rfl; exact rfl; exact ⟨rfl, rfl⟩
  rw [if_neg h5] at hw0
  have hS : schE n.net l s.sch = if (cellsF n.net l s.sch).2 ≠ 0 then cellsF n.net l s.sch else if (twiceF s.sch).2 ≠ 0 then twiceF s.sch else distF n.net s.sch := by
    unfold schE; rw [hw0]; rfl
  rw [hS]
  have hcc := fun {H' : List HP} {w : World} (hin : n.In B w0 H') (hrf : Rd B w0 H' A (l.flatMap flwF)) (hr : Rd B w0 H' s.A (s.cells.flatMap celF)) (hw : St B w0 H' w) => checkCells_spec n l s h1 (by omega) hl (cap := cap) hin hrf hr hw
  obtain ⟨⟨c1, c2⟩, hcv⟩ : ∃ R, cellsF n.net l s.sch = R := ⟨_, rfl⟩
  rw [hcv] at hcc ⊢
  dsimp only at hcc ⊢
  by_cases h6 : c2 ≠ 0
  · rw [if_pos h6]
    repeat' (first | ((first | apply VL_callt en38 | apply VL_callq en38); (repeat (first | exact args_nil | (apply args_cons; exact rfl))); exact rfl; exact fun _ hw => (hchk hin.cons.cons hw)) | ((first | apply VL_callt en39 | apply VL_callq en39); (repeat (first | exact args_nil | (apply args_cons; exact rfl))); exact rfl; exact fun _ hw => (fcheckAll_spec n.nodes l hlf hrf.cons.cons hw)) | ((first | apply VL_callt en40 | apply VL_callq en40); (repeat (first | exact args_nil | (apply args_cons; exact rfl))); exact rfl; exact fun _ hw => (hsz hw)) | ((first | apply VL_callt en41 | apply VL_callq en41); (repeat (first | exact args_nil | (apply args_cons; exact rfl))); exact rfl; exact fun _ hw => (hcf _ (by (focus repeat (first | with_reducible exact List.mem_cons_self | with_reducible apply List.mem_cons_of_mem | assumption))) hrf.cons.cons hw)) | ((first | apply VL_callt en43 | apply VL_callq en43); (repeat (first | exact args_nil | (apply args_cons; exact rfl))); exact rfl; exact fun _ hw => (hcc hin.cons.cons hrf.cons.cons hr.cons.cons hw)) | apply (zs1 ?_) | apply (zs2 ?_) | (apply zg2; refine zs6 ?_) | (apply zg3; first | refine zs7 ?_ | refine zs8 ?_) | (apply zg4; refine zs9 ?_) | apply (zs13 ?_) | (apply zg8; (refine zs16 ?_ ?_ <;> intro _ <;> try (exfalso; omega))) | (apply (zs19 ?_ ?_) <;> intro _ <;> try (exfalso; omega)) | (apply zg20; refine zs47 ?_) | (apply zg23; (refine zs52 ?_; intro _)) | apply (zs65 ?_) | apply (zs68 ?_) | apply (zs69 ?_) | apply (zs70 ?_) | (apply zg27; first | refine zs71 ?_ | refine zs72 ?_) | apply (zs73 ?_) | apply (zs74 ?_) | apply (zs76 ?_) | apply (zs77 ?_) | apply (zs79 ?_) | (apply zg29; (apply VL_makeFunc; (repeat (first | exact args_nil | (apply args_cons; exact rfl))) ; exact rfl)) | fail)
    apply VQ_st H
    · (intro w hw; refine hw.perm ?_; focus repeat (first | with_reducible exact Perm.refl _ | (with_reducible apply perm_take; focus ((repeat (first | with_reducible exact rem_here | with_reducible apply rem_there)); done)) | with_reducible apply Perm.dropK))
    apply VQ_ret2; exact rfl; exact rfl; exact rfl; exact ⟨rfl, rfl⟩
  obtain rfl : c2 = 0 := Decidable.not_not.1 h6
  rw [if_neg h6]
  have hgood := cells_good (n := n.net) (l := l) (s := s.sch) (by rw [hcv])
  repeat' (first | ((first | apply VL_callt en38 | apply VL_callq en38); (repeat (first | exact args_nil | (apply args_cons; exact rfl))); exact rfl; exact fun _ hw => (hchk hin.cons.cons hw)) | ((first | apply VL_callt en39 | apply VL_callq en39); (repeat (first | exact args_nil | (apply args_cons; exact rfl))); exact rfl; exact fun _ hw => (fcheckAll_spec n.nodes l hlf hrf.cons.cons hw)) | ((first | apply VL_callt en40 | apply VL_callq en40); (repeat (first | exact args_nil | (apply args_cons; exact rfl))); exact rfl; exact fun _ hw => (hsz hw)) | ((first | apply VL_callt en41 | apply VL_callq en41); (repeat (first | exact args_nil | (apply args_cons; exact rfl))); exact rfl; exact fun _ hw => (hcf _ (by (focus repeat (first | with_reducible exact List.mem_cons_self | with_reducible apply List.mem_cons_of_mem | assumption))) hrf.cons.cons hw)) | ((first | apply VL_callt en43 | apply VL_callq en43); (repeat (first | exact args_nil | (apply args_cons; exact rfl))); exact rfl; exact fun _ hw => (hcc hin.cons.cons hrf.cons.cons hr.cons.cons hw)) | apply (zs1 ?_) | apply (zs2 ?_) | (apply zg2; refine zs6 ?_) | (apply zg3; first | refine zs7 ?_ | refine zs8 ?_) | (apply zg4; refine zs9 ?_) | apply (zs13 ?_) | (apply zg8; (refine zs16 ?_ ?_ <;> intro _ <;> try (exfalso; omega))) | (apply (zs19 ?_ ?_) <;> intro _ <;> try (exfalso; omega)) | (apply zg20; refine zs47 ?_) | (apply zg23; (refine zs52 ?_; intro _)) | apply (zs65 ?_) | apply (zs68 ?_) | apply (zs69 ?_) | apply (zs70 ?_) | (apply zg27; refine zs72 ?_) | apply (zs73 ?_) | apply (zs76 ?_) | apply (zs79 ?_) | (apply zg29; (apply VL_makeFunc; (repeat (first | exact args_nil | (apply args_cons; exact rfl))) ; exact rfl)) | fail)
  first | (rename_i gn gs; guard_hyp gn : Nat; guard_hyp gs : Nat) | (rename_i gn gs _; guard_hyp gn : Nat; guard_hyp gs : Nat) | (rename_i gn gs _ _; guard_hyp gn : Nat; guard_hyp gs : Nat) | (rename_i gn gs _ _ _; guard_hyp gn : Nat; guard_hyp gs : Nat) | (rename_i gn gs _ _ _ _; guard_hyp gn : Nat; guard_hyp gs : Nat) | (rename_i gn gs _ _ _ _ _; guard_hyp gn : Nat; guard_hyp gs : Nat) | (rename_i gn gs _ _ _ _ _ _; guard_hyp gn : Nat; guard_hyp gs : Nat)
  refine VC_loop1 (fun (k : Nat) => [(53, .int .i64 k), (52, .int .i64 s.cells.length), (51, .slice s.A s.cells.length s.cap), (3, .pointer (some ⟨gn, 0, none⟩)), (5, .pointer (some ⟨gs, 0, none⟩))]) (fun _ => blk gs (.cells #[.int .i64 s.len, .int .i64 s.off, .slice s.A s.cells.length s.cap] 30 (0, 0)) :: netN gn n :: H) (fun k => k ≤ s.cells.length ∧ ∀ j, j < k → twiceB s.sch j = false) (fun k => s.cells.length - k) 0 ⟨Nat.zero_le _, fun j hj => absurd hj (Nat.not_lt_zero _)⟩ ?_ (fun w hw => hw) ?_
  · (repeat (first | exact sub_nil _ | (apply sub_cons; first | exact rfl | exact congrArg (fun z : Int => some (Value.int .i64 z)) (by omega))))
  rintro k ⟨hk, hall⟩ K hK
  have hF : twiceF s.sch = firstF (fun i => if twiceB s.sch i = true then 6 else 0) s.cells.length 0 := rfl
  unfold netN
  by_cases hlt : k < s.cells.length
  · have htc := fun {H' : List HP} {w : World} (hr : Rd B w0 H' s.A (s.cells.flatMap celF)) (hw : St B w0 H' w) => twice_spec s k hlt (by omega) hr hw
    cases htw : twiceB s.sch k with
    | true =>
      rw [htw] at htc
      have hT : twiceF s.sch = ((k : Int), 6) := by
        rw [hF, firstF_at (i := k) (fun j _ hj => by simp only [hall j hj]; rfl) (Nat.zero_le _) (by omega) (by simp only [htw]; decide)]
        simp [htw]
      rw [hT, if_pos (show (6 : Int) ≠ 0 by decide)]
      repeat' (first | ((first | apply VL_callt en44 | apply VL_callq en44); (repeat (first | exact args_nil | (apply args_cons; exact rfl))); exact rfl; exact fun _ hw => (htc hr.cons.cons hw)) | apply (zs1 ?_) | apply (zs2 ?_) | (apply zg3; refine zs8 ?_) | (apply (zs17 ?_ ?_) <;> intro _ <;> try (exfalso; omega)) | apply (zs65 ?_) | apply (zs68 ?_) | apply (zs69 ?_) | apply (zs70 ?_) | (apply zg27; refine zs71 ?_) | apply (zs73 ?_) | apply (zs74 ?_) | apply (zs76 ?_) | apply (zs77 ?_) | apply (zs78 ?_) | fail)
      apply VQ_st H
      · (intro w hw; refine hw.perm ?_; focus repeat (first | with_reducible exact Perm.refl _ | (with_reducible apply perm_take; focus ((repeat (first | with_reducible exact rem_here | with_reducible apply rem_there)); done)) | with_reducible apply Perm.dropK))
      apply VQ_ret2; exact rfl; exact rfl; exact rfl; exact ⟨rfl, rfl⟩
    | false =>
      rw [htw] at htc
      repeat' (first | ((first | apply VL_callt en44 | apply VL_callq en44); (repeat (first | exact args_nil | (apply args_cons; exact rfl))); exact rfl; exact fun _ hw => (htc hr.cons.cons hw)) | apply (zs1 ?_) | apply (zs2 ?_) | (apply zg3; refine zs8 ?_) | (apply (zs17 ?_ ?_) <;> intro _ <;> try (exfalso; omega)) | (apply zg13; refine zs30 ?_) | apply (zs65 ?_) | apply (zs68 ?_) | apply (zs69 ?_) | apply (zs70 ?_) | (apply zg27; first | refine zs71 ?_ | refine zs72 ?_) | apply (zs73 ?_) | apply (zs76 ?_) | apply (zs79 ?_) | fail)
      apply hK (k + 1)
      · refine ⟨by omega, fun j hj => ?_⟩
        by_cases e : j = k
        · rw [e]; exact htw
        · exact hall j (by omega)
      · omega
      · (repeat (first | exact sub_nil _ | (apply sub_cons; first | exact rfl | exact congrArg (fun z : Int => some (Value.int .i64 z)) (by omega))))
      · unfold netN
        (intro w hw; refine hw.perm ?_; focus repeat (first | with_reducible exact Perm.refl _ | (with_reducible apply perm_take; focus ((repeat (first | with_reducible exact rem_here | with_reducible apply rem_there)); done)) | with_reducible apply Perm.dropK))
  have hT : (twiceF s.sch).2 = 0 := by
    rw [hF, firstF_ok]
    intro j _ hj
    simp only [hall j (by omega)]
    rfl
  rw [if_neg (fun h => h hT)]
  clear hK
  repeat' (first | apply (zs1 ?_) | (apply zg2; refine zs6 ?_) | (apply zg3; refine zs7 ?_) | (apply zg4; refine zs9 ?_) | (apply (zs17 ?_ ?_) <;> intro _ <;> try (exfalso; omega)) | apply (zs65 ?_) | apply (zs68 ?_) | apply (zs69 ?_) | apply (zs70 ?_) | (apply zg27; refine zs72 ?_) | apply (zs73 ?_) | apply (zs75 ?_) | apply (zs80 ?_) | apply (zs81 ?_) | fail)
  refine VC_loop1 (fun (k : Nat) => [(64, .int .i64 k), (63, .int .i64 s.cells.length), (62, .slice s.A s.cells.length s.cap), (3, .pointer (some ⟨gn, 0, none⟩)), (5, .pointer (some ⟨gs, 0, none⟩))]) (fun _ => blk gs (.cells #[.int .i64 s.len, .int .i64 s.off, .slice s.A s.cells.length s.cap] 30 (0, 0)) :: netN gn n :: H) (fun k => k ≤ s.cells.length ∧ ∀ j, j < k → disturbB n.net s.sch j = false) (fun k => s.cells.length - k) 0 ⟨Nat.zero_le _, fun j hj => absurd hj (Nat.not_lt_zero _)⟩ ?_ (fun w hw => hw) ?_
  · (repeat (first | exact sub_nil _ | (apply sub_cons; first | exact rfl | exact congrArg (fun z : Int => some (Value.int .i64 z)) (by omega))))
  rintro k ⟨hk, hall⟩ K2 hK
  have hF : distF n.net s.sch = firstF (fun i => if disturbB n.net s.sch i = true then 16 else 0) s.cells.length 0 := rfl
  unfold netN
  by_cases hlt : k < s.cells.length
  · have htc := fun {H' : List HP} {w : World} (hin : n.In B w0 H') (hr : Rd B w0 H' s.A (s.cells.flatMap celF)) (hw : St B w0 H' w) => disturbed_spec n s k h1 hgood hlt (by omega) hin hr hw
    cases htw : disturbB n.net s.sch k with
    | true =>
      rw [htw] at htc
      have hT : distF n.net s.sch = ((k : Int), 16) := by
        rw [hF, firstF_at (i := k) (fun j _ hj => by simp only [hall j hj]; rfl) (Nat.zero_le _) (by omega) (by simp only [htw]; decide)]
        simp [htw]
      rw [hT]
      repeat' (first | ((first | apply VL_callt en45 | apply VL_callq en45); (repeat (first | exact args_nil | (apply args_cons; exact rfl))); exact rfl; exact fun _ hw => (htc hin.cons.cons hr.cons.cons hw)) | apply (zs1 ?_) | apply (zs2 ?_) | (apply zg3; refine zs8 ?_) | (apply (zs17 ?_ ?_) <;> intro _ <;> try (exfalso; omega)) | apply (zs65 ?_) | apply (zs68 ?_) | apply (zs69 ?_) | apply (zs70 ?_) | (apply zg27; refine zs71 ?_) | apply (zs73 ?_) | apply (zs74 ?_) | apply (zs76 ?_) | apply (zs77 ?_) | apply (zs78 ?_) | fail)
      apply VQ_st H
      · (intro w hw; refine hw.perm ?_; focus repeat (first | with_reducible exact Perm.refl _ | (with_reducible apply perm_take; focus ((repeat (first | with_reducible exact rem_here | with_reducible apply rem_there)); done)) | with_reducible apply Perm.dropK))
      apply VQ_ret2; exact rfl; exact rfl; exact rfl; exact ⟨rfl, rfl⟩
    | false =>
      rw [htw] at htc
      repeat' (first | ((first | apply VL_callt en45 | apply VL_callq en45); (repeat (first | exact args_nil | (apply args_cons; exact rfl))); exact rfl; exact fun _ hw => (htc hin.cons.cons hr.cons.cons hw)) | apply (zs1 ?_) | apply (zs2 ?_) | (apply zg3; refine zs8 ?_) | (apply (zs17 ?_ ?_) <;> intro _ <;> try (exfalso; omega)) | (apply zg13; refine zs30 ?_) | apply (zs65 ?_) | apply (zs68 ?_) | apply (zs69 ?_) | apply (zs70 ?_) | (apply zg27; first | refine zs71 ?_ | refine zs72 ?_) | apply (zs73 ?_) | apply (zs76 ?_) | apply (zs79 ?_) | fail)
      apply hK (k + 1)
      · refine ⟨by omega, fun j hj => ?_⟩
        by_cases e : j = k
        · rw [e]; exact htw
        · exact hall j (by omega)
      · omega
      · (repeat (first | exact sub_nil _ | (apply sub_cons; first | exact rfl | exact congrArg (fun z : Int => some (Value.int .i64 z)) (by omega))))
      · unfold netN
        (intro w hw; refine hw.perm ?_; focus repeat (first | with_reducible exact Perm.refl _ | (with_reducible apply perm_take; focus ((repeat (first | with_reducible exact rem_here | with_reducible apply rem_there)); done)) | with_reducible apply Perm.dropK))
  · have hT : distF n.net s.sch = (-1, 0) := by
      rw [hF]
      exact firstF_no fun j _ hj => by simp only [hall j (by omega)]; rfl
    rw [hT]
    repeat' (first | apply (zs2 ?_) | (apply (zs17 ?_ ?_) <;> intro _ <;> try (exfalso; omega)) | apply (zs65 ?_) | apply (zs68 ?_) | apply (zs69 ?_) | apply (zs70 ?_) | (apply zg27; refine zs72 ?_) | apply (zs74 ?_) | apply (zs75 ?_) | apply (zs80 ?_) | apply (zs81 ?_) | fail)
    apply VQ_st H
    · (intro w hw; refine hw.perm ?_; focus repeat (first | with_reducible exact Perm.refl _ | (with_reducible apply perm_take; focus ((repeat (first | with_reducible exact rem_here | with_reducible apply rem_there)); done)) | with_reducible apply Perm.dropK))
    apply VQ_ret2; exact rfl; exact rfl; exact rfl; exact ⟨rfl, rfl⟩
end Go.Proofs.YtnkpfpgmbpnbgaaGreatDoor

/- Walks: the bound on networks. -/
namespace Go.Proofs.YtnkpfpgmbpnbgaaGreatDoor
open Go.RowKit Go.Eng Go.Nw

def fewN35 (n : Net) : Bool := decide ((∀ r ∈ n.power, r.length ≤ 40) ∧ n.power.length ≤ 8 ∧ n.links.length ≤ 60 ∧ n.margin.length ≤ 60)
theorem few31_spec (n : NetM) {B : Nat} {w0 : World} {H : List HP} {w : World} (hin : n.In B w0 H) (hw : St B w0 H w) :
    Calls Tryz.prog 12 [n.val].toArray w (Post B w0 fun v K => v = .bool (fewN35 n.net) ∧ K = H) := by
  refine Calls_of_VC Tryz.func12 Tryz.ntmps12 rfl rfl hw ?_
  obtain ⟨hpw, hrw, hlk, hmg, hs1, hs2, hs3, hs4⟩ := id hin
  have e1 : (∀ r ∈ n.net.power, r.length ≤ 40) ↔ ∀ r ∈ n.rows, r.xs.length ≤ 40 := by simp [NetM.net]
  have e2 : n.net.power.length = n.rows.length := by simp [NetM.net]
  have e3 : n.net.links = n.links := rfl
  have e4 : n.net.margin = n.margin := rfl
  unfold fewN35
  rw [e2, e3, e4]
  (apply VC_seq; apply VC_region; apply VL_box_agg; exact rfl; exact rfl; intro g)
  repeat' (first | apply (zs2 ?_) | apply (zs65 ?_) | apply (zs68 ?_) | apply (zs69 ?_) | apply (zs70 ?_) | apply (zs73 ?_) | fail)
  refine VC_loop1 (fun (a : Nat) => [(3, .int .i64 a), (1, .pointer (some ⟨g, 0, none⟩))]) (fun _ => netN g n :: H) (fun a => a ≤ n.rows.length ∧ ∀ j r, j < a → n.rows[j]? = some r → r.xs.length ≤ 40) (fun a => n.rows.length - a) 0 ⟨Nat.zero_le _, by intro j r hj; omega⟩ ?_ (fun w hw => hw) ?_
  · (repeat (first | exact sub_nil _ | (apply sub_cons; first | exact rfl | exact congrArg (fun z : Int => some (Value.int .i64 z)) (by omega))))
  rintro a ⟨ha, hai⟩ K hK
  unfold netN
  by_cases hlt : a < n.rows.length
  · obtain ⟨r, hr⟩ : ∃ r, n.rows[a]? = some r := ⟨_, List.getElem?_eq_getElem hlt⟩
    have hs2r := hs2 r (List.mem_of_getElem? hr)
    repeat' (first | apply (zs1 ?_) | apply (zs2 ?_) | (apply zg2; refine zs6 ?_) | (apply zg3; first | refine zs7 ?_ | refine zs60 ?_) | (apply zg4; refine zs9 ?_) | (apply zg5; refine zs57 ?_) | (apply (zs17 ?_ ?_) <;> intro _ <;> try (exfalso; omega)) | (apply (zs19 ?_ ?_) <;> intro _ <;> try (exfalso; omega)) | (apply zg13; refine zs30 ?_) | apply (zs65 ?_) | apply (zs68 ?_) | apply (zs69 ?_) | apply (zs70 ?_) | (apply zg27; first | refine zs71 ?_ | refine zs72 ?_) | apply (zs73 ?_) | apply (zs74 ?_) | apply (zs76 ?_) | apply (zs77 ?_) | apply (zs78 ?_) | apply (zs79 ?_) | fail)
    · rename_i h
      apply VQ_tail; apply VQ_ret1; exact rfl; exact rfl
      exact ⟨by rw [decide_eq_false fun hc => by have := e1.1 hc.1 r (List.mem_of_getElem? hr); omega], rfl⟩
    · rename_i h
      apply hK (a + 1)
      · refine ⟨by omega, fun j q hj hq => ?_⟩
        by_cases e : j = a
        · subst e; rw [hr] at hq; rw [← Option.some.inj hq]; omega
        · exact hai j q (by omega) hq
      · omega
      · (repeat (first | exact sub_nil _ | (apply sub_cons; first | exact rfl | exact congrArg (fun z : Int => some (Value.int .i64 z)) (by omega))))
      · exact fun w hw => hw
  obtain rfl : a = n.rows.length := by omega
  have hall : ∀ r ∈ n.rows, r.xs.length ≤ 40 := fun r hr => by
    obtain ⟨j, hj⟩ := List.getElem?_of_mem hr
    exact hai j r (List.getElem?_eq_some_iff.1 hj).1 hj
  repeat' (first | apply (zs1 ?_) | apply (zs2 ?_) | (apply zg1; first | refine zs3 ?_ | refine zs4 ?_) | (apply zg2; refine zs6 ?_) | (apply zg3; refine zs7 ?_) | (apply zg4; refine zs9 ?_) | (apply zg6; first | refine zs11 ?_ | refine zs12 ?_) | (apply (zs17 ?_ ?_) <;> intro _ <;> try (exfalso; omega)) | (apply (zs18 ?_ ?_) <;> intro _ <;> try (exfalso; omega)) | apply (zs65 ?_) | apply (zs68 ?_) | apply (zs69 ?_) | apply (zs70 ?_) | (apply zg27; refine zs72 ?_) | apply (zs74 ?_) | apply (zs75 ?_) | apply (zs80 ?_) | apply (zs81 ?_) | fail)
  · apply VQ_tail; apply VQ_ret1; exact rfl; exact rfl
    exact ⟨by rw [decide_eq_true ⟨e1.2 hall, by omega, by omega, by omega⟩], rfl⟩
  all_goals (apply VQ_tail; apply VQ_ret1; exact rfl; exact rfl; exact ⟨by rw [decide_eq_false fun hc => by omega], rfl⟩)
end Go.Proofs.YtnkpfpgmbpnbgaaGreatDoor

/- Schedules, plain: what is valid, said cell by cell; with fewer cells it stays so. -/
namespace Go.Proofs.YtnkpfpgmbpnbgaaGreatDoor
open Go.RowKit Go.Eng Go.Nw

def cpN (n : Net) (node : Int) (d : Cel) : Int := powN n (fromC d) node + powN n (toC d) node
def sumC (n : Net) (node : Int) (l : List Cel) : Int := (l.map (cpN n node)).sum
theorem sumC_nil (n : Net) (node : Int) : sumC n node [] = 0 := rfl
theorem sumC_cons (n : Net) (node : Int) (d : Cel) (l : List Cel) : sumC n node (d :: l) = cpN n node d + sumC n node l := by unfold sumC; rw [List.map_cons, List.sum_cons]
theorem sumC_append (n : Net) (node : Int) : ∀ l m : List Cel, sumC n node (l ++ m) = sumC n node l + sumC n node m
  | [], m => by rw [List.nil_append, sumC_nil]; omega
  | d :: l, m => by rw [List.cons_append, sumC_cons, sumC_cons, sumC_append n node l m]; omega
theorem sumC_sub {n : Net} (h : Ok n) (node : Int) {l m : List Cel} (hs : l.Sublist m) : sumC n node l ≤ sumC n node m := by
  induction hs with
  | slnil => exact Int.le_refl _
  | @cons l m d _ ih =>
    rw [sumC_cons]
    have h1 := powN_bd h (fromC d) node
    have h2 := powN_bd h (toC d) node
    unfold cpN
    omega
  | cons_cons d _ ih => rw [sumC_cons, sumC_cons]; omega
theorem dist_sum {n : Net} {l : List Cel} (hnd : l.Nodup) {j : Nat} {c : Cel} (hj : l[j]? = some c) (node : Int) : ∀ k, k ≤ l.length → distTo n l j node k = sumC n node ((l.take k).filter fun d => decide (d ≠ c))
  | 0, _ => rfl
  | k + 1, hk => by
    obtain ⟨d, hd⟩ : ∃ d, l[k]? = some d := ⟨_, List.getElem?_eq_getElem hk⟩
    have hc : celL l k = d := by unfold celL; rw [List.getD_eq_getElem?_getD, hd]; rfl
    unfold distTo
    rw [dist_sum hnd hj node k (by omega), List.take_add_one, hd, List.filter_append, sumC_append, hc]
    congr 1
    by_cases e : k = j
    · subst e
      rw [hj] at hd
      obtain rfl := Option.some.inj hd
      rw [if_pos rfl]
      simp [sumC]
    · have hne : d ≠ c := fun h => by
        subst h
        obtain ⟨h1, h2⟩ := List.getElem?_eq_some_iff.1 hd
        obtain ⟨h3, h4⟩ := List.getElem?_eq_some_iff.1 hj
        have hp := List.pairwise_iff_getElem.1 hnd
        rcases Nat.lt_or_gt_of_ne e with h | h
        · exact hp k j h1 h3 h (by rw [h2, h4])
        · exact hp j k h3 h1 h (by rw [h2, h4])
      rw [if_neg e]
      simp only [Option.toList_some, List.filter_cons, decide_eq_true hne, if_true, List.filter_nil]
      rw [sumC_cons, sumC_nil]
      unfold cpN
      omega
/-- The disturbance of a cell among cells, at a node. -/
def distS (n : Net) (l : List Cel) (c : Cel) (node : Int) : Int := sumC n node (l.filter fun d => placeB c d && decide (d ≠ c))
def clearB (n : Net) (l : List Cel) (c : Cel) : Bool := heardE n (mar n (findE n (fromC c) (toC c)).toNat) (distS n l c (toC c)) && heardE n (mar n (findE n (toC c) (fromC c)).toNat) (distS n l c (fromC c))
theorem dist_clear {n : Net} (hck : checkE n = 0) {s : Sch} (hf : Fine n s) (ho : Ord s.cells) {i : Nat} (hi : i < s.cells.length) : disturbB n s i = !(clearB n s.cells (celAt s i)) := by
  have hok := check_ok hck
  rw [dist_ref hck hf hi]
  have hnd := ord_nodup ho
  have hat := share_at hi
  have hsub : (shareE s i).Sublist s.cells := List.filter_sublist
  have hnds := hnd.sublist hsub
  have hc : celL (shareE s i) (shareAt s i) = celAt s i := by unfold celL; rw [List.getD_eq_getElem?_getD, hat]; rfl
  have hd : ∀ node, distTo n (shareE s i) (shareAt s i) node (shareE s i).length = distS n s.cells (celAt s i) node := fun node => by
    rw [dist_sum hnds hat node _ (Nat.le_refl _), List.take_length]
    unfold distS shareE
    rw [List.filter_filter]
    congr 1
    refine List.filter_congr fun x _ => ?_
    exact Bool.and_comm _ _
  have hg := hf.good _ (celAt_mem hi)
  have hr := dist_ref hck hf hi
  have hto : ((List.range (shareE s i).length).any fun k => decide (k ≠ shareAt s i) && touchE (celL (shareE s i) (shareAt s i)) (celL (shareE s i) k)) = false := by
    have hpw : (shareE s i).Pairwise fun a b => touchE a b = false := by
      refine (hf.once.sublist hsub).imp_of_mem fun {a b} ha hb hab => hab ?_
      have h1 := (List.mem_filter.1 ha).2
      have h2 := (List.mem_filter.1 hb).2
      unfold placeB at h1 h2
      simp only [decide_eq_true_eq] at h1 h2
      rw [h1.1, h2.1]
    have hlt := (List.getElem?_eq_some_iff.1 hat).1
    rw [List.any_eq_false]
    intro k hk
    have hk := List.mem_range.1 hk
    by_cases e : k = shareAt s i
    · rw [decide_eq_false (fun h => h e)]; simp
    · have hpk := List.pairwise_iff_getElem.1 hpw
      have e1 : celL (shareE s i) k = (shareE s i)[k] := by unfold celL; rw [List.getD_eq_getElem?_getD, List.getElem?_eq_getElem hk]; rfl
      have e2 : celL (shareE s i) (shareAt s i) = (shareE s i)[shareAt s i] := by unfold celL; rw [List.getD_eq_getElem?_getD, List.getElem?_eq_getElem hlt]; rfl
      rw [decide_eq_true e, Bool.true_and, e1, e2]
      rcases Nat.lt_or_gt_of_ne e with h | h
      · rw [touch_comm, hpk k _ hk hlt h]; simp
      · rw [hpk _ k hlt hk h]; simp
  unfold rfaultB
  rw [hto, hc, hg, hd, hd]
  unfold clearB
  simp
/-- What is valid, cell by cell. -/
structure Sem (n : Net) (l : List Flw) (s : Sch) : Prop where
  ck : checkE n = 0
  fl : (flowsE n.nodes l).2 = 0
  per : ∀ f ∈ l, s.len.tmod f.2.2.2.1 = 0
  frm : Frm s
  good : ∀ c ∈ s.cells, goodE n (fromC c) (toC c) = true ∧ 0 ≤ findF l (flowC c)
  once : s.cells.Pairwise fun a b => a.1 = b.1 → touchE a b = false
  clear : ∀ c ∈ s.cells, clearB n s.cells c = true
theorem whole_zero {n : Net} {l : List Flw} {s : Sch} (h1 : checkE n = 0) (h2 : (flowsE n.nodes l).2 = 0) (h3 : sizedE s = true) (h4 : ∀ f ∈ l, s.len.tmod f.2.2.2.1 = 0) (h5 : s.cells.length ≤ 512) : wholeE n l s = 0 := by
  unfold wholeE
  rw [if_neg (fun h => h h1), if_neg (fun h => h h2), h3, if_neg (by decide), if_neg, if_neg (by omega)]
  rw [Bool.not_eq_true, List.any_eq_false]
  intro f hf
  rw [decide_eq_true_eq]
  exact fun h => h (h4 f hf)
theorem cells_zero {n : Net} {l : List Flw} {s : Sch} (hf : Frm s) (hg : ∀ c ∈ s.cells, goodE n (fromC c) (toC c) = true ∧ 0 ≤ findF l (flowC c)) : (cellsF n l s).2 = 0 := by
  refine firstF_ok.2 fun k _ hk => ?_
  have hk : k < s.cells.length := by omega
  have hm := celAt_mem hk
  have hfo := hf.formed _ hm
  unfold formedE at hfo
  simp only [Bool.and_eq_true] at hfo
  obtain ⟨g1, g2⟩ := hg _ hm
  unfold cellF
  rw [hfo.1.1.1, if_neg (by decide), g1, if_neg (by rintro (h | h); cases h; omega), if_neg]
  rintro ⟨h1, h2⟩
  have := all_range_at (List.all_eq_true.2 fun i hi => by
    have h := form_iff.2 hf
    unfold formE at h
    simp only [Bool.and_eq_true] at h
    exact List.all_eq_true.1 h.2 i hi) hk
  unfold celOk at this
  simp only [Bool.and_eq_true, Bool.or_eq_true, decide_eq_true_eq] at this
  rcases this.2 with h3 | h3
  · omega
  · rw [h2] at h3; cases h3
theorem twice_zero {s : Sch} (h : s.cells.Pairwise fun a b => a.1 = b.1 → touchE a b = false) : (twiceF s).2 = 0 := by
  refine firstF_ok.2 fun k _ hk => ?_
  have hk : k < s.cells.length := by omega
  have hb : twiceB s k = false := by
    unfold twiceB
    rw [List.any_eq_false]
    intro i hi
    have hi := List.mem_range.1 hi
    have e1 : celAt s i = s.cells[i]'(by omega) := celAt_get (List.getElem?_eq_getElem _)
    have e2 : celAt s k = s.cells[k] := celAt_get (List.getElem?_eq_getElem hk)
    have := List.pairwise_iff_getElem.1 h i k (by omega) hk hi
    rw [← e1, ← e2] at this
    by_cases he : (celAt s i).1 = (celAt s k).1
    · rw [touch_comm, this he]; simp
    · rw [decide_eq_false he]; simp
  simp only [hb]
  rfl
theorem heard_less {n : Net} (h : Ok n) {s d e : Int} (he : e ≤ d) (hd : heardE n s d = true) : heardE n s e = true := by
  unfold heardE at hd ⊢
  have h1 := of_decide_eq_true hd
  have h2 := h.t0
  have h3 : n.thr * (n.noise + e) ≤ n.thr * (n.noise + d) := Int.mul_le_mul_of_nonneg_left (by omega) (by omega)
  exact decide_eq_true (by omega)
/-- With fewer cells a valid schedule stays valid. -/
theorem Sem.sub {n : Net} {l : List Flw} {s t : Sch} (h : Sem n l s) (h1 : t.len = s.len) (h2 : t.off = s.off) (hs : t.cells.Sublist s.cells) : Sem n l t := by
  have hok := check_ok h.ck
  have hlen := hs.length_le
  have hfew := h.frm.few
  refine ⟨h.ck, h.fl, by rw [h1]; exact h.per, ⟨?_, by omega, fun c hc => ?_, h.frm.ord.sublist hs⟩, fun c hc => h.good c (hs.subset hc), h.once.sublist hs, fun c hc => ?_⟩
  · have := h.frm.sized
    unfold sizedE at this ⊢
    rw [h1, h2]; exact this
  · have := h.frm.formed c (hs.subset hc)
    unfold formedE placedE at this ⊢
    rw [h1, h2]; exact this
  · have := h.clear c (hs.subset hc)
    unfold clearB at this ⊢
    simp only [Bool.and_eq_true] at this ⊢
    have hd : ∀ node, distS n t.cells c node ≤ distS n s.cells c node := fun node => sumC_sub hok node (hs.filter _)
    exact ⟨heard_less hok (hd _) this.1, heard_less hok (hd _) this.2⟩
end Go.Proofs.YtnkpfpgmbpnbgaaGreatDoor

/- Schedules, plain: a schedule several times is valid exactly if it is, and has the same cells in each slot. -/
namespace Go.Proofs.YtnkpfpgmbpnbgaaGreatDoor
open Go.RowKit Go.Eng Go.Nw

theorem firstF_val {f : Nat → Int} : ∀ {r i : Nat}, (firstF f r i).2 ≠ 0 → ∃ k, i ≤ k ∧ k < i + r ∧ (firstF f r i).2 = f k ∧ f k ≠ 0
  | 0, i, h => absurd rfl h
  | r + 1, i, h => by
    unfold firstF at h ⊢
    split at h
    · rename_i h0
      rw [if_pos h0]
      obtain ⟨k, h1, h2, h3, h4⟩ := firstF_val h
      exact ⟨k, by omega, by omega, h3, h4⟩
    · rename_i h0
      rw [if_neg h0]
      exact ⟨i, Nat.le_refl _, by omega, rfl, h0⟩
def GoodS (n : Net) (l : List Flw) (s : Sch) : Prop := ∀ c ∈ s.cells, goodE n (fromC c) (toC c) = true ∧ 0 ≤ findF l (flowC c)
def OnceS (s : Sch) : Prop := s.cells.Pairwise fun a b => a.1 = b.1 → touchE a b = false
def ClearS (n : Net) (s : Sch) : Prop := ∀ c ∈ s.cells, clearB n s.cells c = true
theorem cell_kinds {n : Net} {l : List Flw} {s : Sch} (hf : Frm s) {i : Nat} (hi : i < s.cells.length) : cellF n l s i = 0 ∨ cellF n l s i = 7 := by
  have hm := celAt_mem hi
  have hfo := hf.formed _ hm
  unfold formedE at hfo
  simp only [Bool.and_eq_true] at hfo
  unfold cellF
  rw [hfo.1.1.1, if_neg (by decide)]
  split
  · exact .inr rfl
  rw [if_neg]
  · exact .inl rfl
  rintro ⟨h1, h2⟩
  obtain ⟨a1, a2⟩ := List.getElem?_eq_some_iff.1 (celAt_some (s := s) (i := i - 1) (by omega))
  obtain ⟨b1, b2⟩ := List.getElem?_eq_some_iff.1 (celAt_some (s := s) hi)
  have := List.pairwise_iff_getElem.1 hf.ord (i - 1) i a1 b1 (by omega)
  rw [a2, b2, h2] at this
  cases this
theorem codes {n : Net} {l : List Flw} {s : Sch} (hw : wholeE n l s = 0) (hf : Frm s) :
    ((schE n l s).2 = 7 ∧ ¬ GoodS n l s) ∨ ((schE n l s).2 = 6 ∧ GoodS n l s ∧ ¬ OnceS s) ∨ ((schE n l s).2 = 16 ∧ GoodS n l s ∧ OnceS s ∧ ¬ ClearS n s) ∨ ((schE n l s).2 = 0 ∧ GoodS n l s ∧ OnceS s ∧ ClearS n s) := by
  have hck := (whole_ok hw).1
  unfold schE
  rw [if_neg (fun h => h hw)]
  by_cases h2 : (cellsF n l s).2 ≠ 0
  · left
    rw [if_pos h2]
    obtain ⟨k, _, hk, h3, h4⟩ := firstF_val h2
    have h5 : (cellsF n l s).2 = 7 := by
      unfold cellsF
      rw [h3]
      rcases cell_kinds (n := n) (l := l) hf (i := k) (by omega) with h | h
      · exact absurd h h4
      · exact h
    exact ⟨h5, fun hg => h2 (cells_zero hf hg)⟩
  have hz2 := Decidable.not_not.1 h2
  rw [if_neg h2]
  have hg : GoodS n l s := fun c hc => by
    obtain ⟨i, hi⟩ := List.mem_iff_getElem?.1 hc
    have := firstF_ok.1 hz2 i (Nat.zero_le _) (by have := (List.getElem?_eq_some_iff.1 hi).1; omega)
    unfold cellF at this
    rw [celAt_get hi] at this
    split at this
    · cases this
    split at this
    · cases this
    rename_i h6
    refine ⟨?_, Int.not_lt.1 fun hlt => h6 (.inr hlt)⟩
    cases hg : goodE n (fromC c) (toC c) with
    | true => rfl
    | false => exact absurd (.inl hg) h6
  right
  by_cases h3 : (twiceF s).2 ≠ 0
  · left
    rw [if_pos h3]
    obtain ⟨k, _, hk, h4, h5⟩ := firstF_val h3
    refine ⟨?_, hg, fun ho => h3 (twice_zero ho)⟩
    unfold twiceF
    rw [h4]
    split at h5
    · rename_i h6; rw [if_pos h6]
    · exact absurd rfl h5
  have hz3 := Decidable.not_not.1 h3
  rw [if_neg h3]
  right
  have hfi := fine_of hz2 hz3
  have ho : OnceS s := hfi.once
  by_cases h4 : (distF n s).2 ≠ 0
  · left
    obtain ⟨k, _, hk, h5, h6⟩ := firstF_val h4
    refine ⟨?_, hg, ho, fun hc => h6 ?_⟩
    · unfold distF
      rw [h5]
      split at h6
      · rename_i h7; rw [if_pos h7]
      · exact absurd rfl h6
    · rw [dist_clear hck hfi hf.ord (by omega), hc _ (celAt_mem (by omega))]
      rfl
  · have hz4 := Decidable.not_not.1 h4
    right
    refine ⟨hz4, hg, ho, fun c hc => ?_⟩
    obtain ⟨i, hi⟩ := List.mem_iff_getElem?.1 hc
    have hl := (List.getElem?_eq_some_iff.1 hi).1
    have := firstF_ok.1 hz4 i (Nat.zero_le _) (by omega)
    simp only [dist_clear hck hfi hf.ord hl] at this
    rw [celAt_get hi] at this
    cases hcl : clearB n s.cells c with
    | true => rfl
    | false => rw [hcl] at this; simp at this

theorem rep_succ (s : Sch) (k : Nat) : repC s (k + 1) = repC s k ++ s.cells.map (movC ((k : Int) * s.len)) := by
  unfold repC
  rw [List.range_succ, List.flatMap_append]
  simp
theorem rep_len (s : Sch) : ∀ k, (repC s k).length = k * s.cells.length
  | 0 => by simp [repC]
  | k + 1 => by rw [rep_succ, List.length_append, rep_len s k, List.length_map, Nat.succ_mul]
theorem rep_mem {s : Sch} {k : Nat} {x : Cel} : x ∈ repC s k ↔ ∃ i, i < k ∧ ∃ c ∈ s.cells, x = movC ((i : Int) * s.len) c := by
  unfold repC
  simp only [List.mem_flatMap, List.mem_range, List.mem_map]
  constructor
  · rintro ⟨i, hi, c, hc, rfl⟩; exact ⟨i, hi, c, hc, rfl⟩
  · rintro ⟨i, hi, c, hc, rfl⟩; exact ⟨i, hi, c, hc, rfl⟩
theorem mov_lt (d : Int) (a b : Cel) : celLt (movC d a) (movC d b) = celLt a b := by
  unfold celLt movC nums
  simp only [lexLt]
  by_cases h : a.1 = b.1
  · rw [if_neg (show ¬ (a.1 + d ≠ b.1 + d) by omega), if_neg (show ¬ a.1 ≠ b.1 by omega)]
  · rw [if_pos (show a.1 + d ≠ b.1 + d by omega), if_pos h, decide_eq_decide]
    omega
theorem lt_slot {a b : Cel} (h : a.1 < b.1) : celLt a b = true := by
  unfold celLt nums
  simp only [lexLt]
  rw [if_pos (by omega)]
  exact decide_eq_true h
theorem mul_step {i j : Nat} {L : Int} (hL : 0 ≤ L) (h : i < j) : (i : Int) * L + L ≤ (j : Int) * L := by
  have h1 : ((i : Int) + 1) * L ≤ (j : Int) * L := Int.mul_le_mul_of_nonneg_right (by omega) hL
  rw [Int.add_mul] at h1
  omega
theorem slot_bd {s : Sch} (hf : Frm s) {c : Cel} (hc : c ∈ s.cells) : 0 ≤ c.1 ∧ c.1 < s.len := by
  have := hf.formed c hc
  unfold formedE placedE insE at this
  simp only [Bool.and_eq_true, decide_eq_true_eq] at this
  exact this.1.1.1.1
/-- Slots of different copies differ. -/
theorem slot_copy {s : Sch} (hf : Frm s) {c d : Cel} (hc : c ∈ s.cells) (hd : d ∈ s.cells) {i j : Nat} (h : c.1 + (i : Int) * s.len = d.1 + (j : Int) * s.len) : i = j ∧ c.1 = d.1 := by
  have h1 := slot_bd hf hc
  have h2 := slot_bd hf hd
  rcases Nat.lt_trichotomy i j with h3 | h3 | h3
  · have := mul_step (L := s.len) (by omega) h3; omega
  · subst h3; exact ⟨rfl, by omega⟩
  · have := mul_step (L := s.len) (by omega) h3; omega
theorem rep_ord {s : Sch} (hf : Frm s) (k : Nat) : Ord (repC s k) := by
  unfold repC
  refine List.pairwise_flatMap.2 ⟨fun i _ => ?_, ?_⟩
  · rw [List.pairwise_map]
    exact hf.ord.imp fun {a b} h => by rw [mov_lt]; exact h
  · refine List.pairwise_lt_range.imp fun {i j} hij x hx y hy => ?_
    obtain ⟨a, ha, rfl⟩ := List.mem_map.1 hx
    obtain ⟨b, hb, rfl⟩ := List.mem_map.1 hy
    have h1 := slot_bd hf ha
    have h2 := slot_bd hf hb
    have h3 := mul_step (L := s.len) (by omega) hij
    refine lt_slot ?_
    show a.1 + (i : Int) * s.len < b.1 + (j : Int) * s.len
    omega
structure Rep (s t : Sch) (k : Nat) : Prop where
  k1 : 1 ≤ k
  frm : Frm s
  len : t.len = s.len * k
  off : t.off = s.off
  cells : t.cells = repC s k
  l512 : s.len * k ≤ 512
  c512 : s.cells.length * k ≤ 512
theorem rep_of {s t : Sch} {times : Int} (h : repE s times = (t, 0)) : Rep s t times.toNat := by
  unfold repE at h
  split at h
  · injection h with _ h; cases h
  rename_i h1
  split at h
  · injection h with _ h; cases h
  rename_i h2
  split at h
  · injection h with _ h; cases h
  rename_i h3
  injection h with h _
  subst h
  have ht : ((times.toNat : Nat) : Int) = times := by omega
  refine ⟨by omega, form_iff.1 (by simpa using h1), by simp only; rw [ht], rfl, rfl, by rw [ht]; omega, ?_⟩
  have h4 : (s.cells.length : Int) * times ≤ 512 := by omega
  rw [← ht] at h4
  have : ((s.cells.length * times.toNat : Nat) : Int) ≤ 512 := by rw [Int.natCast_mul]; exact h4
  omega
theorem Rep.frmT {s t : Sch} {k : Nat} (h : Rep s t k) : Frm t := by
  have hs := h.frm.sized
  unfold sizedE at hs
  have hs := of_decide_eq_true hs
  have hL : s.len ≤ s.len * k := by
    have := Int.mul_le_mul_of_nonneg_left (a := 1) (b := (k : Int)) (c := s.len) (by have := h.k1; omega) (by omega)
    omega
  refine ⟨?_, ?_, fun x hx => ?_, by rw [h.cells]; exact rep_ord h.frm k⟩
  · unfold sizedE
    rw [h.len, h.off]
    have := h.l512
    exact decide_eq_true (by omega)
  · rw [h.cells, rep_len, Nat.mul_comm]; exact h.c512
  · rw [h.cells] at hx
    obtain ⟨i, hi, c, hc, rfl⟩ := rep_mem.1 hx
    have h1 := h.frm.formed c hc
    have h2 := slot_bd h.frm hc
    have h3 := mul_step (L := s.len) (by omega) hi
    have h4 : 0 ≤ (i : Int) * s.len := Int.mul_nonneg (by omega) (by omega)
    unfold formedE placedE insE at h1 ⊢
    simp only [Bool.and_eq_true, decide_eq_true_eq] at h1 ⊢
    rw [h.len, h.off, Int.mul_comm s.len]
    simp only [movC]
    omega
/-- Of the copies just one fits. -/
theorem rep_filter {s : Sch} {p q : Cel → Bool} {j0 : Nat} (hq : ∀ d ∈ s.cells, p (movC ((j0 : Int) * s.len) d) = q d) : ∀ {m : Nat}, (∀ j, j < m → j ≠ j0 → ∀ d ∈ s.cells, p (movC ((j : Int) * s.len) d) = false) → (repC s m).filter p = if j0 < m then (s.cells.filter q).map (movC ((j0 : Int) * s.len)) else []
  | 0, _ => by simp [repC]
  | m + 1, h => by
    rw [rep_succ, List.filter_append, rep_filter hq fun j hj => h j (by omega), List.filter_map]
    by_cases e : m = j0
    · subst e
      rw [if_neg (by omega), if_pos (by omega), List.nil_append]
      congr 1
      exact List.filter_congr fun d hd => hq d hd
    · have hz : s.cells.filter (p ∘ movC ((m : Int) * s.len)) = [] := by
        rw [List.filter_eq_nil_iff]
        intro d hd
        show ¬ p (movC ((m : Int) * s.len) d) = true
        rw [h m (by omega) e d hd]; simp
      rw [hz, List.map_nil, List.append_nil]
      by_cases h2 : j0 < m
      · rw [if_pos h2, if_pos (by omega)]
      · rw [if_neg h2, if_neg (by omega)]
theorem sum_mov (n : Net) (node d : Int) (l : List Cel) : sumC n node (l.map (movC d)) = sumC n node l := by
  unfold sumC
  rw [List.map_map]
  rfl
theorem Rep.dist {s t : Sch} {k : Nat} (h : Rep s t k) (n : Net) {i : Nat} (hi : i < k) {c : Cel} (hc : c ∈ s.cells) (node : Int) : distS n t.cells (movC ((i : Int) * s.len) c) node = distS n s.cells c node := by
  unfold distS
  rw [h.cells, rep_filter (j0 := i) (q := fun d => placeB c d && decide (d ≠ c)), if_pos hi, sum_mov]
  · intro d hd
    have h2 : (movC ((i : Int) * s.len) d ≠ movC ((i : Int) * s.len) c) ↔ d ≠ c := by
      constructor
      · intro h3 e; subst e; exact h3 rfl
      · intro h3 e
        apply h3
        obtain ⟨d1, d2⟩ := d
        obtain ⟨c1, c2⟩ := c
        unfold movC at e
        injection e with e1 e2
        simp only at e1 e2
        subst e2
        have : d1 = c1 := by omega
        rw [this]
    show (placeB _ _ && decide _) = (placeB _ _ && decide _)
    rw [decide_eq_decide.2 h2]
    congr 1
    unfold placeB movC
    rw [decide_eq_decide]
    simp only
    omega
  · intro j hj hne d hd
    have : placeB (movC ((i : Int) * s.len) c) (movC ((j : Int) * s.len) d) = false := by
      unfold placeB movC
      refine decide_eq_false ?_
      rintro ⟨h3, _⟩
      exact hne (slot_copy h.frm hd hc h3).1
    rw [this]; rfl
theorem Rep.good {s t : Sch} {k : Nat} (h : Rep s t k) (n : Net) (l : List Flw) : GoodS n l t ↔ GoodS n l s := by
  unfold GoodS
  rw [h.cells]
  constructor
  · intro hg c hc
    exact hg (movC (((0 : Nat) : Int) * s.len) c) (rep_mem.2 ⟨0, h.k1, c, hc, rfl⟩)
  · intro hg x hx
    obtain ⟨i, _, c, hc, rfl⟩ := rep_mem.1 hx
    exact hg c hc
theorem Rep.once {s t : Sch} {k : Nat} (h : Rep s t k) : OnceS t ↔ OnceS s := by
  unfold OnceS
  rw [h.cells]
  unfold repC
  rw [List.pairwise_flatMap]
  constructor
  · rintro ⟨h1, _⟩
    have := h1 0 (List.mem_range.2 h.k1)
    rw [List.pairwise_map] at this
    exact this.imp fun {a b} hab e => hab (by simp only [movC]; omega)
  · intro ho
    refine ⟨fun i _ => ?_, ?_⟩
    · rw [List.pairwise_map]
      exact ho.imp fun {a b} hab e => hab (by simp only [movC] at e; omega)
    · refine List.pairwise_lt_range.imp fun {i j} hij x hx y hy e => ?_
      obtain ⟨a, ha, rfl⟩ := List.mem_map.1 hx
      obtain ⟨b, hb, rfl⟩ := List.mem_map.1 hy
      have := (slot_copy h.frm ha hb e).1
      omega
theorem Rep.clear {s t : Sch} {k : Nat} (h : Rep s t k) (n : Net) : ClearS n t ↔ ClearS n s := by
  have hc : ∀ i, i < k → ∀ c ∈ s.cells, clearB n t.cells (movC ((i : Int) * s.len) c) = clearB n s.cells c := fun i hi c hc => by
    unfold clearB
    have e1 : fromC (movC ((i : Int) * s.len) c) = fromC c := rfl
    have e2 : toC (movC ((i : Int) * s.len) c) = toC c := rfl
    rw [e1, e2, h.dist n hi hc, h.dist n hi hc]
  unfold ClearS
  constructor
  · intro hg c hcm
    rw [← hc 0 h.k1 c hcm]
    exact hg _ (by rw [h.cells]; exact rep_mem.2 ⟨0, h.k1, c, hcm, rfl⟩)
  · intro hg x hx
    rw [h.cells] at hx
    obtain ⟨i, hi, c, hcm, rfl⟩ := rep_mem.1 hx
    rw [hc i hi c hcm]
    exact hg c hcm
/-- A repeated schedule has the same errors. -/
theorem again_sem {s t : Sch} {k : Nat} (h : Rep s t k) (n : Net) (l : List Flw) : (schE n l s).2 = 11 ∨ (schE n l s).2 = (schE n l t).2 := by
  have hft := h.frmT
  by_cases hw : wholeE n l s = 0
  · obtain ⟨h1, h2, h3, h4, h5⟩ := whole_ok hw
    have hwt : wholeE n l t = 0 := whole_zero h1 h2 hft.sized (fun f hf => by
      rw [h.len]
      have := h4 f hf
      exact Int.tmod_eq_zero_of_dvd (Int.dvd_trans (Int.dvd_of_tmod_eq_zero this) (Int.dvd_mul_right _ _))) hft.few
    have k1 := codes hw h.frm
    have k2 := codes hwt hft
    rw [h.good n l, h.once, h.clear n] at k2
    right
    rcases k1 with k1 | k1 | k1 | k1 <;> rcases k2 with k2 | k2 | k2 | k2 <;> first | (rw [k1.1, k2.1]; done) | (exfalso; simp_all)
  · by_cases h1 : checkE n = 0
    · by_cases h2 : (flowsE n.nodes l).2 = 0
      · left
        have e : wholeE n l s = 11 := by
          unfold wholeE at hw ⊢
          have h5 := h.frm.few
          rw [if_neg (fun h => h h1), if_neg (fun h => h h2), h.frm.sized, if_neg (by decide)] at hw ⊢
          split at hw
          · rename_i h6; rw [if_pos h6]
          · rw [if_neg (by omega)] at hw; exact absurd rfl hw
        unfold schE
        rw [if_pos hw]
        exact e
      · right
        have e : ∀ x, wholeE n l x = 1 := fun x => by unfold wholeE; rw [if_neg (fun h => h h1), if_pos h2]
        unfold schE
        rw [e, e, if_pos (by decide), if_pos (by decide)]
    · right
      have e : ∀ x, wholeE n l x = 1 := fun x => by unfold wholeE; rw [if_pos h1]
      unfold schE
      rw [e, e, if_pos (by decide), if_pos (by decide)]
theorem at_again {s t : Sch} {k : Nat} (h : Rep s t k) {slot : Int} (h0 : 0 ≤ slot) : ∃ d, atE t slot = (atE s slot).map (movC d) := by
  have hs := h.frm.sized
  unfold sizedE at hs
  have hs := of_decide_eq_true hs
  have hk := h.k1
  have hLk : 0 < s.len * k := Int.mul_pos (by omega) (by omega)
  have e1 : slot.tmod t.len = slot % (s.len * k) := by rw [h.len, Int.tmod_eq_emod_of_nonneg h0]
  have e2 : slot.tmod s.len = slot % s.len := Int.tmod_eq_emod_of_nonneg h0
  obtain ⟨r, hr⟩ : ∃ r, slot % (s.len * k) = r := ⟨_, rfl⟩
  have r0 : 0 ≤ r := by rw [← hr]; exact Int.emod_nonneg _ (by omega)
  have r1 : r < s.len * k := by rw [← hr]; exact Int.emod_lt_of_pos _ hLk
  have r2 : slot % s.len = r % s.len := by rw [← hr, Int.emod_emod_of_dvd _ (Int.dvd_mul_right _ _)]
  have r3 := Int.mul_ediv_add_emod r s.len
  have r4 : 0 ≤ r / s.len := Int.ediv_nonneg r0 (by omega)
  have r5 : r / s.len < k := Int.ediv_lt_of_lt_mul (by omega) (by rw [Int.mul_comm]; exact r1)
  obtain ⟨j0, hj0⟩ : ∃ j0 : Nat, r / s.len = j0 := ⟨(r / s.len).toNat, by omega⟩
  have m0 : 0 ≤ r % s.len := Int.emod_nonneg _ (by omega)
  have m1 : r % s.len < s.len := Int.emod_lt_of_pos _ (by omega)
  rw [hj0] at r3 r5
  refine ⟨(j0 : Int) * s.len, ?_⟩
  unfold atE
  rw [form_iff.2 h.frmT, form_iff.2 h.frm, if_neg (by rintro (h | h); cases h; omega), if_neg (by rintro (h | h); cases h; omega), e1, e2, hr, r2, h.cells]
  rw [rep_filter (j0 := j0) (q := fun c => decide (c.1 = r % s.len)), if_pos (by omega)]
  · intro d hd
    have hb := slot_bd h.frm hd
    refine decide_eq_decide.2 ?_
    show d.1 + (j0 : Int) * s.len = r ↔ d.1 = r % s.len
    rw [Int.mul_comm] at r3
    omega
  · intro j hj hne d hd
    refine decide_eq_false fun e => ?_
    have e : d.1 + (j : Int) * s.len = r := e
    have hb := slot_bd h.frm hd
    rw [Int.mul_comm] at r3
    rcases Nat.lt_or_gt_of_ne hne with h3 | h3
    · have := mul_step (L := s.len) (by omega) h3; omega
    · have := mul_step (L := s.len) (by omega) h3; omega
end Go.Proofs.YtnkpfpgmbpnbgaaGreatDoor

/- Walks: Repeat, of the program. -/
namespace Go.Proofs.YtnkpfpgmbpnbgaaGreatDoor
open Go.RowKit Go.Eng Go.Nw

theorem quo_mul {l t : Int} (h1 : 1 ≤ l) : 512 / l < t ↔ 512 < l * t := by
  rw [Int.ediv_lt_iff_lt_mul (by omega), Int.mul_comm]
theorem rep_part (s : Sch) (i k : Nat) (h : k < s.cells.length) : (s.cells.take (k + 1)).map (movC ((i : Int) * s.len)) = (s.cells.take k).map (movC ((i : Int) * s.len)) ++ [movC ((i : Int) * s.len) (celAt s k)] := by
  rw [List.take_add_one, celAt_some h, Option.toList_some, List.map_append]; rfl
theorem rep_le {s : Sch} {i k t : Nat} (hi : i < t) (hk : k ≤ s.cells.length) : (repC s i ++ (s.cells.take k).map (movC ((i : Int) * s.len))).length ≤ t * s.cells.length := by
  rw [List.length_append, rep_len, List.length_map, List.length_take]
  have h1 : (i + 1) * s.cells.length ≤ t * s.cells.length := Nat.mul_le_mul_right _ hi
  rw [Nat.add_mul] at h1
  omega
set_option maxRecDepth 10000 in
set_option maxHeartbeats 2000000 in
theorem repeat_spec (s : SchM) (times : Int) {B : Nat} {w0 : World} {H : List HP} {w : World} (hr : Rd B w0 H s.A (s.cells.flatMap celF)) (hl : s.cells.length ≤ 1000000000000) (hw : St B w0 H w) :
    Calls Tryz.prog 21 [s.val, .int .i64 times].toArray w (Post B w0 (OutS H (repE s.sch times))) := by
  refine Calls_of_VC Tryz.func21 Tryz.ntmps21 rfl rfl hw ?_
  have e1 : s.sch.cells = s.cells := rfl
  have e2 : s.sch.len = s.len := rfl
  cases hf : formE s.sch with
  | false =>
    repeat' (first | ((first | apply VL_callt en53 | apply VL_callq en53); (repeat (first | exact args_nil | (apply args_cons; exact rfl))); exact rfl; exact fun _ hw => (calls_val (congrArg Value.bool hf) (fun _ hw => form_spec s hr.cons.cons hl hw) hw)) | apply (zs2 ?_) | (apply zg3; refine zs8 ?_) | (apply zg20; refine zs48 ?_) | (apply zg22; refine zs51 ?_) | (apply zg23; (refine zs52 ?_; intro _)) | (apply zg24; (refine zs54 ?_; intro _)) | (apply zg25; refine zs55 ?_) | apply (zs65 ?_) | apply (zs68 ?_) | apply (zs69 ?_) | apply (zs70 ?_) | (apply zg27; refine zs71 ?_) | apply (zs73 ?_) | apply (zs74 ?_) | apply (zs77 ?_) | apply (zs78 ?_) | fail)
    apply VQ_retc2 T (H2 := cels none 0 [] :: H); exact rfl; exact rfl; exact rfl; (focus repeat (first | with_reducible exact List.mem_cons_self | with_reducible apply List.mem_cons_of_mem | assumption)); exact rfl; exact rfl; (intro w hw; refine St.nilSlice (H := H) ?_ _ _; revert w; (intro w hw; refine hw.perm ?_; focus repeat (first | with_reducible exact Perm.refl _ | (with_reducible apply perm_take; focus ((repeat (first | with_reducible exact rem_here | with_reducible apply rem_there)); done)) | with_reducible apply Perm.dropK)))
    exact outS_no 1 (by rw [repE, if_pos hf]) rfl
  | true =>
    have hfr := form_iff.1 hf
    have hle : s.cells.length ≤ 512 := hfr.few
    have hsz := of_decide_eq_true hfr.sized
    have hsl : 1 ≤ s.len ∧ s.len ≤ 512 := ⟨hsz.1, hsz.2.1⟩
    have hqm := quo_mul (l := s.len) (t := times) hsl.1
    have hff := fun {H' : List HP} {w : World} (hr : Rd B w0 H' s.A (s.cells.flatMap celF)) (hw : St B w0 H' w) => calls_val (congrArg Value.bool hf) (fun _ hw => form_spec s hr hl hw) hw
    by_cases h1 : times < 1 ∨ 512 < s.len * times
    · skip
      repeat' (first | ((first | apply VL_callt en53 | apply VL_callq en53); (repeat (first | exact args_nil | (apply args_cons; exact rfl))); exact rfl; exact fun _ hw => (hff hr.cons.cons hw)) | apply (zs1 ?_) | apply (zs2 ?_) | (apply zg1; first | refine zs3 ?_ | refine zs4 ?_) | (apply zg2; refine zs6 ?_) | (apply zg3; first | refine zs7 ?_ | refine zs8 ?_) | (apply zg6; first | refine zs11 ?_ | refine zs12 ?_) | (apply (zs17 ?_ ?_) <;> intro _ <;> try (exfalso; omega)) | (apply (zs19 ?_ ?_) <;> intro _ <;> try (exfalso; omega)) | (apply zg16; refine zs36 ?_) | (apply zg20; refine zs47 ?_) | (apply zg22; refine zs51 ?_) | (apply zg23; (refine zs52 ?_; intro _)) | (apply zg24; (refine zs54 ?_; intro _)) | (apply zg25; refine zs55 ?_) | apply (zs65 ?_) | apply (zs68 ?_) | apply (zs69 ?_) | apply (zs70 ?_) | (apply zg27; first | refine zs71 ?_ | refine zs72 ?_) | apply (zs73 ?_) | apply (zs74 ?_) | apply (zs77 ?_) | apply (zs78 ?_) | fail)
      all_goals (
        apply VQ_retc2 T (H2 := cels none 0 [] :: H); exact rfl; exact rfl; exact rfl; (focus repeat (first | with_reducible exact List.mem_cons_self | with_reducible apply List.mem_cons_of_mem | assumption)); exact rfl; exact rfl; (intro w hw; refine St.nilSlice (H := H) ?_ _ _; revert w; (intro w hw; refine hw.perm ?_; focus repeat (first | with_reducible exact Perm.refl _ | (with_reducible apply perm_take; focus ((repeat (first | with_reducible exact rem_here | with_reducible apply rem_there)); done)) | with_reducible apply Perm.dropK)))
        exact outS_no 2 (by rw [repE, if_neg (by simp [hf])]; exact if_pos h1) rfl)
    have ht1 : 1 ≤ times ∧ s.len * times ≤ 512 := by omega
    have ht2 : times ≤ 512 := by
      have : 1 * times ≤ s.len * times := Int.mul_le_mul_of_nonneg_right hsl.1 (by omega)
      omega
    have hcb := mul_bd (a := (s.cells.length : Int)) (b := times) (by omega) (by omega) (by omega) (by omega)
    by_cases h2 : 512 < (s.cells.length : Int) * times
    · skip
      repeat' (first | ((first | apply VL_callt en53 | apply VL_callq en53); (repeat (first | exact args_nil | (apply args_cons; exact rfl))); exact rfl; exact fun _ hw => (hff hr.cons.cons hw)) | apply (zs1 ?_) | apply (zs2 ?_) | (apply zg1; refine zs4 ?_) | (apply zg2; refine zs6 ?_) | (apply zg3; first | refine zs7 ?_ | refine zs8 ?_) | (apply zg4; refine zs9 ?_) | (apply zg6; refine zs12 ?_) | (apply (zs17 ?_ ?_) <;> intro _ <;> try (exfalso; omega)) | (apply (zs19 ?_ ?_) <;> intro _ <;> try (exfalso; omega)) | (apply zg15; refine zs32 ?_) | (apply zg16; refine zs36 ?_) | (apply zg20; refine zs47 ?_) | (apply zg22; refine zs51 ?_) | (apply zg23; (refine zs52 ?_; intro _)) | (apply zg24; (refine zs54 ?_; intro _)) | (apply zg25; refine zs55 ?_) | apply (zs65 ?_) | apply (zs68 ?_) | apply (zs69 ?_) | apply (zs70 ?_) | (apply zg27; first | refine zs71 ?_ | refine zs72 ?_) | apply (zs73 ?_) | apply (zs74 ?_) | apply (zs77 ?_) | apply (zs78 ?_) | fail)
      all_goals (
        apply VQ_retc2 T (H2 := cels none 0 [] :: H); exact rfl; exact rfl; exact rfl; (focus repeat (first | with_reducible exact List.mem_cons_self | with_reducible apply List.mem_cons_of_mem | assumption)); exact rfl; exact rfl; (intro w hw; refine St.nilSlice (H := H) ?_ _ _; revert w; (intro w hw; refine hw.perm ?_; focus repeat (first | with_reducible exact Perm.refl _ | (with_reducible apply perm_take; focus ((repeat (first | with_reducible exact rem_here | with_reducible apply rem_there)); done)) | with_reducible apply Perm.dropK)))
        exact outS_no 8 (by rw [repE, if_neg (by simp [hf])]; exact (if_neg h1).trans (if_pos h2)) rfl)
    repeat' (first | ((first | apply VL_callt en53 | apply VL_callq en53); (repeat (first | exact args_nil | (apply args_cons; exact rfl))); exact rfl; exact fun _ hw => (hff hr.cons.cons hw)) | apply (zs1 ?_) | apply (zs2 ?_) | (apply zg1; refine zs4 ?_) | (apply zg2; refine zs6 ?_) | (apply zg3; first | refine zs7 ?_ | refine zs8 ?_) | (apply zg4; refine zs9 ?_) | (apply zg6; refine zs12 ?_) | (apply (zs17 ?_ ?_) <;> intro _ <;> try (exfalso; omega)) | (apply (zs19 ?_ ?_) <;> intro _ <;> try (exfalso; omega)) | (apply zg15; refine zs32 ?_) | (apply zg16; refine zs36 ?_) | (apply zg20; refine zs47 ?_) | (apply zg22; refine zs51 ?_) | (apply zg23; (refine zs52 ?_; intro _)) | (apply zg24; (refine zs54 ?_; intro _)) | (apply zg25; refine zs55 ?_) | apply (zs65 ?_) | apply (zs68 ?_) | apply (zs69 ?_) | apply (zs70 ?_) | (apply zg27; refine zs72 ?_) | apply (zs73 ?_) | apply (zs76 ?_) | apply (zs79 ?_) | fail)
    rename_i gs gr _ _ _ gO
    obtain ⟨TL, hTL⟩ : ∃ TL, s.len * times = TL := ⟨_, rfl⟩
    rw [hTL]
    have hres : repE s.sch times = (⟨TL, s.off, repC s.sch times.toNat⟩, 0) := by
      rw [repE, if_neg (by simp [hf])]
      refine (if_neg h1).trans ((if_neg h2).trans ?_)
      rw [e2, hTL]; rfl
    refine VC_loop1 (fun (z : Nat × Option Addr × Nat) => [(42, .int .i64 z.1), (41, .int .i64 times), (2, .pointer (some ⟨gs, 0, none⟩)), (4, .pointer (some ⟨gr, 0, none⟩)), (6, .pointer (some ⟨gO, 0, none⟩))])
      (fun z => cels z.2.1 z.2.2 (repC s.sch z.1) :: blk gO (.cells #[.int .i64 TL, .int .i64 s.off, .slice z.2.1 (repC s.sch z.1).length z.2.2] 30 (0, 0)) :: blk gr (.cells #[.int .i64 0, .int .i64 0, .slice none 0 0] 30 (0, 0)) :: blk gs (.cells #[.int .i64 s.len, .int .i64 s.off, .slice s.A s.cells.length s.cap] 30 (0, 0)) :: H)
      (fun z => (z.1 : Int) ≤ times) (fun z => times.toNat - z.1) (0, none, 0) (by show ((0 : Nat) : Int) ≤ times; omega) ?_ (fun w hw => ?_) ?_
    · (repeat (first | exact sub_nil _ | (apply sub_cons; first | exact rfl | exact congrArg (fun z : Int => some (Value.int .i64 z)) (by omega))))
    · exact hw.nilSlice _ _
    rintro ⟨i, A, cap⟩ hi K hK
    dsimp only at hi ⊢
    by_cases hlt : (i : Int) < times
    · have hil : 0 ≤ (i : Int) * s.len ∧ (i : Int) * s.len ≤ 512 * 512 := ⟨Int.mul_nonneg (by omega) (by omega), Int.mul_le_mul (by omega) (by omega) (by omega) (by omega)⟩
      repeat' (first | apply (zs1 ?_) | apply (zs2 ?_) | (apply zg2; refine zs6 ?_) | (apply zg3; refine zs7 ?_) | (apply zg4; refine zs9 ?_) | (apply (zs17 ?_ ?_) <;> intro _ <;> try (exfalso; omega)) | apply (zs65 ?_) | apply (zs68 ?_) | apply (zs69 ?_) | apply (zs70 ?_) | (apply zg27; refine zs71 ?_) | apply (zs73 ?_) | apply (zs76 ?_) | fail)
      refine VC_loop1 (fun (z : Nat × Option Addr × Nat) => [(48, .int .i64 z.1), (47, .int .i64 s.cells.length), (46, .slice s.A s.cells.length s.cap), (7, .int .i64 i), (42, .int .i64 i), (41, .int .i64 times), (2, .pointer (some ⟨gs, 0, none⟩)), (4, .pointer (some ⟨gr, 0, none⟩)), (6, .pointer (some ⟨gO, 0, none⟩))])
        (fun z => cels z.2.1 z.2.2 (repC s.sch i ++ (s.cells.take z.1).map (movC ((i : Int) * s.len))) :: blk gO (.cells #[.int .i64 TL, .int .i64 s.off, .slice z.2.1 (repC s.sch i ++ (s.cells.take z.1).map (movC ((i : Int) * s.len))).length z.2.2] 30 (0, 0)) :: blk gr (.cells #[.int .i64 0, .int .i64 0, .slice none 0 0] 30 (0, 0)) :: blk gs (.cells #[.int .i64 s.len, .int .i64 s.off, .slice s.A s.cells.length s.cap] 30 (0, 0)) :: H)
        (fun z => z.1 ≤ s.cells.length) (fun z => s.cells.length - z.1) (0, A, cap) (Nat.zero_le _) ?_ (fun w hw => ?_) ?_
      · (repeat (first | exact sub_nil _ | (apply sub_cons; first | exact rfl | exact congrArg (fun z : Int => some (Value.int .i64 z)) (by omega))))
      · dsimp only
        rw [List.take_zero, List.map_nil, List.append_nil]
        exact hw
      rintro ⟨k, A1, cap1⟩ hk K2 hK2
      dsimp only at hk ⊢
      by_cases hkl : k < s.cells.length
      · have hget : s.cells[k]? = some (celAt s.sch k) := celAt_some (s := s.sch) hkl
        have hcb := slot_bd hfr (celAt_mem (s := s.sch) hkl)
        rw [e2] at hcb
        have hml := rep_le (s := s.sch) (i := i) (k := k) (t := times.toNat) (by omega) hk
        have hmt : times.toNat * s.cells.length ≤ 512 := by
          have : ((times.toNat * s.cells.length : Nat) : Int) ≤ 512 := by
            rw [Int.natCast_mul, show ((times.toNat : Nat) : Int) = times by omega, Int.mul_comm]; omega
          exact Int.ofNat_le.1 this
        have hst := rep_part s.sch i k hkl
        rw [e1, e2] at hst hml
        obtain ⟨M, hM⟩ : ∃ M, repC s.sch i ++ (s.cells.take k).map (movC ((i : Int) * s.len)) = M := ⟨_, rfl⟩
        rw [hM] at hml ⊢
        unfold cels
        repeat' (first | apply (zs1 ?_) | (apply zg2; refine zs6 ?_) | (apply zg3; first | refine zs7 ?_ | refine zs8 ?_ | refine zs61 ?_) | (apply zg5; refine zs57 ?_) | (apply (zs17 ?_ ?_) <;> intro _ <;> try (exfalso; omega)) | (apply zg13; refine zs30 ?_) | (apply zg15; refine zs32 ?_) | (apply zg21; (refine zs49 ?_; intro _ _)) | (apply zg22; first | refine zs50 ?_ | refine zs51 ?_) | (apply zg24; (refine zs54 ?_; intro _)) | (apply zg26; (refine zs56 ?_; intro _)) | apply (zs65 ?_) | apply (zs68 ?_) | apply (zs69 ?_) | apply (zs70 ?_) | (apply zg27; refine zs71 ?_) | apply (zs73 ?_) | apply (zs76 ?_) | apply (zs79 ?_) | fail)
        rename_i A' cap'
        apply hK2 (k + 1, A', cap')
        · show k + 1 ≤ _
          omega
        · show _ - (k + 1) < _ - k
          omega
        · (repeat (first | exact sub_nil _ | (apply sub_cons; first | exact rfl | exact congrArg (fun z : Int => some (Value.int .i64 z)) (by omega))))
        · intro w hw
          dsimp only
          rw [hst, ← List.append_assoc, hM]
          have e6 := cels_snocR A' cap' M (movC ((i : Int) * s.len) (celAt s.sch k))
          unfold movC at e6
          dsimp only at e6
          rw [e6] at hw
          rw [List.length_append]
          unfold movC
          dsimp only [List.length_singleton]
          revert w
          (intro w hw; refine hw.perm ?_; focus repeat (first | with_reducible exact Perm.refl _ | (with_reducible apply perm_take; focus ((repeat (first | with_reducible exact rem_here | with_reducible apply rem_there)); done)) | with_reducible apply Perm.dropK))
      · obtain rfl : k = s.cells.length := by omega
        rw [List.take_length, show repC s.sch i ++ s.cells.map (movC ((i : Int) * s.len)) = repC s.sch (i + 1) from (rep_succ s.sch i).symm]
        repeat' (first | apply (zs1 ?_) | (apply (zs17 ?_ ?_) <;> intro _ <;> try (exfalso; omega)) | (apply zg13; refine zs30 ?_) | apply (zs65 ?_) | apply (zs68 ?_) | apply (zs69 ?_) | apply (zs70 ?_) | (apply zg27; refine zs72 ?_) | apply (zs75 ?_) | apply (zs79 ?_) | apply (zs80 ?_) | apply (zs81 ?_) | fail)
        apply hK (i + 1, A1, cap1)
        · show ((i + 1 : Nat) : Int) ≤ times
          omega
        · show times.toNat - (i + 1) < times.toNat - i
          omega
        · (repeat (first | exact sub_nil _ | (apply sub_cons; first | exact rfl | exact congrArg (fun z : Int => some (Value.int .i64 z)) (by omega))))
        · exact fun w hw => hw
    · repeat' (first | apply (zs2 ?_) | (apply zg3; refine zs8 ?_) | (apply (zs17 ?_ ?_) <;> intro _ <;> try (exfalso; omega)) | (apply zg22; refine zs51 ?_) | apply (zs65 ?_) | apply (zs68 ?_) | apply (zs69 ?_) | apply (zs70 ?_) | (apply zg27; refine zs72 ?_) | apply (zs74 ?_) | apply (zs75 ?_) | apply (zs80 ?_) | apply (zs81 ?_) | fail)
      obtain rfl : i = times.toNat := by omega
      apply VQ_retc2 T (H2 := cels A cap (repC s.sch times.toNat) :: H); exact rfl; exact rfl; exact rfl; (focus repeat (first | with_reducible exact List.mem_cons_self | with_reducible apply List.mem_cons_of_mem | assumption)); exact rfl; exact rfl; (intro w hw; refine hw.perm ?_; focus repeat (first | with_reducible exact Perm.refl _ | (with_reducible apply perm_take; focus ((repeat (first | with_reducible exact rem_here | with_reducible apply rem_there)); done)) | with_reducible apply Perm.dropK))
      refine ⟨A, cap, ?_, ?_⟩
      · rw [hres]
      · rw [hres]
end Go.Proofs.YtnkpfpgmbpnbgaaGreatDoor

/- Walks: the law ScheduleRepeats. -/
namespace Go.Proofs.YtnkpfpgmbpnbgaaGreatDoor
open Go.RowKit Go.Eng Go.Nw

theorem repE_len (s : Sch) (times : Int) : (repE s times).1.cells.length ≤ 512 := by
  obtain ⟨⟨t, e⟩, h⟩ : ∃ R, repE s times = R := ⟨_, rfl⟩
  by_cases h0 : e = 0
  · subst h0
    rw [h]
    exact (rep_of h).frmT.few
  · unfold repE
    split
    · exact Nat.zero_le _
    · split
      · exact Nat.zero_le _
      · split
        · exact Nat.zero_le _
        · exfalso
          rename_i h1 h2 h3
          unfold repE at h
          rw [if_neg h1, if_neg h2, if_neg h3] at h
          injection h with _ h
          exact h0 h.symm
end Go.Proofs.YtnkpfpgmbpnbgaaGreatDoor

/- Walks: the law ScheduleEdits. -/
namespace Go.Proofs.YtnkpfpgmbpnbgaaGreatDoor
open Go.RowKit Go.Eng Go.Nw

theorem at_len2 (s : Sch) (z : Int) : (atE s z).length ≤ s.cells.length := by
  unfold atE
  split
  · exact Nat.zero_le _
  · exact List.length_filter_le _ _
end Go.Proofs.YtnkpfpgmbpnbgaaGreatDoor

/- Walks: the law ScheduleAgain. -/
namespace Go.Proofs.YtnkpfpgmbpnbgaaGreatDoor
open Go.RowKit Go.Eng Go.Nw

theorem wf_u16 {z : Int} (h : (Lit.int .u16 z).wf = true) : 0 ≤ z ∧ z ≤ 65535 := by
  simp only [Lit.wf, Bool.and_eq_true, decide_eq_true_eq] at h
  have e1 : IntKind.min .u16 = 0 := by decide
  have e2 : IntKind.max .u16 = 65535 := by decide
  omega
theorem again1_spec (a b : Cel) {B : Nat} {w0 : World} {H : List HP} {w : World} (hw : St B w0 H w) :
    Calls Tryz.prog 25 [celV a, celV b].toArray w (Post B w0 fun v K => v = .bool (decide (a.2 = b.2)) ∧ K = H) := by
  refine Calls_of_VC Tryz.func25 Tryz.ntmps25 rfl rfl hw ?_
  by_cases h : a.2 = b.2
  · rw [decide_eq_true h]
    have hab : a = (a.1, b.2) := Prod.ext rfl h
    repeat' (first | (apply VL_ceql a (a.1, b.2); exact rfl; exact rfl; exact rfl; all_goals (intro hE; try (exact absurd hab hE))) | apply (zs2 ?_) | (apply zg2; refine zs6 ?_) | (apply zg3; first | refine zs7 ?_ | refine zs8 ?_) | (apply zg22; refine zs50 ?_) | (apply zg23; (refine zs52 ?_; intro _)) | apply (zs65 ?_) | apply (zs68 ?_) | apply (zs69 ?_) | apply (zs70 ?_) | apply (zs74 ?_) | fail)
    apply VQ_st H
    · (intro w hw; refine hw.perm ?_; focus repeat (first | with_reducible exact Perm.refl _ | (with_reducible apply perm_take; focus ((repeat (first | with_reducible exact rem_here | with_reducible apply rem_there)); done)) | with_reducible apply Perm.dropK))
    apply VQ_ret1; exact rfl; exact rfl; exact ⟨rfl, rfl⟩
  · rw [decide_eq_false h]
    have hab : a ≠ (a.1, b.2) := fun e => h (by have h2 := congrArg Prod.snd e; exact h2)
    repeat' (first | (apply VL_ceql a (a.1, b.2); exact rfl; exact rfl; exact rfl; all_goals (intro hE; try (exact absurd hE hab))) | apply (zs2 ?_) | (apply zg2; refine zs6 ?_) | (apply zg3; first | refine zs7 ?_ | refine zs8 ?_) | (apply zg22; refine zs50 ?_) | (apply zg23; (refine zs52 ?_; intro _)) | apply (zs65 ?_) | apply (zs68 ?_) | apply (zs69 ?_) | apply (zs70 ?_) | apply (zs74 ?_) | fail)
    apply VQ_st H
    · (intro w hw; refine hw.perm ?_; focus repeat (first | with_reducible exact Perm.refl _ | (with_reducible apply perm_take; focus ((repeat (first | with_reducible exact rem_here | with_reducible apply rem_there)); done)) | with_reducible apply Perm.dropK))
    apply VQ_ret1; exact rfl; exact rfl; exact ⟨rfl, rfl⟩
set_option maxRecDepth 10000 in
set_option maxHeartbeats 1000000 in
theorem equalFuncT (l m : List Cel) (f : Nat) (cs : List Value) (hen : ∀ xs w, (callFunc f xs).run Tryz.prog w = .ok (.enter f xs) w) (hlm : l.length = m.length) (hlen : l.length ≤ 1000) {A A2 : Option Addr} {cap cap2 B : Nat} {w0 : World} {H : List HP} {w : World} (hr : Rd B w0 H A (l.flatMap celF)) (hr2 : Rd B w0 H A2 (m.flatMap celF))
    (hp : ∀ (i : Nat) (a b : Cel), l[i]? = some a → m[i]? = some b → ∀ (H' : List HP) w, St B w0 H' w → Calls Tryz.prog f ([celV a, celV b] ++ cs).toArray w (Post B w0 fun v K => v = .bool true ∧ K = H')) (hw : St B w0 H w) :
    Calls Tryz.prog 24 [.slice A l.length cap, .slice A2 m.length cap2, .func (.func f) #[] cs.toArray].toArray w (Post B w0 fun v K => v = .bool true ∧ K = H) := by
  refine Calls_of_VC Tryz.func24 Tryz.ntmps24 rfl rfl hw ?_
  repeat' (first | apply (zs1 ?_) | apply (zs2 ?_) | (apply zg4; refine zs9 ?_) | (apply zg8; (refine zs16 ?_ ?_ <;> intro _ <;> try (exfalso; omega))) | apply (zs65 ?_) | apply (zs68 ?_) | apply (zs69 ?_) | apply (zs70 ?_) | (apply zg27; refine zs72 ?_) | apply (zs73 ?_) | apply (zs76 ?_) | fail)
  refine VC_loop1 (fun (k : Nat) => [(17, .int .i64 k), (16, .int .i64 l.length), (15, .slice A l.length cap), (1, .slice A2 m.length cap2), (2, .func (.func f) #[] cs.toArray)]) (fun _ => H) (fun k => k ≤ l.length) (fun k => l.length - k) 0 (Nat.zero_le _) ?_ (fun w hw => hw) ?_
  · (repeat (first | exact sub_nil _ | (apply sub_cons; first | exact rfl | exact congrArg (fun z : Int => some (Value.int .i64 z)) (by omega))))
  rintro k hk K hK
  by_cases hlt : k < l.length
  · obtain ⟨a, ha⟩ : ∃ a, l[k]? = some a := ⟨_, List.getElem?_eq_getElem hlt⟩
    obtain ⟨b, hb⟩ : ∃ b, m[k]? = some b := ⟨_, List.getElem?_eq_getElem (by omega)⟩
    have hpa := hp k a b ha hb
    repeat' (first | ((first | apply VL_callvt (cs := cs)); exact rfl; exact hen; (repeat (first | exact args_nil | (apply args_cons; exact rfl))); exact rfl; exact fun _ hw => hpa _ _ hw) | apply (zs1 ?_) | apply (zs2 ?_) | (apply zg3; first | refine zs8 ?_ | refine zs61 ?_) | (apply zg5; refine zs57 ?_) | (apply (zs17 ?_ ?_) <;> intro _ <;> try (exfalso; omega)) | (apply zg13; refine zs30 ?_) | (apply zg20; refine zs47 ?_) | (apply zg22; refine zs51 ?_) | (apply zg24; (refine zs54 ?_; intro _)) | apply (zs65 ?_) | apply (zs68 ?_) | apply (zs69 ?_) | apply (zs70 ?_) | (apply zg27; first | refine zs71 ?_ | refine zs72 ?_) | apply (zs73 ?_) | apply (zs76 ?_) | apply (zs79 ?_) | fail)
    apply hK (k + 1)
    · show k + 1 ≤ _
      omega
    · omega
    · (repeat (first | exact sub_nil _ | (apply sub_cons; first | exact rfl | exact congrArg (fun z : Int => some (Value.int .i64 z)) (by omega))))
    · (intro w hw; refine hw.perm ?_; focus repeat (first | with_reducible exact Perm.refl _ | (with_reducible apply perm_take; focus ((repeat (first | with_reducible exact rem_here | with_reducible apply rem_there)); done)) | with_reducible apply Perm.dropK))
  · repeat' (first | apply (zs2 ?_) | (apply (zs17 ?_ ?_) <;> intro _ <;> try (exfalso; omega)) | apply (zs65 ?_) | apply (zs68 ?_) | apply (zs69 ?_) | apply (zs70 ?_) | (apply zg27; refine zs72 ?_) | apply (zs74 ?_) | apply (zs75 ?_) | apply (zs80 ?_) | apply (zs81 ?_) | fail)
    apply VQ_ret1; exact rfl; exact rfl; exact ⟨rfl, rfl⟩
theorem rep_err {s : Sch} {k : Int} {t : Sch} {e : Int} (h : repE s k = (t, e)) (he : e ≠ 0) : t = zeroS := by
  unfold repE at h
  split at h
  · injection h with h _; exact h.symm
  split at h
  · injection h with h _; exact h.symm
  split at h
  · injection h with h _; exact h.symm
  · injection h with _ h; exact absurd h.symm he
set_option maxRecDepth 10000 in
set_option maxHeartbeats 2000000 in
theorem law_again (n : NetM) (l : SlM Flw) (s : SchM) (b z : Int) (hb : 0 ≤ b ∧ b ≤ 255) (hz : 0 ≤ z ∧ z ≤ 65535) {B : Nat} {w0 : World} {H : List HP} {w : World} (ht : TabsB B w0) (hlf : l.xs.length ≤ 9223372036854775807) (hin : n.In B w0 H) (hrf : Rd B w0 H l.A (l.xs.flatMap flwF)) (hr : Rd B w0 H s.A (s.cells.flatMap celF)) (hw : St B w0 H w) :
    Calls Tryz.prog 7 [n.val, l.val, s.val, .int .u8 b, .int .u16 z].toArray w (Post B w0 fun v K => v = .bool true ∧ K = H) := by
  refine Calls_of_VC Tryz.func7 Tryz.ntmps7 rfl rfl hw ?_
  have hinm : n.In B w0 [many H] := ⟨hin.pw.tail, fun r hr => (hin.rw_ r hr).tail, hin.lk.tail, hin.mg.tail, hin.s1, hin.s2, hin.s3, hin.s4⟩
  have hrm : Rd B w0 [many H] s.A (s.cells.flatMap celF) := hr.tail
  have hrfm : Rd B w0 [many H] l.A (l.xs.flatMap flwF) := hrf.tail
  clear hr hrf hin
  refine VC_st [many H] (fun w hw => hw.perm (.closeT H)) ?_
  unfold SlM.val
  have hfw := fun {H' : List HP} {w : World} (hin : n.In B w0 H') (hw : St B w0 H' w) => few31_spec n hin hw
  obtain ⟨fv, hfv⟩ : ∃ v, fewN35 n.net = v := ⟨_, rfl⟩
  rw [hfv] at hfw
  cases fv with
  | false =>
    repeat' (first | ((first | apply VL_callt en11 | apply VL_callq en11); (repeat (first | exact args_nil | (apply args_cons; exact rfl))); exact rfl; exact fun _ hw => (wake_spec ht hw)) | ((first | apply VL_callt en12 | apply VL_callq en12); (repeat (first | exact args_nil | (apply args_cons; exact rfl))); exact rfl; exact fun _ hw => (hfw (by repeat (first | exact hinm | apply NetM.In.cons)) hw)) | apply (zs1 ?_) | apply (zs2 ?_) | (apply zg1; refine zs3 ?_) | (apply zg3; refine zs8 ?_) | (apply zg6; refine zs11 ?_) | (apply zg20; first | refine zs47 ?_ | refine zs48 ?_) | (apply zg23; (refine zs52 ?_; intro _)) | apply (zs65 ?_) | apply (zs68 ?_) | apply (zs69 ?_) | apply (zs70 ?_) | (apply zg27; first | refine zs71 ?_ | refine zs72 ?_) | apply (zs74 ?_) | apply (zs76 ?_) | apply (zs77 ?_) | fail)
    apply VQ_st H
    · intro w hw
      have h5 : St B w0 [many H] w := by
        revert w
        (intro w hw; refine hw.perm ?_; focus repeat (first | with_reducible exact Perm.refl _ | (with_reducible apply perm_take; focus ((repeat (first | with_reducible exact rem_here | with_reducible apply rem_there)); done)) | with_reducible apply Perm.dropK))
      exact h5.perm (.openT H)
    apply VQ_ret1; exact rfl; exact rfl; exact ⟨rfl, rfl⟩
  | true =>
  by_cases h20 : 20 < l.xs.length
  · skip
    repeat' (first | ((first | apply VL_callt en11 | apply VL_callq en11); (repeat (first | exact args_nil | (apply args_cons; exact rfl))); exact rfl; exact fun _ hw => (wake_spec ht hw)) | ((first | apply VL_callt en12 | apply VL_callq en12); (repeat (first | exact args_nil | (apply args_cons; exact rfl))); exact rfl; exact fun _ hw => (hfw (by repeat (first | exact hinm | apply NetM.In.cons)) hw)) | apply (zs1 ?_) | apply (zs2 ?_) | (apply zg1; first | refine zs3 ?_ | refine zs4 ?_) | (apply zg3; refine zs8 ?_) | (apply zg4; refine zs9 ?_) | (apply zg6; first | refine zs11 ?_ | refine zs12 ?_) | (apply (zs19 ?_ ?_) <;> intro _ <;> try (exfalso; omega)) | (apply zg20; refine zs47 ?_) | (apply zg23; (refine zs52 ?_; intro _)) | apply (zs65 ?_) | apply (zs68 ?_) | apply (zs69 ?_) | apply (zs70 ?_) | (apply zg27; first | refine zs71 ?_ | refine zs72 ?_) | apply (zs74 ?_) | apply (zs76 ?_) | apply (zs77 ?_) | fail)
    apply VQ_st H
    · intro w hw
      have h5 : St B w0 [many H] w := by
        revert w
        (intro w hw; refine hw.perm ?_; focus repeat (first | with_reducible exact Perm.refl _ | (with_reducible apply perm_take; focus ((repeat (first | with_reducible exact rem_here | with_reducible apply rem_there)); done)) | with_reducible apply Perm.dropK))
      exact h5.perm (.openT H)
    apply VQ_ret1; exact rfl; exact rfl; exact ⟨rfl, rfl⟩
  by_cases hg : 40 < s.cells.length
  · skip
    repeat' (first | ((first | apply VL_callt en11 | apply VL_callq en11); (repeat (first | exact args_nil | (apply args_cons; exact rfl))); exact rfl; exact fun _ hw => (wake_spec ht hw)) | ((first | apply VL_callt en12 | apply VL_callq en12); (repeat (first | exact args_nil | (apply args_cons; exact rfl))); exact rfl; exact fun _ hw => (hfw (by repeat (first | exact hinm | apply NetM.In.cons)) hw)) | apply (zs1 ?_) | apply (zs2 ?_) | (apply zg1; refine zs4 ?_) | (apply zg2; refine zs6 ?_) | (apply zg3; first | refine zs7 ?_ | refine zs8 ?_) | (apply zg4; refine zs9 ?_) | (apply zg6; refine zs12 ?_) | (apply (zs19 ?_ ?_) <;> intro _ <;> try (exfalso; omega)) | (apply zg20; refine zs47 ?_) | (apply zg23; (refine zs52 ?_; intro _)) | apply (zs65 ?_) | apply (zs68 ?_) | apply (zs69 ?_) | apply (zs70 ?_) | (apply zg27; first | refine zs71 ?_ | refine zs72 ?_) | apply (zs74 ?_) | apply (zs76 ?_) | apply (zs77 ?_) | fail)
    apply VQ_st H
    · intro w hw
      have h5 : St B w0 [many H] w := by
        revert w
        (intro w hw; refine hw.perm ?_; focus repeat (first | with_reducible exact Perm.refl _ | (with_reducible apply perm_take; focus ((repeat (first | with_reducible exact rem_here | with_reducible apply rem_there)); done)) | with_reducible apply Perm.dropK))
      exact h5.perm (.openT H)
    apply VQ_ret1; exact rfl; exact rfl; exact ⟨rfl, rfl⟩
  have hl : s.cells.length ≤ 1000000000000 := by omega
  have p1 := fun {H' : List HP} {w : World} (hr : Rd B w0 H' s.A (s.cells.flatMap celF)) (hw : St B w0 H' w) => repeat_spec s (1 + b % 4) hr hl hw
  have hlen := repE_len s.sch (1 + b % 4)
  obtain ⟨⟨⟨tl, tf, tc⟩, te⟩, hR⟩ : ∃ R, repE s.sch (1 + b % 4) = R := ⟨_, rfl⟩
  unfold OutS at p1
  rw [hR] at p1 hlen
  dsimp only at p1 hlen
  by_cases hte : te ≠ 0
  · have htc : tc = [] := by
      have h1 := rep_err hR hte
      unfold zeroS at h1
      injection h1
    have h0l : tc.length = 0 := by rw [htc]; rfl
    repeat' (first | ((first | apply VL_callt en11 | apply VL_callq en11); (repeat (first | exact args_nil | (apply args_cons; exact rfl))); exact rfl; exact fun _ hw => (wake_spec ht hw)) | ((first | apply VL_callt en12 | apply VL_callq en12); (repeat (first | exact args_nil | (apply args_cons; exact rfl))); exact rfl; exact fun _ hw => (hfw (by repeat (first | exact hinm | apply NetM.In.cons)) hw)) | ((apply VL_call _ en21); (repeat (first | exact args_nil | (apply args_cons; exact rfl))); exact rfl; exact fun _ hw => p1 (by (first | (focus (repeat (first | assumption | apply Rd.cons)); done) | exact Rd.sl (by (focus repeat (first | with_reducible exact List.mem_cons_self | with_reducible apply List.mem_cons_of_mem | assumption))))) hw; rintro _ _ ⟨A1, cap1, rfl, rfl⟩) | apply (zs1 ?_) | apply (zs2 ?_) | (apply zg1; refine zs4 ?_) | (apply zg2; refine zs6 ?_) | (apply zg3; first | refine zs7 ?_ | refine zs8 ?_) | (apply zg4; refine zs9 ?_) | (apply zg6; refine zs12 ?_) | apply (zs13 ?_) | (apply zg7; (refine zs15 ?_ ?_ <;> intro _ <;> try (exfalso; omega))) | (apply zg8; (refine zs16 ?_ ?_ <;> intro _ <;> try (exfalso; omega))) | (apply (zs19 ?_ ?_) <;> intro _ <;> try (exfalso; omega)) | (apply zg13; refine zs30 ?_) | (apply zg17; refine zs37 ?_) | (apply zg19; refine zs44 ?_) | (apply zg20; refine zs47 ?_) | (apply zg22; refine zs51 ?_) | (apply zg23; (refine zs52 ?_; intro _)) | (apply zg24; (refine zs54 ?_; intro _)) | apply (zs65 ?_) | apply (zs68 ?_) | apply (zs69 ?_) | apply (zs70 ?_) | (apply zg27; first | refine zs71 ?_ | refine zs72 ?_) | apply (zs74 ?_) | apply (zs76 ?_) | apply (zs77 ?_) | fail)
    apply VQ_st H
    · intro w hw
      have h5 : St B w0 [many H] w := by
        revert w
        (intro w hw; refine hw.perm ?_; focus repeat (first | with_reducible exact Perm.refl _ | (with_reducible apply perm_take; focus ((repeat (first | with_reducible exact rem_here | with_reducible apply rem_there)); done)) | with_reducible apply Perm.dropK))
      exact h5.perm (.openT H)
    apply VQ_ret1; exact rfl; exact rfl; exact ⟨rfl, rfl⟩
  obtain rfl : te = 0 := Decidable.not_not.1 hte
  have hrep := rep_of hR
  obtain ⟨d, hd⟩ := at_again hrep hz.1
  have hsem := again_sem hrep n.net l.xs
  have q1 := fun {H' : List HP} {w : World} (hr : Rd B w0 H' s.A (s.cells.flatMap celF)) (hw : St B w0 H' w) => at_spec s z hr hl hw
  have q2 := fun {A : Option Addr} {cap : Nat} {H' : List HP} {w : World} (hr : Rd B w0 H' A (tc.flatMap celF)) (hw : St B w0 H' w) => at_spec ⟨tl, tf, A, cap, tc⟩ z hr (by show tc.length ≤ _; omega) hw
  have hal := at_len2 s.sch z
  obtain ⟨la, hla⟩ : ∃ x, atE s.sch z = x := ⟨_, rfl⟩
  have hlb : ∀ (A : Option Addr) (cap : Nat), atE (SchM.mk tl tf A cap tc).sch z = la.map (movC d) := fun A cap => by rw [← hla]; exact hd
  rw [hla] at q1 hal
  have r1 := fun {H' : List HP} {w : World} (hin : n.In B w0 H') (hrf : Rd B w0 H' l.A (l.xs.flatMap flwF)) (hr : Rd B w0 H' s.A (s.cells.flatMap celF)) (hw : St B w0 H' w) => schCheck_spec n l.xs s hlf hl (cap := l.cap) hin hrf hr hw
  have r2 := fun {A : Option Addr} {cap : Nat} {H' : List HP} {w : World} (hin : n.In B w0 H') (hrf : Rd B w0 H' l.A (l.xs.flatMap flwF)) (hr : Rd B w0 H' A (tc.flatMap celF)) (hw : St B w0 H' w) => schCheck_spec n l.xs ⟨tl, tf, A, cap, tc⟩ hlf (by show tc.length ≤ _; omega) (cap := l.cap) hin hrf hr hw
  have hst : ∀ (A : Option Addr) (cap : Nat), schE n.net l.xs (SchM.mk tl tf A cap tc).sch = schE n.net l.xs ⟨tl, tf, tc⟩ := fun A cap => rfl
  obtain ⟨⟨c1, c2⟩, hc⟩ : ∃ R, schE n.net l.xs s.sch = R := ⟨_, rfl⟩
  obtain ⟨⟨c3, c4⟩, hc3⟩ : ∃ R, schE n.net l.xs ⟨tl, tf, tc⟩ = R := ⟨_, rfl⟩
  rw [hc] at r1 hsem
  rw [hc3] at hsem
  dsimp only at hsem r1
  have q3 : ∀ {A : Option Addr} {cap : Nat} {H' : List HP} {w : World}, Rd B w0 H' A (tc.flatMap celF) → St B w0 H' w → Calls Tryz.prog 23 [.agg #[.int .i64 tl, .int .i64 tf, .slice A tc.length cap], .int .i64 z].toArray w (Post B w0 fun v K => ∃ A cap, v = .slice A (la.map (movC d)).length cap ∧ K = cels A cap (la.map (movC d)) :: H') := fun {A cap H' w} hr hw => by
    have h := q2 (cap := cap) hr hw
    rw [hlb] at h
    exact h
  have r3 : ∀ {A : Option Addr} {cap : Nat} {H' : List HP} {w : World}, n.In B w0 H' → Rd B w0 H' l.A (l.xs.flatMap flwF) → Rd B w0 H' A (tc.flatMap celF) → St B w0 H' w → Calls Tryz.prog 14 [n.val, .slice l.A l.xs.length l.cap, .agg #[.int .i64 tl, .int .i64 tf, .slice A tc.length cap]].toArray w (Post B w0 fun v K => v = .tuple #[.int .i64 c3, .int .i64 c4] ∧ K = H') := fun {A cap H' w} hin hrf hr hw => by
    have h := r2 (cap := cap) hin hrf hr hw
    rw [hst, hc3] at h
    exact h
  have he : ∀ {A A2 : Option Addr} {cap cap2 : Nat} {H' : List HP} {w : World}, Rd B w0 H' A (la.flatMap celF) → Rd B w0 H' A2 ((la.map (movC d)).flatMap celF) → St B w0 H' w → Calls Tryz.prog 24 [.slice A la.length cap, .slice A2 (la.map (movC d)).length cap2, .func (.func 25) #[] #[]].toArray w (Post B w0 fun v K => v = .bool true ∧ K = H') := fun {A A2 cap cap2 H' w} hr hr2 hw => by
    refine equalFuncT la (la.map (movC d)) 25 [] en25 (List.length_map ..).symm (by have : s.sch.cells.length = s.cells.length := rfl; omega) (cap := cap) (cap2 := cap2) hr hr2 (fun i x y hx hy H' w hw => ?_) hw
    rw [List.getElem?_map, hx] at hy
    obtain rfl : movC d x = y := Option.some.inj hy
    have h := again1_spec x (movC d x) hw
    rw [decide_eq_true (show x.2 = (movC d x).2 from rfl)] at h
    exact h
  repeat' (first | ((first | apply VL_callt en11 | apply VL_callq en11); (repeat (first | exact args_nil | (apply args_cons; exact rfl))); exact rfl; exact fun _ hw => (wake_spec ht hw)) | ((first | apply VL_callt en12 | apply VL_callq en12); (repeat (first | exact args_nil | (apply args_cons; exact rfl))); exact rfl; exact fun _ hw => (hfw (by repeat (first | exact hinm | apply NetM.In.cons)) hw)) | ((apply VL_call _ en21); (repeat (first | exact args_nil | (apply args_cons; exact rfl))); exact rfl; exact fun _ hw => p1 (by (first | (focus (repeat (first | assumption | apply Rd.cons)); done) | exact Rd.sl (by (focus repeat (first | with_reducible exact List.mem_cons_self | with_reducible apply List.mem_cons_of_mem | assumption))))) hw; rintro _ _ ⟨A1, cap1, rfl, rfl⟩) | apply (zs1 ?_) | apply (zs2 ?_) | (apply zg1; refine zs4 ?_) | (apply zg2; refine zs6 ?_) | (apply zg3; first | refine zs7 ?_ | refine zs8 ?_) | (apply zg4; refine zs9 ?_) | (apply zg6; refine zs12 ?_) | apply (zs13 ?_) | (apply zg8; (refine zs16 ?_ ?_ <;> intro _ <;> try (exfalso; omega))) | (apply (zs19 ?_ ?_) <;> intro _ <;> try (exfalso; omega)) | (apply zg13; refine zs30 ?_) | (apply zg17; refine zs37 ?_) | (apply zg19; refine zs44 ?_) | (apply zg20; refine zs47 ?_) | (apply zg22; refine zs51 ?_) | (apply zg23; (refine zs52 ?_; intro _)) | (apply zg24; (refine zs54 ?_; intro _)) | apply (zs65 ?_) | apply (zs68 ?_) | apply (zs69 ?_) | apply (zs70 ?_) | (apply zg27; refine zs72 ?_) | apply (zs76 ?_) | fail)
  apply VC_held [0, 1, 2, 4, 5, 6, 3, 7, 8, 9] [] [true, false, true, false, false]
  kernel_rfl
  kernel_rfl
  (repeat (first | with_reducible exact split_nil | with_reducible apply split_t | with_reducible apply split_f))
  (simp only [pickOps, nthO]; rfl)
  exact rfl
  repeat' (first | apply (zs1 ?_) | (apply zg3; refine zs8 ?_) | (apply zg19; refine zs44 ?_) | apply (zs87 ?_) | fail)
  apply VL_call _ en23
  (repeat (first | exact args_nil | (apply args_cons; exact rfl)))
  exact rfl
  exact fun _ hw => (q1 (by (first | (focus (repeat (first | assumption | apply Rd.cons)); done) | exact Rd.sl (by (focus repeat (first | with_reducible exact List.mem_cons_self | with_reducible apply List.mem_cons_of_mem | assumption))))) (hw))
  rintro _ _ ⟨A2, cap2, rfl, rfl⟩
  repeat' (first | apply (zs65 ?_) | apply (zs87 ?_) | (apply VQ_heldq; (repeat (first | with_reducible exact pull_nil | (with_reducible apply pull_cons; (repeat (first | with_reducible exact rem_here | with_reducible apply rem_there)))))) | fail)
  apply VL_call _ en23
  (repeat (first | exact args_nil | (apply args_cons; exact rfl)))
  exact rfl
  exact fun _ hw => (q3 (Rd.cels (cap := cap1) (by (focus repeat (first | with_reducible exact List.mem_cons_self | with_reducible apply List.mem_cons_of_mem | assumption)))) (hw))
  rintro _ _ ⟨A3, cap3, rfl, rfl⟩
  repeat' (first | apply (zs1 ?_) | apply (zs2 ?_) | apply (zs65 ?_) | (apply VL_nilh; (repeat (first | with_reducible exact app_nil | with_reducible apply app_cons | exact app_niln _))) | apply (zs68 ?_) | apply (zs69 ?_) | apply (zs70 ?_) | (apply VQ_heldq; (repeat (first | with_reducible exact pull_nil | (with_reducible apply pull_cons; (repeat (first | with_reducible exact rem_here | with_reducible apply rem_there)))))) | apply (zs93 ?_) | apply (zs94 ?_) | fail)
  first | apply VL_callt en24 | apply VL_callq en24
  (repeat (first | exact args_nil | (apply args_cons; exact rfl)))
  exact rfl
  exact fun _ hw => (he (Rd.cels (cap := cap2) (by (focus repeat (first | with_reducible exact List.mem_cons_self | with_reducible apply List.mem_cons_of_mem | assumption)))) (Rd.cels (cap := cap3) (by (focus repeat (first | with_reducible exact List.mem_cons_self | with_reducible apply List.mem_cons_of_mem | assumption)))) hw)
  repeat' (first | apply (zs1 ?_) | apply (zs2 ?_) | (apply zg3; refine zs8 ?_) | apply (zs65 ?_) | apply (zs68 ?_) | apply (zs69 ?_) | apply (zs70 ?_) | fail)
  first | apply VL_callt en14 | apply VL_callq en14
  (repeat (first | exact args_nil | (apply args_cons; exact rfl)))
  exact rfl
  exact fun _ hw => (r1 (by repeat (first | exact hinm | apply NetM.In.cons)) (by (first | (focus (repeat (first | assumption | apply Rd.cons)); done) | exact Rd.sl (by (focus repeat (first | with_reducible exact List.mem_cons_self | with_reducible apply List.mem_cons_of_mem | assumption))))) (by (first | (focus (repeat (first | assumption | apply Rd.cons)); done) | exact Rd.sl (by (focus repeat (first | with_reducible exact List.mem_cons_self | with_reducible apply List.mem_cons_of_mem | assumption))))) hw)
  repeat' (first | apply (zs1 ?_) | apply (zs2 ?_) | (apply zg3; refine zs8 ?_) | apply (zs13 ?_) | apply (zs65 ?_) | apply (zs68 ?_) | apply (zs69 ?_) | apply (zs70 ?_) | fail)
  first | apply VL_callt en14 | apply VL_callq en14
  (repeat (first | exact args_nil | (apply args_cons; exact rfl)))
  exact rfl
  exact fun _ hw => (r3 (by repeat (first | exact hinm | apply NetM.In.cons)) (by (first | (focus (repeat (first | assumption | apply Rd.cons)); done) | exact Rd.sl (by (focus repeat (first | with_reducible exact List.mem_cons_self | with_reducible apply List.mem_cons_of_mem | assumption))))) (Rd.cels (cap := cap1) (by (focus repeat (first | with_reducible exact List.mem_cons_self | with_reducible apply List.mem_cons_of_mem | assumption)))) hw)
  repeat' (first | apply (zs1 ?_) | apply (zs2 ?_) | (apply zg1; first | refine zs3 ?_ | refine zs4 ?_) | (apply zg6; first | refine zs11 ?_ | refine zs12 ?_) | apply (zs13 ?_) | (apply zg7; (refine zs15 ?_ ?_ <;> intro _ <;> try (exfalso; omega))) | apply (zs65 ?_) | apply (zs68 ?_) | apply (zs69 ?_) | apply (zs70 ?_) | apply (zs74 ?_) | fail)
  all_goals (
    apply VQ_st H
    · intro w hw
      have h5 : St B w0 [many H] w := by
        revert w
        (intro w hw; refine hw.perm ?_; focus repeat (first | with_reducible exact Perm.refl _ | (with_reducible apply perm_take; focus ((repeat (first | with_reducible exact rem_here | with_reducible apply rem_there)); done)) | with_reducible apply Perm.dropK))
      exact h5.perm (.openT H)
    apply VQ_ret1; exact rfl; exact rfl; exact ⟨rfl, rfl⟩)
end Go.Proofs.YtnkpfpgmbpnbgaaGreatDoor

/- From a walk to a tied card: what the listed variables hold; a world that meets the condition. -/
namespace Go.Proofs.YtnkpfpgmbpnbgaaGreatDoor
open Go.ChangeShapes Go.WideShapes Go.ChangeAt Go.RowKit Go.Eng

section
variable {H : Type} {enc : TypeId × Value → H}
/-- The wrap of a row that lists variables, the world's shape kept. -/
theorem handed_and_shaped {a : Assume} {C : Checked} {os : Os} {f : FuncId} {fn : Func} {s : ChangeSpec} {conds : List PathCond} {apart fresh handsOn again : Bool} {X : World → Prop} (hX : ∀ w w' : World, w.heap = w'.heap → X w → X w')
    (own : ownKnob C.prog.godebug = none) (started : os.Started) (noInit : C.prog.inits.idxOf? f = none) (hfn : C.prog.funcs[f]? = some fn)
    (witness : ∃ (w : World) (tape : Tape) (i : Input), w.os = os ∧ (w.forCall tape i).Shaped C.prog ∧ i.vars = [] ∧ Input.okWide C.prog (w.forCall tape i) .any w.heap.size f i ∧
      ((s.pre enc C.prog fn conds apart (w.forCall tape i).memory i.args ∧ X (w.forCall tape i).memory) ∧ sizedMet enc C.prog fn (OpenSpec.ofChange s) apart (w.forCall tape i).memory i.args) ∧ a.holds C.prog (lone (Frame.enter C.prog f i.args .normal) [] (w.forCall tape i)))
    (contract : ∀ (W : World) (base : Nat) (args : Array Value) (ds gs : List (DataW H)) (before : List MemPlace),
      (∀ (j : Nat) t v, fn.params[j]? = some t → args[j]? = some v → Value.okWide C.prog W .any base t v) →
      DataW.Whole enc C.prog fn.params.toList s.vars apart W args.toList ds gs before → X W → W.ShapedOpen C.prog →
      Calls C.prog f args W fun e W' => ∃ v, e = .returned v ∧ s.post enc C.prog fn apart fresh handsOn again W args v W') :
    ReturnsInHanded a C os f .any (fun w args => (s.pre enc C.prog fn conds apart w args ∧ X w) ∧ sizedMet enc C.prog fn (OpenSpec.ofChange s) apart w args) (s.post enc C.prog fn apart fresh handsOn again) := by
  refine returnsInHanded_of_calls own started noInit witness ?_
  intro w tape i _ hsh _ hok hpre _
  obtain ⟨_, _, _, fn', hfn', _, _, _, _, hval⟩ := hok
  have e : fn' = fn := Option.some.inj (hfn'.symm.trans hfn)
  subst e
  obtain ⟨⟨⟨ds, gs, before, hw, _⟩, hx⟩, _⟩ := hpre
  have hw' := DataW.Whole.of_heap (w' := w.forCall tape i) (by rfl) hw
  refine (contract (w.forCall tape i) w.heap.size i.args ds gs before hval hw' (hX _ _ (by rfl) hx) hsh).mono fun e W' ⟨v, he, hp⟩ => ?_
  subst he
  exact ChangeSpec.post_blind hp
end

/-- The variables that each row of this layer lists. -/
def laidL : List (String × DataW Unit) := [("math/bits.deBruijn32tab", Rows.laid_math_bits_deBruijn32tab), ("math/bits.deBruijn64tab", Rows.laid_math_bits_deBruijn64tab), ("internal/strconv.uint64pow10", Rows.laid_internal_strconv_uint64pow10), ("unicode/utf8.acceptRanges", Rows.laid_unicode_utf8_acceptRanges), ("strconv.ErrRange", Rows.laid_strconv_ErrRange), ("strconv.ErrSyntax", Rows.laid_strconv_ErrSyntax), ("unicode/utf8.first", Rows.laid_unicode_utf8_first)]
def litV : DataW Unit → Value
  | .lit (.int k z) => .int k z
  | _ => .bool false
def litsV : DataW Unit → List Value
  | .agg l => l.map litV
  | _ => []
/-- The world that the door leaves, utf8's table laid. -/
noncomputable def laidWorld (os : Os) : World :=
  let w0 := World.doorLaid Tryz.prog 72 os
  { w0 with heap := w0.heap.modify ((Tryz.prog.globalNamed "unicode/utf8.first").getD 0) fun
      | .cells _ t frozen => .cells (litsV Go.Pinned.utf8First).toArray t frozen
      | o => o }
theorem laidL_plain (w : World) : laidMetH Tryz.prog laidL w = laidMet Tryz.prog laidL w := MakeChecks.laidMetH_plain _ _ _ (by kernel_rfl)
theorem laidWorld_met (os : Os) (args : Array Value) : laidMetH Tryz.prog laidL ((laidWorld os).forCall (fun _ _ => 0) ⟨#[], args, []⟩).memory := by
  rw [laidL_plain]
  exact laidMet_of_run3 8 (by kernel_rfl) (by kernel_rfl) (by kernel_rfl)
theorem laidWorld_shaped (os : Os) (args : Array Value) : ((laidWorld os).forCall (fun _ _ => 0) ⟨#[], args, []⟩).Shaped Tryz.prog := World.shaped_of_RefB (by kernel_rfl) (by kernel_rfl)

theorem var_below {W w : World} {n : String} {cs : Array Value} (h : W.var? Tryz.prog n = some cs) (hb : Below W.heap.size W w) : w.var? Tryz.prog n = some cs := by
  unfold World.var? at h ⊢
  cases hg : Tryz.prog.globalNamed n with
  | none => rw [hg] at h; cases h
  | some g =>
    rw [hg] at h
    simp only [Option.bind_some] at h ⊢
    rcases Nat.lt_or_ge g W.heap.size with hlt | hge
    · rw [hb.block g hlt]; exact h
    · rw [Array.getElem?_eq_none hge] at h; cases h
theorem err_cell {W : World} {n : String} {s : String} {d : DataW Unit} (hT : (Tryz.prog.globalNamed n).bind (fun g => (Tryz.prog.globals[g]?).map (·.type)) = some 85) (h : Lib.VarReads Tryz.prog W n (.iface s d)) : ∃ tp p, W.var? Tryz.prog n = some #[.iface tp p] := by
  obtain ⟨g, t, cs, fuel, p, h1, h2, h3, h4⟩ := h
  rw [h1] at hT
  obtain rfl : t = 85 := Option.some.inj (h2.symm.trans hT)
  obtain ⟨_, u, v, e, _⟩ := iface_of_trod Tryz.underlying85 h4
  refine ⟨u, v, ?_⟩
  rw [h3, Array.eq_one_of_toList e]
theorem tabs_of {W : World} (hL : laidMetH Tryz.prog laidL W) (hsh : W.ShapedOpen Tryz.prog) : TabsB W.heap.size W := by
  rw [laidL_plain] at hL
  have hpow : Lib.TabIs Tryz.prog W "internal/strconv.uint64pow10" .u64 Lib.pow10Tab := by
    obtain ⟨g, t, cs, fuel, p, h1, h2, h3, h4⟩ := Lib.laidMet.reads hL (n := "internal/strconv.uint64pow10") (d := Rows.laid_internal_strconv_uint64pow10) (by unfold laidL; simp)
    have hT : (Tryz.prog.globalNamed "internal/strconv.uint64pow10").bind (fun g => (Tryz.prog.globals[g]?).map (·.type)) = some 175 := by kernel_rfl
    rw [h1] at hT
    obtain rfl : t = 175 := Option.some.inj (h2.symm.trans hT)
    have h5 : Rows.laid_internal_strconv_uint64pow10 (H := Unit) = Lib.tabData .u64 Lib.pow10Tab := by kernel_rfl
    rw [h5] at h4
    have h6 := Lib.cells_of_tab Tryz.underlying175 Tryz.underlying162 (by kernel_rfl) (by kernel_rfl) h4
    unfold Lib.TabIs
    rw [h3, ← h6]
  obtain ⟨tp1, p1, hsy⟩ := err_cell (n := "strconv.ErrSyntax") (by kernel_rfl) (Lib.laidMet.reads hL (n := "strconv.ErrSyntax") (d := Rows.laid_strconv_ErrSyntax) (by unfold laidL; simp))
  obtain ⟨tp2, p2, hrg⟩ := err_cell (n := "strconv.ErrRange") (by kernel_rfl) (Lib.laidMet.reads hL (n := "strconv.ErrRange") (d := Rows.laid_strconv_ErrRange) (by unfold laidL; simp))
  obtain ⟨m, hm⟩ := Go.Proofs.cell_of_shapedOpen_int (P := Tryz.prog) (g := 0) (k := .i64) (zero := #[.int .i64 0]) (t := 3) hsh (of_decide_eq_true (by kernel_rfl)) (by kernel_rfl) rfl (by kernel_rfl) (by kernel_rfl) Tryz.underlying3
  intro w hb
  refine ⟨var_below hpow hb, ⟨tp1, p1, var_below hsy hb⟩, ⟨tp2, p2, var_below hrg hb⟩, m, ?_⟩
  have hlt : 0 < W.heap.size := by
    rcases Nat.eq_zero_or_pos W.heap.size with h | h
    · simp [World.cell?, Array.getElem?_eq_none (show W.heap.size ≤ 0 by omega)] at hm
    · exact h
  exact (hb.cell (p := ⟨0, 0, none⟩) hlt).trans hm
theorem Tryz.own : ownKnob Tryz.prog.godebug = none := by kernel_rfl
theorem Tryz.laidOut : laidOutB Tryz.prog = true := by kernel_rfl
end Go.Proofs.YtnkpfpgmbpnbgaaGreatDoor

/- The law ScheduleAgain returns true at every input, and its arguments read behind the call as they read before: the statement Rows.ScheduleAgainCardSaid. Condition: the listed package-level variables start as the program's text lays them, to which the card ties them. -/
namespace Go.Proofs.YtnkpfpgmbpnbgaaGreatDoor
open Go.ChangeShapes Go.WideShapes Go.ChangeAt Go.RowKit Go.Eng
open Go.ChangeMaps (open_string)

set_option maxRecDepth 100000 in
theorem sagain_lifted (os : Os) (started : os.Started) (H : Type) (enc : TypeId × Value → H) :
    ReturnsInHanded {} Tryz.checked os 7 .any (fun w args => (Rows.scheduleAgainSpec.pre enc Tryz.prog Tryz.f7 [] false w args ∧ laidMetH Tryz.prog laidL w) ∧ sizedMet enc Tryz.prog Tryz.f7 (OpenSpec.ofChange Rows.scheduleAgainSpec) false w args)
      (Rows.scheduleAgainSpec.post enc Tryz.prog Tryz.f7 false true false false) := by
  refine handed_and_shaped (C := Tryz.checked) (X := fun w => laidMetH Tryz.prog laidL w) (fun _ _ hh h => h.of_heap hh) Tryz.own started (by kernel_rfl) Tryz.func7
    (ChangeSpec.witness_shaped (enc := enc) (C := Tryz.checked) (os := os) (X := fun w _ => laidMetH Tryz.prog laidL w) false (laidWorld os) #[.agg #[.int .i64 0, .slice none 0 0, .int .i64 0, .int .i64 0, .slice none 0 0, .slice none 0 0], .slice none 0 0, .agg #[.int .i64 0, .int .i64 0, .slice none 0 0], .int .u8 0, .int .u16 0] 8 rfl (laidWorld_shaped os _) (by kernel_rfl) (by kernel_rfl) (by kernel_rfl) (laidWorld_met os _)) ?_
  intro W base args ds gs before hval0 hW hL hsh
  have hval : ∀ (j : Nat) t v, Tryz.f7.params[j]? = some t → args[j]? = some v → Value.okWide Tryz.prog W .any base t v := hval0
  have hW' : DataW.Whole enc Tryz.prog Tryz.f7.params.toList Rows.scheduleAgainSpec.vars false W args.toList ds gs before := hW
  obtain ⟨p, q, hA0, hV, rfl, hfz, hnd⟩ := hW
  have hA : DataW.TrodAll enc Tryz.prog W 0 (fun _ => true) true Tryz.f7.params.toList args.toList ds p := hA0
  obtain ⟨rfl, rfl⟩ := trodVars_none hV
  rw [Tryz.params7] at hA hval
  obtain ⟨v0, v1, v2, v3, v4, d0, d1, d2, d3, d4, p0, p1, p2, p3, p4, rfl, rfl, rfl, h0, h1, h2, h3, h4⟩ := trodAll_five hA
  obtain ⟨n, rfl, hn⟩ := open_net (hval 0 _ v0 rfl rfl) h0
  obtain ⟨l, rfl, hl⟩ := open_flows (hval 1 _ v1 rfl rfl) h1
  obtain ⟨s, rfl, hs⟩ := open_sch (hval 2 _ v2 rfl rfl) h2
  obtain ⟨b, rfl, -, -, hwb⟩ := open_int Tryz.underlying5 (hval 3 _ v3 rfl rfl) h3
  have hb := wf_u8 hwb
  obtain ⟨z, rfl, -, -, hwz⟩ := open_int Tryz.underlying47 (hval 4 _ v4 rfl rfl) h4
  have hz := wf_u16 hwz
  have ht := tabs_of hL hsh
  refine (law_again n l s b z hb hz ht (Nat.le_trans hl.len maxL) hn.In hl.old.rd hs.old.rd (St.start W)).mono ?_
  rintro e' W' ⟨v, K, rfl, hst, rfl, -⟩
  exact ⟨_, rfl, post_true Tryz.laidOut (by kernel_rfl) rfl rfl Tryz.underlying4 hW' hst.below rfl rfl rfl⟩
theorem sagain_row : Rows.ScheduleAgainSaid :=
  OpenClaim.holds_of_wide 7 Tryz.f7 rfl rfl rfl rfl rfl rfl rfl ⟨rfl, rfl, rfl, rfl, rfl⟩ rfl rfl rfl rfl rfl (by kernel_rfl) Tryz.func7 (by kernel_rfl)
    (of_decide_eq_true (by kernel_rfl)) (by unfold Func.isWrapper; first | (rw [if_pos (by decide +kernel)]; kernel_rfl) | (rw [if_neg (by decide +kernel)]; exact ⟨rfl, rfl⟩))
    (fun os started H enc _ => sagain_lifted os started H enc)
theorem sagain_holds : Rows.ScheduleAgainCardSaid :=
  Claim7.holds_tied_plain_at .later [] [.data, .data, .data, .data, .sentinel, .sentinel, .pinned] true _ true
    sagain_row (fun _ h => by cases h) (by kernel_rfl) (fun _ h => by cases h) scheduleAgain_row_tie rfl ⟨rfl, rfl⟩ (by kernel_rfl) rfl
    (fun f fn hf hfn => by
      obtain rfl : f = 7 := Option.some.inj ((show Tryz.prog.funcNamed Tryz.f7.name = some 7 by kernel_rfl).symm.trans hf) |>.symm
      obtain rfl : fn = Tryz.f7 := (Option.some.inj (Tryz.func7.symm.trans hfn)).symm
      exact ⟨by kernel_rfl, fun j t htj => by
        have hm := Array.mem_of_getElem? htj
        have hall : (Tryz.f7.params.toList.all fun u => !Tryz.prog.wantsStandIn u) = true := by kernel_rfl
        exact (show Tryz.prog.wantsStandIn t = false by simpa using List.all_eq_true.1 hall t (by simpa using hm))⟩)
    (by kernel_rfl)
end Go.Proofs.YtnkpfpgmbpnbgaaGreatDoor
