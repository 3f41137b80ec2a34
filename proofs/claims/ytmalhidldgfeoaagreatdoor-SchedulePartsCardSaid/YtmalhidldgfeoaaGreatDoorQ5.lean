/- The law ScheduleParts returns true at every input, and its arguments read behind the call as they read before: the statement Rows.SchedulePartsCardSaid. Condition: the listed package-level variables start as the program's text lays them, to which the card ties them. -/
import Derived.Test.YtmalhidldgfeoaaGreatDoorRows
import Derived.Lib.LaidU8
import Derived.LaidMore
import Derived.Deep.DeepLaidRun
import Derived.Stop.Joined
import Derived.Test.YtmalhidldgfeoaaGreatDoorCards
import Derived.Test.YtmalhidldgfeoaaGreatDoorTie
import Derived.SevenTiedAt
import Derived.Test.YtmalhidldgfeoaaGreatDoorQ4

/- Walks: the law ScheduleParts. -/
namespace Go.Proofs.YtmalhidldgfeoaaGreatDoor
open Go.RowKit Go.Eng Go.Nw

def bl1F (b : Bool) : List Value := [.bool b]
def plF (r : SlM Cel) : List Value := [.slice r.A r.xs.length r.cap]
def plQ (r : SlM Cel) : HP := sl 40 5 r.A r.xs.length r.cap (r.xs.flatMap celF)
def nilP : SlM Cel := ⟨none, 0, []⟩
theorem rep_bl1 : ∀ n : Nat, (List.replicate n false).flatMap bl1F = List.replicate n (Value.bool false)
  | 0 => rfl
  | n + 1 => by rw [List.replicate_succ, List.flatMap_cons, rep_bl1 n, List.replicate_succ]; rfl
theorem rep_plF : ∀ n : Nat, (List.replicate n nilP).flatMap plF = List.replicate n (Value.slice none 0 0)
  | 0 => rfl
  | n + 1 => by rw [List.replicate_succ, List.flatMap_cons, rep_plF n, List.replicate_succ]; rfl
theorem St.nilRows {B : Nat} {w0 w : World} {H : List HP} (h : St B w0 H w) : ∀ n : Nat, St B w0 (many ((List.replicate n nilP).map plQ) :: H) w
  | 0 => h.perm (.noMany H)
  | n + 1 => by
    have h1 := (St.nilRows h n).nilSlice 40 5
    have h2 := h1.perm (.push (plQ nilP) [] ((List.replicate n nilP).map plQ) H)
    rw [List.replicate_succ, List.map_cons]
    exact h2
theorem rows_at {rows : List (SlM Cel)} {o : Nat} {r : SlM Cel} (h : rows[o]? = some r) (r' : SlM Cel) (H : List HP) :
    Perm (many (rows.map plQ) :: H) (plQ r :: many ((rows.take o ++ rows.drop (o + 1)).map plQ) :: H) ∧ Perm (plQ r' :: many ((rows.take o ++ rows.drop (o + 1)).map plQ) :: H) (many ((rows.set o r').map plQ) :: H) := by
  obtain ⟨ho, rfl⟩ := List.getElem?_eq_some_iff.1 h
  have e1 : rows = rows.take o ++ rows[o] :: rows.drop (o + 1) := by
    rw [← List.drop_eq_getElem_cons ho, List.take_append_drop]
  have e2 : rows.set o r' = rows.take o ++ r' :: rows.drop (o + 1) := by rw [List.set_eq_take_append_cons_drop, if_pos ho]
  constructor
  · have := Perm.pull (plQ rows[o]) ((rows.take o).map plQ) ((rows.drop (o + 1)).map plQ) H
    rw [List.map_append]
    conv => lhs; rw [e1]
    rw [List.map_append, List.map_cons]
    exact this
  · rw [e2, List.map_append, List.map_append, List.map_cons]
    exact .push _ _ _ _
structure PtM where
  j : Nat
  seen : List Bool
  rows : List (SlM Cel)
structure PtI (nodes off : Nat) (L : List Cel) (x : PtM) : Prop where
  le : x.j ≤ L.length
  sl : x.seen.length = nodes
  free : ∀ v : Nat, v < nodes → (∀ d ∈ L.take x.j, fromC d ≠ v ∧ toC d ≠ v) → x.seen[v]? = some false
  rl : x.rows.length = off
  row : ∀ (o : Nat) r, x.rows[o]? = some r → r.xs = (L.take x.j).filter fun c => decide (c.2.1 = (o : Int))
theorem PtI.start (nodes off : Nat) (L : List Cel) : PtI nodes off L ⟨0, List.replicate nodes false, List.replicate off nilP⟩ :=
  ⟨Nat.zero_le _, List.length_replicate, fun v hv _ => by simp [hv], List.length_replicate, fun o r h => by
    have := List.eq_of_mem_replicate (List.mem_of_getElem? h)
    subst this; rfl⟩
theorem PtI.step {nodes off : Nat} {L : List Cel} {x : PtM} (h : PtI nodes off L x) {c : Cel} (hc : L[x.j]? = some c) (hf : 0 ≤ fromC c) (ht : 0 ≤ toC c) (ho : 0 ≤ c.2.1) {r r' : SlM Cel} (hr : x.rows[c.2.1.toNat]? = some r) (hr' : r'.xs = r.xs ++ [c]) :
    PtI nodes off L ⟨x.j + 1, (x.seen.set (fromC c).toNat true).set (toC c).toNat true, x.rows.set c.2.1.toNat r'⟩ := by
  have hj := (List.getElem?_eq_some_iff.1 hc).1
  have hT : L.take (x.j + 1) = L.take x.j ++ [c] := by rw [List.take_add_one, hc, Option.toList_some]
  refine ⟨hj, by simp [h.sl], fun v hv hd => ?_, by simp [h.rl], fun o q hq => ?_⟩
  · dsimp only at hd ⊢
    rw [hT] at hd
    have h1 := hd c (by simp)
    rw [List.getElem?_set_ne (by omega), List.getElem?_set_ne (by omega)]
    exact h.free v hv fun d hdm => hd d (List.mem_append_left _ hdm)
  · dsimp only at hq ⊢
    rw [hT, List.filter_append]
    by_cases e : c.2.1.toNat = o
    · subst e
      have hlt := (List.getElem?_eq_some_iff.1 hr).1
      rw [List.getElem?_set_self hlt] at hq
      obtain rfl := Option.some.inj hq
      rw [hr', h.row _ r hr]
      congr 1
      rw [List.filter_cons, if_pos (by simp; omega)]
      rfl
    · rw [List.getElem?_set_ne e] at hq
      rw [h.row o q hq, List.filter_cons, if_neg (by simp; omega)]
      simp

set_option maxRecDepth 10000 in
set_option maxHeartbeats 8000000 in
theorem law_parts (n : NetM) (l : SlM Flw) (s : SchM) (which : Int) (hw8 : 0 ≤ which ∧ which ≤ 255) {B : Nat} {w0 : World} {H : List HP} {w : World} (ht : TabsB B w0) (hlf : l.xs.length ≤ 9223372036854775807) (hin : n.In B w0 H) (hrf : Rd B w0 H l.A (l.xs.flatMap flwF)) (hr : Rd B w0 H s.A (s.cells.flatMap celF)) (hw : St B w0 H w) :
    Calls Tryz.prog 3 [n.val, l.val, s.val, .int .u8 which].toArray w (Post B w0 fun v K => v = .bool true ∧ K = H) := by
  refine Calls_of_VC Tryz.func3 Tryz.ntmps3 rfl rfl hw ?_
  unfold SlM.val
  have hfew := fun {H' : List HP} {w : World} (hin : n.In B w0 H') (hw : St B w0 H' w) => few31_spec n hin hw
  by_cases hg : 60 < s.cells.length
  · skip
    repeat' (first | ((first | apply VL_callt en11 | apply VL_callq en11); (repeat (first | exact args_nil | (apply args_cons; exact rfl))); exact rfl; exact fun _ hw => (wake_spec ht hw)) | ((first | apply VL_calltb en12 | apply VL_callqb en12); (repeat (first | exact args_nil | (apply args_cons; exact rfl))); exact rfl; exact fun _ hw => (hfew hin.cons.cons hw); all_goals (intro hB; (try simp only [decide_eq_true_eq, decide_eq_false_iff_not] at hB); try (exfalso; omega))) | apply (zs1 ?_) | apply (zs2 ?_) | (apply zg1; first | refine zs3 ?_ | refine zs4 ?_) | (apply zg2; refine zs6 ?_) | (apply zg3; first | refine zs7 ?_ | refine zs8 ?_) | (apply zg4; refine zs9 ?_) | (apply zg6; first | refine zs11 ?_ | refine zs12 ?_) | (apply (zs19 ?_ ?_) <;> intro _ <;> try (exfalso; omega)) | (apply zg20; first | refine zs47 ?_ | refine zs48 ?_) | (apply zg23; (refine zs52 ?_; intro _)) | apply (zs65 ?_) | apply (zs68 ?_) | apply (zs69 ?_) | apply (zs70 ?_) | (apply zg27; first | refine zs71 ?_ | refine zs72 ?_) | apply (zs74 ?_) | apply (zs76 ?_) | apply (zs77 ?_) | fail)
    all_goals (
      apply VQ_st H
      · (intro w hw; refine hw.perm ?_; focus repeat (first | with_reducible exact Perm.refl _ | (with_reducible apply perm_take; focus ((repeat (first | with_reducible exact rem_here | with_reducible apply rem_there)); done)) | with_reducible apply Perm.dropK))
      apply VQ_ret1; exact rfl; exact rfl; exact ⟨rfl, rfl⟩)
  have hl : s.cells.length ≤ 1000000000000 := by omega
  have p1 := fun {H' : List HP} {w : World} (hin : n.In B w0 H') (hrf : Rd B w0 H' l.A (l.xs.flatMap flwF)) (hr : Rd B w0 H' s.A (s.cells.flatMap celF)) (hw : St B w0 H' w) => schCheck_spec n l.xs s hlf hl (cap := l.cap) hin hrf hr hw
  obtain ⟨⟨r1, r2⟩, hR⟩ : ∃ R, schE n.net l.xs s.sch = R := ⟨_, rfl⟩
  have hbd := sch_bd (n := n.net) (l := l.xs) (s := s.sch)
  have e4 : s.sch.cells.length = s.cells.length := rfl
  rw [hR] at p1 hbd
  dsimp only at p1 hbd
  rw [e4] at hbd
  by_cases hr2 : r2 ≠ 0
  · have hb2 := hbd.2.2.1 hr2
    repeat' (first | ((first | apply VL_callt en11 | apply VL_callq en11); (repeat (first | exact args_nil | (apply args_cons; exact rfl))); exact rfl; exact fun _ hw => (wake_spec ht hw)) | ((first | apply VL_calltb en12 | apply VL_callqb en12); (repeat (first | exact args_nil | (apply args_cons; exact rfl))); exact rfl; exact fun _ hw => (hfew hin.cons.cons hw); all_goals (intro hB; (try simp only [decide_eq_true_eq, decide_eq_false_iff_not] at hB); try (exfalso; omega))) | ((first | apply VL_callt en13 | apply VL_callq en13); (repeat (first | exact args_nil | (apply args_cons; exact rfl))); exact rfl; exact fun _ hw => (p1 hin.cons.cons hrf.cons.cons hr.cons.cons hw)) | apply (zs1 ?_) | apply (zs2 ?_) | (apply zg1; first | refine zs3 ?_ | refine zs4 ?_) | (apply zg2; refine zs6 ?_) | (apply zg3; first | refine zs7 ?_ | refine zs8 ?_) | (apply zg4; refine zs9 ?_) | (apply zg6; first | refine zs11 ?_ | refine zs12 ?_) | apply (zs13 ?_) | (apply zg8; (refine zs16 ?_ ?_ <;> intro _ <;> try (exfalso; omega))) | (apply (zs17 ?_ ?_) <;> intro _ <;> try (exfalso; omega)) | (apply (zs19 ?_ ?_) <;> intro _ <;> try (exfalso; omega)) | (apply (zs20 ?_ ?_) <;> intro _ <;> try (exfalso; omega)) | (apply zg20; first | refine zs47 ?_ | refine zs48 ?_) | (apply zg23; (refine zs52 ?_; intro _)) | apply (zs65 ?_) | apply (zs68 ?_) | apply (zs69 ?_) | apply (zs70 ?_) | (apply zg27; first | refine zs71 ?_ | refine zs72 ?_) | apply (zs74 ?_) | apply (zs76 ?_) | apply (zs77 ?_) | fail)
    all_goals (
      apply VQ_st H
      · (intro w hw; refine hw.perm ?_; focus repeat (first | with_reducible exact Perm.refl _ | (with_reducible apply perm_take; focus ((repeat (first | with_reducible exact rem_here | with_reducible apply rem_there)); done)) | with_reducible apply Perm.dropK))
      apply VQ_ret1; exact rfl; exact rfl; exact ⟨rfl, rfl⟩)
  obtain rfl : r2 = 0 := Decidable.not_not.1 hr2
  have hval : Val n.net l.xs s.sch := val_iff.1 (by rw [hR])
  have hsem : Sem n.net l.xs s.sch := val_sem.1 hval
  have hck := hsem.ck
  have hok := check_ok hck
  have hn0 := hok.n0
  have hn1 := hok.n1
  have hfr := hsem.frm
  have hff := form_iff.2 hfr
  have hsz : (1 ≤ s.len ∧ s.len ≤ 512) ∧ (1 ≤ s.off ∧ s.off ≤ 16) := by
    have := of_decide_eq_true hfr.sized
    exact ⟨⟨this.1, this.2.1⟩, this.2.2⟩
  have en : n.net.nodes = n.nodes := rfl
  rw [en] at hn0 hn1
  have hinm : n.In B w0 [many H] := ⟨hin.pw.tail, fun r hr => (hin.rw_ r hr).tail, hin.lk.tail, hin.mg.tail, hin.s1, hin.s2, hin.s3, hin.s4⟩
  have hrm : Rd B w0 [many H] s.A (s.cells.flatMap celF) := hr.tail
  have hrfm : Rd B w0 [many H] l.A (l.xs.flatMap flwF) := hrf.tail
  refine VC_st [many H] (fun w hw => hw.perm (.closeT H)) ?_
  have hout : ∀ {H' : List HP} {w : World}, St B w0 (many H :: H') w → St B w0 H w := fun hw => by
    exact (hw.perm (.open_ H _)).prefix_
  (apply VC_seq; apply VC_region; apply VL_box_agg; exact rfl; exact rfl; intro g)
  cases hfw : fewN35 n.net with
  | false =>
    rw [hfw] at hfew
    repeat' (first | ((first | apply VL_callt en11 | apply VL_callq en11); (repeat (first | exact args_nil | (apply args_cons; exact rfl))); exact rfl; exact fun _ hw => (wake_spec ht hw)) | ((first | apply VL_callt en12 | apply VL_callq en12); (repeat (first | exact args_nil | (apply args_cons; exact rfl))); exact rfl; exact fun _ hw => (hfew hinm.cons.cons hw)) | apply (zs1 ?_) | apply (zs2 ?_) | (apply zg1; refine zs3 ?_) | (apply zg3; refine zs8 ?_) | (apply zg6; refine zs11 ?_) | (apply zg20; first | refine zs47 ?_ | refine zs48 ?_) | (apply zg23; (refine zs52 ?_; intro _)) | apply (zs65 ?_) | apply (zs68 ?_) | apply (zs69 ?_) | apply (zs70 ?_) | (apply zg27; first | refine zs71 ?_ | refine zs72 ?_) | apply (zs74 ?_) | apply (zs76 ?_) | apply (zs77 ?_) | fail)
    apply VQ_st H
    · intro w hw
      have h5 : St B w0 [many H] w := by
        revert w
        (intro w hw; refine hw.perm ?_; focus repeat (first | with_reducible exact Perm.refl _ | (with_reducible apply perm_take; focus ((repeat (first | with_reducible exact rem_here | with_reducible apply rem_there)); done)) | with_reducible apply Perm.dropK))
      exact h5.perm (.openT H)
    apply VQ_ret1; exact rfl; exact rfl; exact ⟨rfl, rfl⟩
  | true =>
  rw [hfw] at hfew
  by_cases hl20 : 20 < l.xs.length
  · skip
    repeat' (first | ((first | apply VL_callt en11 | apply VL_callq en11); (repeat (first | exact args_nil | (apply args_cons; exact rfl))); exact rfl; exact fun _ hw => (wake_spec ht hw)) | ((first | apply VL_callt en12 | apply VL_callq en12); (repeat (first | exact args_nil | (apply args_cons; exact rfl))); exact rfl; exact fun _ hw => (hfew hinm.cons.cons hw)) | apply (zs1 ?_) | apply (zs2 ?_) | (apply zg1; first | refine zs3 ?_ | refine zs4 ?_) | (apply zg3; refine zs8 ?_) | (apply zg4; refine zs9 ?_) | (apply zg6; first | refine zs11 ?_ | refine zs12 ?_) | (apply (zs19 ?_ ?_) <;> intro _ <;> try (exfalso; omega)) | (apply zg20; refine zs47 ?_) | (apply zg23; (refine zs52 ?_; intro _)) | apply (zs65 ?_) | apply (zs68 ?_) | apply (zs69 ?_) | apply (zs70 ?_) | (apply zg27; first | refine zs71 ?_ | refine zs72 ?_) | apply (zs74 ?_) | apply (zs76 ?_) | apply (zs77 ?_) | fail)
    apply VQ_st H
    · intro w hw
      have h5 : St B w0 [many H] w := by
        revert w
        (intro w hw; refine hw.perm ?_; focus repeat (first | with_reducible exact Perm.refl _ | (with_reducible apply perm_take; focus ((repeat (first | with_reducible exact rem_here | with_reducible apply rem_there)); done)) | with_reducible apply Perm.dropK))
      exact h5.perm (.openT H)
    apply VQ_ret1; exact rfl; exact rfl; exact ⟨rfl, rfl⟩
  repeat' (first | ((first | apply VL_callt en11 | apply VL_callq en11); (repeat (first | exact args_nil | (apply args_cons; exact rfl))); exact rfl; exact fun _ hw => (wake_spec ht hw)) | ((first | apply VL_callt en12 | apply VL_callq en12); (repeat (first | exact args_nil | (apply args_cons; exact rfl))); exact rfl; exact fun _ hw => (hfew hinm.cons.cons hw)) | ((first | apply VL_callt en13 | apply VL_callq en13); (repeat (first | exact args_nil | (apply args_cons; exact rfl))); exact rfl; exact fun _ hw => (p1 hinm.cons.cons hrfm.cons.cons hrm.cons.cons hw)) | apply (zs1 ?_) | apply (zs2 ?_) | (apply zg1; refine zs4 ?_) | (apply zg2; refine zs6 ?_) | (apply zg3; first | refine zs7 ?_ | refine zs8 ?_) | (apply zg4; refine zs9 ?_) | (apply zg6; refine zs12 ?_) | apply (zs13 ?_) | (apply zg8; (refine zs16 ?_ ?_ <;> intro _ <;> try (exfalso; omega))) | (apply (zs19 ?_ ?_) <;> intro _ <;> try (exfalso; omega)) | (apply zg20; refine zs47 ?_) | (apply zg23; (refine zs52 ?_; intro _)) | apply (zs65 ?_) | apply (zs68 ?_) | apply (zs69 ?_) | apply (zs70 ?_) | (apply zg27; refine zs72 ?_) | apply (zs73 ?_) | apply (zs76 ?_) | fail)
  rename_i gs _ _ _
  refine VC_loop1 (fun (k : Nat) => [(58, .int .i64 k), (57, .int .i64 s.len), (1, .slice l.A l.xs.length l.cap), (3, .int .u8 which), (4, .pointer (some ⟨g, 0, none⟩)), (6, .pointer (some ⟨gs, 0, none⟩))]) (fun _ => blk gs (.cells #[.int .i64 s.len, .int .i64 s.off, .slice s.A s.cells.length s.cap] 30 (0, 0)) :: netN g n :: [many H]) (fun k => (k : Int) ≤ s.len) (fun k => s.len.toNat - k) 0 (by omega) ?_ (fun w hw => hw) ?_
  · (repeat (first | exact sub_nil _ | (apply sub_cons; first | exact rfl | exact congrArg (fun z : Int => some (Value.int .i64 z)) (by omega))))
  rintro k hk K hK
  by_cases hlt : (k : Int) < s.len
  · obtain ⟨L, hL⟩ : ∃ L, atE s.sch k = L := ⟨_, rfl⟩
    have hLe : L = s.cells.filter fun c => decide (c.1 = (k : Int)) := by
      rw [← hL]
      unfold atE
      rw [if_neg (by rw [hff]; simp), show s.sch.len = s.len from rfl, Int.tmod_eq_emod_of_nonneg (by omega), Int.emod_eq_of_lt (by omega) hlt]
      rfl
    have hLm : ∀ c ∈ L, c ∈ s.cells ∧ c.1 = (k : Int) := fun c hc => by
      rw [hLe] at hc
      have := List.mem_filter.1 hc
      exact ⟨this.1, of_decide_eq_true this.2⟩
    have hLl : L.length ≤ s.cells.length := by rw [hLe]; exact List.length_filter_le _ _
    have hap := fun {H' : List HP} {w : World} (hr : Rd B w0 H' s.A (s.cells.flatMap celF)) (hw : St B w0 H' w) => at_spec s (k : Int) hr hl hw
    rw [hL] at hap
    unfold netN
    repeat' (first | apply (zs1 ?_) | apply (zs2 ?_) | (apply zg2; refine zs6 ?_) | (apply zg3; refine zs7 ?_) | (apply (zs17 ?_ ?_) <;> intro _ <;> try (exfalso; omega)) | apply (zs65 ?_) | apply (zs68 ?_) | apply (zs69 ?_) | apply (zs70 ?_) | (apply zg27; refine zs71 ?_) | apply (zs73 ?_) | apply (zs76 ?_) | fail)
    apply VL_make1 T; exact rfl; exact rfl; exact rfl; exact zi4; exact rfl; exact rfl; exact rfl; omega
    intro gb
    repeat' (first | apply (zs2 ?_) | (apply zg2; refine zs6 ?_) | (apply zg3; refine zs7 ?_) | apply (zs65 ?_) | apply (zs68 ?_) | apply (zs69 ?_) | apply (zs70 ?_) | fail)
    apply VL_make1 T; exact rfl; exact rfl; exact rfl; exact zi28; exact rfl; exact rfl; exact rfl; omega
    intro gp
    repeat' (first | apply (zs1 ?_) | apply (zs2 ?_) | (apply zg3; refine zs8 ?_) | apply (zs65 ?_) | apply (zs68 ?_) | apply (zs69 ?_) | apply (zs70 ?_) | fail)
    apply VL_call _ en14
    (repeat (first | exact args_nil | (apply args_cons; exact rfl)))
    exact rfl
    exact fun _ hw => (hap (by (first | (focus (repeat (first | assumption | apply Rd.cons)); done) | exact Rd.sl (by (focus repeat (first | with_reducible exact List.mem_cons_self | with_reducible apply List.mem_cons_of_mem | assumption))))) (hw))
    rintro _ _ ⟨A, cap, rfl, rfl⟩
    unfold cels
    have hri : Rd B w0 (sl 40 5 A L.length cap (L.flatMap celF) :: sl 28 1 (some ⟨gp, 0, none⟩) s.off.toNat s.off.toNat (List.replicate s.off.toNat (Value.slice none 0 0)) :: sl 4 1 (some ⟨gb, 0, none⟩) n.nodes.toNat n.nodes.toNat (List.replicate n.nodes.toNat (Value.bool false)) :: blk gs (.cells #[.int .i64 s.len, .int .i64 s.off, .slice s.A s.cells.length s.cap] 30 (0, 0)) :: blk g (.cells #[.int .i64 n.nodes, .slice n.pA n.rows.length n.pcap, .int .i64 n.noise, .int .i64 n.thr, .slice n.lA n.links.length n.lcap, .slice n.mA n.margin.length n.mcap] 26 (0, 0)) :: [many H]) A (L.flatMap celF) := Rd.sl (.head _)
    repeat' (first | apply (zs1 ?_) | (apply zg4; refine zs9 ?_) | apply (zs65 ?_) | apply (zs68 ?_) | apply (zs73 ?_) | fail)
    refine VC_loop1 (fun (x : PtM) => (71, .int .i64 x.j) :: (70, .int .i64 L.length) :: (69, .slice A L.length cap) :: (11, .int .i64 k) :: (12, .slice (some ⟨gb, 0, none⟩) n.nodes.toNat n.nodes.toNat) :: (13, .slice (some ⟨gp, 0, none⟩) s.off.toNat s.off.toNat) :: [(58, .int .i64 k), (57, .int .i64 s.len), (1, .slice l.A l.xs.length l.cap), (3, .int .u8 which), (4, .pointer (some ⟨g, 0, none⟩)), (6, .pointer (some ⟨gs, 0, none⟩))]) (fun x => sl 28 1 (some ⟨gp, 0, none⟩) s.off.toNat s.off.toNat (x.rows.flatMap plF) :: many (x.rows.map plQ) :: sl 4 1 (some ⟨gb, 0, none⟩) n.nodes.toNat n.nodes.toNat (x.seen.flatMap bl1F) :: sl 40 5 A L.length cap (L.flatMap celF) :: blk gs (.cells #[.int .i64 s.len, .int .i64 s.off, .slice s.A s.cells.length s.cap] 30 (0, 0)) :: blk g (.cells #[.int .i64 n.nodes, .slice n.pA n.rows.length n.pcap, .int .i64 n.noise, .int .i64 n.thr, .slice n.lA n.links.length n.lcap, .slice n.mA n.margin.length n.mcap] 26 (0, 0)) :: [many H]) (PtI n.nodes.toNat s.off.toNat L) (fun x => L.length - x.j) ⟨0, List.replicate n.nodes.toNat false, List.replicate s.off.toNat nilP⟩ (PtI.start _ _ _) ?_ ?_ ?_
    · (repeat (first | exact sub_nil _ | (apply sub_cons; first | exact rfl | exact congrArg (fun z : Int => some (Value.int .i64 z)) (by omega))))
    · dsimp only
      rw [rep_bl1, rep_plF]
      intro w hw
      have h1 := St.nilRows hw s.off.toNat
      clear hw
      revert w
      (intro w hw; refine hw.perm ?_; focus repeat (first | with_reducible exact Perm.refl _ | (with_reducible apply perm_take; focus ((repeat (first | with_reducible exact rem_here | with_reducible apply rem_there)); done)) | with_reducible apply Perm.dropK))
    clear hri
    rintro ⟨j, seen, rows⟩ hI K2 hK2
    obtain ⟨hj, hsl, hfree, hrl, hrow⟩ := id hI
    dsimp only at hj hsl hfree hrl hrow ⊢
    by_cases hjl : j < L.length
    · obtain ⟨c, hc⟩ : ∃ c, L[j]? = some c := ⟨_, List.getElem?_eq_getElem hjl⟩
      obtain ⟨hcm, hck1⟩ := hLm c (List.mem_of_getElem? hc)
      have hgd := (hsem.good c hcm).1
      obtain ⟨⟨f0, f1⟩, ⟨t0, t1⟩, _, _, _⟩ : (0 ≤ c.2.2.1 ∧ c.2.2.1 < n.net.nodes) ∧ (0 ≤ c.2.2.2.1 ∧ c.2.2.2.1 < n.net.nodes) ∧ c.2.2.1 ≠ c.2.2.2.1 ∧ 0 ≤ findE n.net c.2.2.1 c.2.2.2.1 ∧ 0 ≤ findE n.net c.2.2.2.1 c.2.2.1 := good_nodes hok hgd
      rw [en] at f1 t1
      have hof : 0 ≤ c.2.1 ∧ c.2.1 < s.off := by
        have h1 := hfr.formed c hcm
        unfold formedE placedE insE at h1
        simp only [Bool.and_eq_true, decide_eq_true_eq] at h1
        exact h1.1.1.1.2
      have hnt : ∀ d ∈ L.take j, touchE d c = false := fun d hd => by
        have h1 : L.Pairwise fun a b => a.1 = b.1 → touchE a b = false := by rw [hLe]; exact hsem.once.filter _
        have h2 : L = L.take j ++ c :: L.drop (j + 1) := by
          obtain ⟨hj2, rfl⟩ := List.getElem?_eq_some_iff.1 hc
          rw [← List.drop_eq_getElem_cons hj2, List.take_append_drop]
        rw [h2] at h1
        have h3 := (List.pairwise_append.1 h1).2.2 d hd c (by simp)
        exact h3 (by rw [(hLm d (List.mem_of_mem_take hd)).2, hck1])
      have hnt2 : ∀ d ∈ L.take j, ¬ (fromC d = c.2.2.1 ∨ fromC d = c.2.2.2.1 ∨ toC d = c.2.2.1 ∨ toC d = c.2.2.2.1) := fun d hd => of_decide_eq_false (hnt d hd)
      have hs1 : seen[c.2.2.1.toNat]? = some false := hfree _ (by omega) fun d hd => by
        have := hnt2 d hd
        omega
      have hs2 : seen[c.2.2.2.1.toNat]? = some false := hfree _ (by omega) fun d hd => by
        have := hnt2 d hd
        omega
      obtain ⟨r, hrr⟩ : ∃ r, rows[c.2.1.toNat]? = some r := ⟨_, List.getElem?_eq_getElem (by omega)⟩
      have hrxl : r.xs.length ≤ 60 := by
        rw [hrow _ r hrr]
        refine Nat.le_trans (List.length_filter_le _ _) ?_
        rw [List.length_take]; omega
      repeat' (first | apply (zs1 ?_) | (apply zg1; refine zs4 ?_) | (apply zg2; refine zs6 ?_) | (apply zg3; first | refine zs7 ?_ | refine zs60 ?_ | refine zs61 ?_) | (apply zg5; refine zs10 ?_) | (apply zg6; refine zs12 ?_) | (apply zg8; (refine zs16 ?_ ?_ <;> intro _ <;> try (exfalso; omega))) | (apply (zs17 ?_ ?_) <;> intro _ <;> try (exfalso; omega)) | (apply (zs20 ?_ ?_) <;> intro _ <;> try (exfalso; omega)) | (apply zg22; refine zs51 ?_) | (apply zg24; (refine zs54 ?_; intro _)) | apply (zs65 ?_) | apply (zs68 ?_) | apply (zs69 ?_) | apply (zs70 ?_) | (apply zg27; first | refine zs71 ?_ | refine zs72 ?_) | apply (zs73 ?_) | apply (zs76 ?_) | fail)
      rename_i gc _ _ _ _ _ _ _
      apply VC_heldH [0, 1, 2, 3, 4, 5, 6, 7] [8, 9] [true]
      kernel_rfl
      kernel_rfl
      (repeat (first | with_reducible exact split_nil | with_reducible apply split_t | with_reducible apply split_f))
      (simp only [pickOps, nthO]; rfl)
      (simp only [pickOps, nthO]; rfl)
      repeat' (first | (apply VL_index_some T; exact rfl; exact rfl; exact rfl; exact rfl; omega) | (apply VL_store_row T (f := bl1F) (a := true); exact rfl; exact rfl; exact rfl; (repeat (first | with_reducible exact Upd.here _ | with_reducible apply Upd.there)); exact rfl; exact fun _ => rfl; exact rfl; (first | omega | (simp; omega))) | apply (zs1 ?_) | (apply zg2; refine zs6 ?_) | (apply zg3; refine zs7 ?_) | apply (zs65 ?_) | (apply VL_nilh; (repeat (first | with_reducible exact app_nil | with_reducible apply app_cons | exact app_niln _))) | apply (zs68 ?_) | apply (zs87 ?_) | (apply VQ_heldq; (repeat (first | with_reducible exact pull_nil | (with_reducible apply pull_cons; (repeat (first | with_reducible exact rem_here | with_reducible apply rem_there)))))) | apply (zs93 ?_) | apply (zs94 ?_) | fail)
      have hrows := rows_at hrr
      refine VC_st (plQ r :: blk gc (.cells #[.int .i64 c.1, .int .i64 c.2.1, .int .i64 c.2.2.1, .int .i64 c.2.2.2.1, .int .i64 c.2.2.2.2] 40 (0, 0)) :: sl 28 1 (some ⟨gp, 0, none⟩) s.off.toNat s.off.toNat (rows.flatMap plF) :: many ((rows.take c.2.1.toNat ++ rows.drop (c.2.1.toNat + 1)).map plQ) :: sl 4 1 (some ⟨gb, 0, none⟩) n.nodes.toNat n.nodes.toNat (((seen.set c.2.2.1.toNat true).set c.2.2.2.1.toNat true).flatMap bl1F) :: sl 40 5 A L.length cap (L.flatMap celF) :: blk gs (.cells #[.int .i64 s.len, .int .i64 s.off, .slice s.A s.cells.length s.cap] 30 (0, 0)) :: blk g (.cells #[.int .i64 n.nodes, .slice n.pA n.rows.length n.pcap, .int .i64 n.noise, .int .i64 n.thr, .slice n.lA n.links.length n.lcap, .slice n.mA n.margin.length n.mcap] 26 (0, 0)) :: [many H]) ?_ ?_
      · intro w hw
        have h5 : St B w0 (many (rows.map plQ) :: blk gc (.cells #[.int .i64 c.1, .int .i64 c.2.1, .int .i64 c.2.2.1, .int .i64 c.2.2.2.1, .int .i64 c.2.2.2.2] 40 (0, 0)) :: sl 28 1 (some ⟨gp, 0, none⟩) s.off.toNat s.off.toNat (rows.flatMap plF) :: sl 4 1 (some ⟨gb, 0, none⟩) n.nodes.toNat n.nodes.toNat (((seen.set c.2.2.1.toNat true).set c.2.2.2.1.toNat true).flatMap bl1F) :: sl 40 5 A L.length cap (L.flatMap celF) :: blk gs (.cells #[.int .i64 s.len, .int .i64 s.off, .slice s.A s.cells.length s.cap] 30 (0, 0)) :: blk g (.cells #[.int .i64 n.nodes, .slice n.pA n.rows.length n.pcap, .int .i64 n.noise, .int .i64 n.thr, .slice n.lA n.links.length n.lcap, .slice n.mA n.margin.length n.mcap] 26 (0, 0)) :: [many H]) w := by
          revert w
          (intro w hw; refine hw.perm ?_; focus repeat (first | with_reducible exact Perm.refl _ | (with_reducible apply perm_take; focus ((repeat (first | with_reducible exact rem_here | with_reducible apply rem_there)); done)) | with_reducible apply Perm.dropK))
        have h6 := h5.perm (hrows nilP _).1
        clear hw h5
        revert w
        (intro w hw; refine hw.perm ?_; focus repeat (first | with_reducible exact Perm.refl _ | (with_reducible apply perm_take; focus ((repeat (first | with_reducible exact rem_here | with_reducible apply rem_there)); done)) | with_reducible apply Perm.dropK))
      rw [show plQ r = sl 40 5 r.A r.xs.length r.cap (r.xs.flatMap celF) from rfl]
      repeat' (first | fail)
      apply VC_heldH [0, 1, 2, 3, 4, 5, 6, 7, 8, 9, 10] [11, 12] [false, true, true]
      kernel_rfl
      kernel_rfl
      (repeat (first | with_reducible exact split_nil | with_reducible apply split_t | with_reducible apply split_f))
      (simp only [pickOps, nthO]; rfl)
      (simp only [pickOps, nthO]; rfl)
      repeat' (first | (apply VL_index_some T; exact rfl; exact rfl; exact rfl; exact rfl; omega) | apply (zs1 ?_) | (apply zg2; refine zs6 ?_) | (apply zg3; first | refine zs7 ?_ | refine zs8 ?_ | refine zs60 ?_) | (apply zg21; (refine zs49 ?_; intro _ _)) | (apply zg26; (refine zs56 ?_; intro _)) | apply (zs65 ?_) | (apply VL_nilh; (repeat (first | with_reducible exact app_nil | with_reducible apply app_cons | exact app_niln _))) | apply (zs87 ?_) | (apply VQ_heldq; (repeat (first | with_reducible exact pull_nil | (with_reducible apply pull_cons; (repeat (first | with_reducible exact rem_here | with_reducible apply rem_there)))))) | apply (zs93 ?_) | fail)
      rename_i A9 cap9
      apply VL_store_row T (f := plF) (l := rows) (i := c.2.1.toNat) (a := ⟨A9, cap9, r.xs ++ [c]⟩); exact rfl; exact rfl; exact rfl; (repeat (first | with_reducible exact Upd.here _ | with_reducible apply Upd.there)); (simp [plF]); exact fun _ => rfl; exact rfl; omega
      repeat' (first | apply (zs1 ?_) | (apply zg13; refine zs30 ?_) | apply (zs65 ?_) | apply (zs68 ?_) | apply (zs70 ?_) | apply (zs79 ?_) | apply (zs94 ?_) | fail)
      apply hK2 ⟨j + 1, (seen.set c.2.2.1.toNat true).set c.2.2.2.1.toNat true, rows.set c.2.1.toNat ⟨A9, cap9, r.xs ++ [c]⟩⟩
      · exact hI.step hc f0 t0 hof.1 hrr rfl
      · dsimp only; omega
      · (repeat (first | exact sub_nil _ | (apply sub_cons; first | exact rfl | exact congrArg (fun z : Int => some (Value.int .i64 z)) (by omega))))
      · dsimp only
        intro w hw
        rw [cels_snocR] at hw
        have h5 : St B w0 (cels A9 cap9 (r.xs ++ [c]) :: many ((rows.take c.2.1.toNat ++ rows.drop (c.2.1.toNat + 1)).map plQ) :: sl 28 1 (some ⟨gp, 0, none⟩) s.off.toNat s.off.toNat ((rows.set c.2.1.toNat ⟨A9, cap9, r.xs ++ [c]⟩).flatMap plF) :: sl 4 1 (some ⟨gb, 0, none⟩) n.nodes.toNat n.nodes.toNat (((seen.set c.2.2.1.toNat true).set c.2.2.2.1.toNat true).flatMap bl1F) :: sl 40 5 A L.length cap (L.flatMap celF) :: blk gs (.cells #[.int .i64 s.len, .int .i64 s.off, .slice s.A s.cells.length s.cap] 30 (0, 0)) :: blk g (.cells #[.int .i64 n.nodes, .slice n.pA n.rows.length n.pcap, .int .i64 n.noise, .int .i64 n.thr, .slice n.lA n.links.length n.lcap, .slice n.mA n.margin.length n.mcap] 26 (0, 0)) :: [many H]) w := by
          revert w
          (intro w hw; refine hw.perm ?_; focus repeat (first | with_reducible exact Perm.refl _ | (with_reducible apply perm_take; focus ((repeat (first | with_reducible exact rem_here | with_reducible apply rem_there)); done)) | with_reducible apply Perm.dropK))
        have h6 := h5.perm (hrows ⟨A9, cap9, r.xs ++ [c]⟩ _).2
        clear hw h5
        revert w
        (intro w hw; refine hw.perm ?_; focus repeat (first | with_reducible exact Perm.refl _ | (with_reducible apply perm_take; focus ((repeat (first | with_reducible exact rem_here | with_reducible apply rem_there)); done)) | with_reducible apply Perm.dropK))
    obtain rfl : j = L.length := by omega
    rw [List.take_length] at hrow
    clear hK2 hfree
    repeat' (first | apply (zs1 ?_) | (apply zg4; refine zs9 ?_) | (apply (zs17 ?_ ?_) <;> intro _ <;> try (exfalso; omega)) | apply (zs65 ?_) | apply (zs68 ?_) | apply (zs69 ?_) | apply (zs70 ?_) | (apply zg27; refine zs72 ?_) | apply (zs73 ?_) | apply (zs75 ?_) | apply (zs80 ?_) | apply (zs81 ?_) | fail)
    obtain ⟨ro, hro⟩ : ∃ ro, s.off.toNat = ro := ⟨_, rfl⟩
    refine VC_loop1 (fun (o : Nat) => (152, .int .i64 o) :: (151, .int .i64 s.off.toNat) :: (150, .slice (some ⟨gp, 0, none⟩) s.off.toNat s.off.toNat) :: (11, .int .i64 k) :: [(58, .int .i64 k), (57, .int .i64 s.len), (1, .slice l.A l.xs.length l.cap), (3, .int .u8 which), (4, .pointer (some ⟨g, 0, none⟩)), (6, .pointer (some ⟨gs, 0, none⟩))]) (fun _ => sl 28 1 (some ⟨gp, 0, none⟩) s.off.toNat s.off.toNat (rows.flatMap plF) :: many (rows.map plQ) :: blk gs (.cells #[.int .i64 s.len, .int .i64 s.off, .slice s.A s.cells.length s.cap] 30 (0, 0)) :: blk g (.cells #[.int .i64 n.nodes, .slice n.pA n.rows.length n.pcap, .int .i64 n.noise, .int .i64 n.thr, .slice n.lA n.links.length n.lcap, .slice n.mA n.margin.length n.mcap] 26 (0, 0)) :: [many H]) (fun o => o ≤ s.off.toNat) (fun o => s.off.toNat - o) 0 (Nat.zero_le _) ?_ ?_ ?_
    · (repeat (first | exact sub_nil _ | (apply sub_cons; first | exact rfl | exact congrArg (fun z : Int => some (Value.int .i64 z)) (by omega))))
    · (intro w hw; refine hw.perm ?_; focus repeat (first | with_reducible exact Perm.refl _ | (with_reducible apply perm_take; focus ((repeat (first | with_reducible exact rem_here | with_reducible apply rem_there)); done)) | with_reducible apply Perm.dropK))
    rintro o ho K3 hK3
    by_cases hol : o < s.off.toNat
    · obtain ⟨r, hrr⟩ : ∃ r, rows[o]? = some r := ⟨_, List.getElem?_eq_getElem (by omega)⟩
      have hrx : r.xs = placeL s.sch k o := by
        rw [hrow o r hrr, hLe]
        exact place_at (s := s.sch) (k : Int) (o : Int)
      have hgl : goodL n.net r.xs = true := by rw [hrx]; exact good_place hsem _ _
      have hrl2 : r.xs.length ≤ 1000 := by
        rw [hrow o r hrr]
        refine Nat.le_trans (List.length_filter_le _ _) ?_
        omega
      have hgc := fun {H' : List HP} {w : World} (hin : n.In B w0 H') (hr : Rd B w0 H' r.A (r.xs.flatMap celF)) (hw : St B w0 H' w) => good_specC n r.xs hck hrl2 (cap := r.cap) hin hr hw
      rw [hgl] at hgc
      have hmr : plQ r ∈ rows.map plQ := List.mem_map_of_mem (List.mem_of_getElem? hrr)
      repeat' (first | apply (zs1 ?_) | apply (zs2 ?_) | (apply zg3; first | refine zs8 ?_ | refine zs60 ?_) | (apply zg5; refine zs10 ?_) | (apply (zs17 ?_ ?_) <;> intro _ <;> try (exfalso; omega)) | apply (zs65 ?_) | apply (zs68 ?_) | apply (zs69 ?_) | apply (zs70 ?_) | (apply zg27; refine zs71 ?_) | apply (zs73 ?_) | apply (zs76 ?_) | fail)
      first | apply VL_callt en15 | apply VL_callq en15
      (repeat (first | exact args_nil | (apply args_cons; exact rfl)))
      exact rfl
      exact fun _ hw => (hgc (by repeat (first | exact hinm | apply NetM.In.cons)) (Rd.many (by (focus repeat (first | with_reducible exact List.mem_cons_self | with_reducible apply List.mem_cons_of_mem | assumption))) hmr) hw)
      repeat' (first | apply (zs1 ?_) | (apply zg13; refine zs30 ?_) | (apply zg20; refine zs47 ?_) | apply (zs65 ?_) | apply (zs68 ?_) | apply (zs70 ?_) | (apply zg27; refine zs72 ?_) | apply (zs76 ?_) | apply (zs79 ?_) | fail)
      apply hK3 (o + 1)
      · show o + 1 ≤ s.off.toNat
        omega
      · omega
      · (repeat (first | exact sub_nil _ | (apply sub_cons; first | exact rfl | exact congrArg (fun z : Int => some (Value.int .i64 z)) (by omega))))
      · exact fun w hw => hw
    · repeat' (first | apply (zs1 ?_) | (apply (zs17 ?_ ?_) <;> intro _ <;> try (exfalso; omega)) | (apply zg13; refine zs30 ?_) | apply (zs65 ?_) | apply (zs68 ?_) | apply (zs69 ?_) | apply (zs70 ?_) | (apply zg27; refine zs72 ?_) | apply (zs75 ?_) | apply (zs79 ?_) | apply (zs80 ?_) | apply (zs81 ?_) | fail)
      apply hK (k + 1)
      · show ((k + 1 : Nat) : Int) ≤ s.len
        omega
      · omega
      · (repeat (first | exact sub_nil _ | (apply sub_cons; first | exact rfl | exact congrArg (fun z : Int => some (Value.int .i64 z)) (by omega))))
      · unfold netN
        (intro w hw; refine hw.perm ?_; focus repeat (first | with_reducible exact Perm.refl _ | (with_reducible apply perm_take; focus ((repeat (first | with_reducible exact rem_here | with_reducible apply rem_there)); done)) | with_reducible apply Perm.dropK))
  · have hkl : (k : Int) = s.len := by omega
    unfold netN
    clear hK
    by_cases h0 : s.cells.length = 0
    · repeat' (first | apply (zs2 ?_) | (apply zg2; refine zs6 ?_) | (apply zg3; refine zs7 ?_) | (apply zg4; refine zs9 ?_) | (apply zg7; (refine zs15 ?_ ?_ <;> intro _ <;> try (exfalso; omega))) | (apply (zs17 ?_ ?_) <;> intro _ <;> try (exfalso; omega)) | apply (zs65 ?_) | apply (zs68 ?_) | apply (zs69 ?_) | apply (zs70 ?_) | (apply zg27; first | refine zs71 ?_ | refine zs72 ?_) | apply (zs74 ?_) | apply (zs75 ?_) | apply (zs77 ?_) | apply (zs80 ?_) | apply (zs81 ?_) | fail)
      apply VQ_st H
      · exact fun w hw => hw.inM (by (focus repeat (first | with_reducible exact List.mem_cons_self | with_reducible apply List.mem_cons_of_mem | assumption)))
      apply VQ_ret1; exact rfl; exact rfl; exact ⟨rfl, rfl⟩
    have hm0 : 0 ≤ which % (s.cells.length : Int) ∧ which % (s.cells.length : Int) < s.cells.length := by
      exact ⟨Int.emod_nonneg _ (by omega), Int.emod_lt_of_pos _ (by omega)⟩
    have hmt : which.tmod s.cells.length = which % (s.cells.length : Int) := Int.tmod_eq_emod_of_nonneg hw8.1
    obtain ⟨m, hm⟩ : ∃ m, which % (s.cells.length : Int) = m := ⟨_, rfl⟩
    rw [hm] at hm0
    obtain ⟨c, hc⟩ : ∃ c, s.cells[(which % (s.cells.length : Int)).toNat]? = some c := ⟨_, List.getElem?_eq_getElem (by omega)⟩
    obtain ⟨t, hrem, htl, htc⟩ := part_sem hsem (List.mem_of_getElem? hc)
    have htl : t.cells.length + 1 = s.cells.length := htl
    have p2 : ∀ {H' : List HP} {w : World}, Rd B w0 H' s.A (s.cells.flatMap celF) → St B w0 H' w → Calls Tryz.prog 16 [s.val, celV c].toArray w (Post B w0 (OutS H' (t, 0))) := fun hr hw => by
      have h := remove_spec s c hr hl hw
      rw [hrem] at h
      exact h
    unfold OutS at p2
    have p3 : ∀ {A1 : Option Addr} {cap1 : Nat} {H' : List HP} {w : World}, n.In B w0 H' → Rd B w0 H' l.A (l.xs.flatMap flwF) → Rd B w0 H' A1 (t.cells.flatMap celF) → St B w0 H' w → Calls Tryz.prog 13 [n.val, .slice l.A l.xs.length l.cap, .agg #[.int .i64 t.len, .int .i64 t.off, .slice A1 t.cells.length cap1]].toArray w (Post B w0 fun v K => v = .tuple #[.int .i64 (-1), .int .i64 0] ∧ K = H') := fun {A1 cap1 H' w} hin hrf hr hw => by
      have h := schCheck_spec n l.xs ⟨t.len, t.off, A1, cap1, t.cells⟩ hlf (by show t.cells.length ≤ _; omega) (cap := l.cap) hin hrf hr hw
      rw [show (SchM.mk t.len t.off A1 cap1 t.cells).sch = t from rfl, htc] at h
      exact h
    dsimp only at p2
    repeat' (first | (apply zg2; refine zs6 ?_) | (apply zg3; refine zs7 ?_) | (apply zg4; refine zs9 ?_) | (apply zg7; (refine zs15 ?_ ?_ <;> intro _ <;> try (exfalso; omega))) | (apply (zs17 ?_ ?_) <;> intro _ <;> try (exfalso; omega)) | apply (zs65 ?_) | apply (zs68 ?_) | apply (zs69 ?_) | apply (zs70 ?_) | (apply zg27; refine zs72 ?_) | apply (zs75 ?_) | apply (zs76 ?_) | apply (zs80 ?_) | apply (zs81 ?_) | fail)
    apply VC_tree (.n1 0 (.n1 1 (.n1 2 (.n1 3 (.n1 4 (.n1 5 (.n1 6 (.n1 7 (.n1 8 (.n1 9 (.n1 10 (.n2 11 (.n1 12 (.n1 13 (.n1 14 (.n1 15 (.n1 16 (.n1 17 .done)))))) 15 (.n1 11 (.n1 12 (.n1 13 (.n1 14 (.n1 16 (.n1 17 .done)))))))))))))))))) [] [true, false, true]
    kernel_rfl
    kernel_rfl
    (repeat (first | with_reducible exact split_nil | with_reducible apply split_t | with_reducible apply split_f))
    exact rfl
    repeat' (first | apply (zs1 ?_) | (apply zg2; refine zs6 ?_) | (apply zg3; first | refine zs7 ?_ | refine zs8 ?_ | refine zs61 ?_) | (apply zg4; refine zs9 ?_) | (apply zg5; refine zs57 ?_) | (apply zg17; refine zs37 ?_) | (apply zg19; refine zs44 ?_) | (apply zg24; (refine zs54 ?_; intro _)) | apply (zs65 ?_) | (apply VL_nilh; (repeat (first | with_reducible exact app_nil | with_reducible apply app_cons | exact app_niln _))) | apply (zs87 ?_) | (apply VQ_heldq; (repeat (first | with_reducible exact pull_nil | (with_reducible apply pull_cons; (repeat (first | with_reducible exact rem_here | with_reducible apply rem_there)))))) | apply (zs90 ?_) | apply (zs91 ?_ ?_) | (apply VQ_treeq; (repeat (first | with_reducible exact pull_nil | (with_reducible apply pull_cons; (repeat (first | with_reducible exact rem_here | with_reducible apply rem_there)))))) | fail)
    · skip
      apply VL_callP [] _ en16
      (repeat (first | exact args_nil | (apply args_cons; exact rfl)))
      (repeat (first | with_reducible exact pull_nil | (with_reducible apply pull_cons; (repeat (first | with_reducible exact rem_here | with_reducible apply rem_there)))))
      (repeat (first | with_reducible exact app_nil | with_reducible apply app_cons | exact app_niln _))
      exact rfl
      exact fun _ hw => ((fun h => p2 (hr.inM (by (focus repeat (first | with_reducible exact List.mem_cons_self | with_reducible apply List.mem_cons_of_mem | assumption)))) h) hw)
      rintro _ _ ⟨A1, cap1, rfl, rfl⟩
      repeat' (first | apply (zs1 ?_) | apply (zs2 ?_) | (apply zg3; refine zs8 ?_) | apply (zs13 ?_) | (apply zg22; refine zs51 ?_) | (apply zg24; (refine zs54 ?_; intro _)) | apply (zs65 ?_) | (apply VL_nilh; (repeat (first | with_reducible exact app_nil | with_reducible apply app_cons | exact app_niln _))) | apply (zs68 ?_) | apply (zs69 ?_) | apply (zs70 ?_) | apply (zs87 ?_) | (apply VQ_heldq; (repeat (first | with_reducible exact pull_nil | (with_reducible apply pull_cons; (repeat (first | with_reducible exact rem_here | with_reducible apply rem_there)))))) | (apply VT_done; (repeat (first | with_reducible exact app_nil | with_reducible apply app_cons | exact app_niln _))) | apply (zs90 ?_) | (apply VQ_treeq; (repeat (first | with_reducible exact pull_nil | (with_reducible apply pull_cons; (repeat (first | with_reducible exact rem_here | with_reducible apply rem_there)))))) | apply (zs93 ?_) | apply (zs94 ?_) | fail)
      first | apply VL_callt en13 | apply VL_callq en13
      (repeat (first | exact args_nil | (apply args_cons; exact rfl)))
      exact rfl
      exact fun _ hw => (p3 (hin.inM (by (focus repeat (first | with_reducible exact List.mem_cons_self | with_reducible apply List.mem_cons_of_mem | assumption)))) (hrf.inM (by (focus repeat (first | with_reducible exact List.mem_cons_self | with_reducible apply List.mem_cons_of_mem | assumption)))) (Rd.cels (cap := cap1) (by (focus repeat (first | with_reducible exact List.mem_cons_self | with_reducible apply List.mem_cons_of_mem | assumption)))) hw)
      repeat' (first | apply (zs1 ?_) | apply (zs2 ?_) | (apply zg1; refine zs4 ?_) | (apply zg2; refine zs6 ?_) | (apply zg3; refine zs7 ?_) | (apply zg4; refine zs9 ?_) | (apply zg6; refine zs11 ?_) | apply (zs13 ?_) | (apply zg7; (refine zs15 ?_ ?_ <;> intro _ <;> try (exfalso; omega))) | (apply zg14; refine zs31 ?_) | apply (zs65 ?_) | apply (zs68 ?_) | apply (zs69 ?_) | apply (zs70 ?_) | apply (zs74 ?_) | fail)
      apply VQ_st H
      · exact fun w hw => hw.inM (by (focus repeat (first | with_reducible exact List.mem_cons_self | with_reducible apply List.mem_cons_of_mem | assumption)))
      apply VQ_ret1; exact rfl; exact rfl; exact ⟨rfl, rfl⟩
    · skip
      apply VL_callP [] _ en16
      (repeat (first | exact args_nil | (apply args_cons; exact rfl)))
      (repeat (first | with_reducible exact pull_nil | (with_reducible apply pull_cons; (repeat (first | with_reducible exact rem_here | with_reducible apply rem_there)))))
      (repeat (first | with_reducible exact app_nil | with_reducible apply app_cons | exact app_niln _))
      exact rfl
      exact fun _ hw => ((fun h => p2 (hr.inM (by (focus repeat (first | with_reducible exact List.mem_cons_self | with_reducible apply List.mem_cons_of_mem | assumption)))) h) hw)
      rintro _ _ ⟨A1, cap1, rfl, rfl⟩
      repeat' (first | apply (zs1 ?_) | apply (zs2 ?_) | (apply zg3; refine zs8 ?_) | apply (zs13 ?_) | (apply zg22; refine zs51 ?_) | apply (zs65 ?_) | (apply VL_nilh; (repeat (first | with_reducible exact app_nil | with_reducible apply app_cons | exact app_niln _))) | apply (zs68 ?_) | apply (zs69 ?_) | apply (zs70 ?_) | apply (zs87 ?_) | (apply VQ_heldq; (repeat (first | with_reducible exact pull_nil | (with_reducible apply pull_cons; (repeat (first | with_reducible exact rem_here | with_reducible apply rem_there)))))) | (apply VT_done; (repeat (first | with_reducible exact app_nil | with_reducible apply app_cons | exact app_niln _))) | apply (zs90 ?_) | (apply VQ_treeq; (repeat (first | with_reducible exact pull_nil | (with_reducible apply pull_cons; (repeat (first | with_reducible exact rem_here | with_reducible apply rem_there)))))) | apply (zs93 ?_) | apply (zs94 ?_) | fail)
      first | apply VL_callt en13 | apply VL_callq en13
      (repeat (first | exact args_nil | (apply args_cons; exact rfl)))
      exact rfl
      exact fun _ hw => (p3 (hin.inM (by (focus repeat (first | with_reducible exact List.mem_cons_self | with_reducible apply List.mem_cons_of_mem | assumption)))) (hrf.inM (by (focus repeat (first | with_reducible exact List.mem_cons_self | with_reducible apply List.mem_cons_of_mem | assumption)))) (Rd.cels (cap := cap1) (by (focus repeat (first | with_reducible exact List.mem_cons_self | with_reducible apply List.mem_cons_of_mem | assumption)))) hw)
      repeat' (first | apply (zs1 ?_) | apply (zs2 ?_) | (apply zg1; refine zs4 ?_) | (apply zg2; refine zs6 ?_) | (apply zg3; refine zs7 ?_) | (apply zg4; refine zs9 ?_) | (apply zg6; refine zs11 ?_) | apply (zs13 ?_) | (apply zg7; (refine zs15 ?_ ?_ <;> intro _ <;> try (exfalso; omega))) | (apply zg14; refine zs31 ?_) | apply (zs65 ?_) | apply (zs68 ?_) | apply (zs69 ?_) | apply (zs70 ?_) | apply (zs74 ?_) | fail)
      apply VQ_st H
      · exact fun w hw => hw.inM (by (focus repeat (first | with_reducible exact List.mem_cons_self | with_reducible apply List.mem_cons_of_mem | assumption)))
      apply VQ_ret1; exact rfl; exact rfl; exact ⟨rfl, rfl⟩
end Go.Proofs.YtmalhidldgfeoaaGreatDoor

/- From a walk to a tied card: what the listed variables hold; a world that meets the condition. -/
namespace Go.Proofs.YtmalhidldgfeoaaGreatDoor
open Go.ChangeShapes Go.WideShapes Go.ChangeAt Go.RowKit Go.Eng

section
variable {H : Type} {enc : TypeId × Value → H}
/-- The wrap of a row that lists variables, the world's shape kept. -/
theorem handed_and_shaped {a : Assume} {C : Checked} {os : Os} {f : FuncId} {fn : Func} {s : ChangeSpec} {conds : List PathCond} {apart fresh handsOn again : Bool} {X : World → Prop} (hX : ∀ w w' : World, w.heap = w'.heap → X w → X w')
    (own : ownKnob C.prog.godebug = none) (started : os.Started) (noInit : C.prog.inits.idxOf? f = none) (hfn : C.prog.funcs[f]? = some fn)
    (witness : ∃ (w : World) (tape : Tape) (i : Input), w.os = os ∧ (w.forCall tape i).Shaped C.prog ∧ i.vars = [] ∧ Input.okWide C.prog (w.forCall tape i) .any w.heap.size f i ∧
      ((s.pre enc C.prog fn conds apart (w.forCall tape i).memory i.args ∧ X (w.forCall tape i).memory) ∧ sizedMet enc C.prog fn (OpenSpec.ofChange s) apart (w.forCall tape i).memory i.args) ∧ a.holds C.prog (lone (Frame.enter C.prog f i.args .normal) [] (w.forCall tape i)))
    (contract : ∀ (W : World) (base : Nat) (args : Array Value) (ds gs : List (DataW H)) (before : List MemPlace),
      (∀ (j : Nat) t v, fn.params[j]? = some t → args[j]? = some v → Value.okWide C.prog W .any base t v) →
      DataW.Whole enc C.prog fn.params.toList s.vars apart W args.toList ds gs before → X W → W.ShapedOpen C.prog →
      Calls C.prog f args W fun e W' => ∃ v, e = .returned v ∧ s.post enc C.prog fn apart fresh handsOn again W args v W') :
    ReturnsInHanded a C os f .any (fun w args => (s.pre enc C.prog fn conds apart w args ∧ X w) ∧ sizedMet enc C.prog fn (OpenSpec.ofChange s) apart w args) (s.post enc C.prog fn apart fresh handsOn again) := by
  refine returnsInHanded_of_calls own started noInit witness ?_
  intro w tape i _ hsh _ hok hpre _
  obtain ⟨_, _, _, fn', hfn', _, _, _, _, hval⟩ := hok
  have e : fn' = fn := Option.some.inj (hfn'.symm.trans hfn)
  subst e
  obtain ⟨⟨⟨ds, gs, before, hw, _⟩, hx⟩, _⟩ := hpre
  have hw' := DataW.Whole.of_heap (w' := w.forCall tape i) (by rfl) hw
  refine (contract (w.forCall tape i) w.heap.size i.args ds gs before hval hw' (hX _ _ (by rfl) hx) hsh).mono fun e W' ⟨v, he, hp⟩ => ?_
  subst he
  exact ChangeSpec.post_blind hp
end

/-- The variables that each row of this layer lists. -/
def laidL : List (String × DataW Unit) := [("math/bits.deBruijn32tab", Rows.laid_math_bits_deBruijn32tab), ("math/bits.deBruijn64tab", Rows.laid_math_bits_deBruijn64tab), ("internal/strconv.uint64pow10", Rows.laid_internal_strconv_uint64pow10), ("unicode/utf8.acceptRanges", Rows.laid_unicode_utf8_acceptRanges), ("strconv.ErrRange", Rows.laid_strconv_ErrRange), ("strconv.ErrSyntax", Rows.laid_strconv_ErrSyntax), ("unicode/utf8.first", Rows.laid_unicode_utf8_first)]
def litV : DataW Unit → Value
  | .lit (.int k z) => .int k z
  | _ => .bool false
def litsV : DataW Unit → List Value
  | .agg l => l.map litV
  | _ => []
/-- The world that the door leaves, utf8's table laid. -/
noncomputable def laidWorld (os : Os) : World :=
  let w0 := World.doorLaid Tryz.prog 72 os
  { w0 with heap := w0.heap.modify ((Tryz.prog.globalNamed "unicode/utf8.first").getD 0) fun
      | .cells _ t frozen => .cells (litsV Go.Pinned.utf8First).toArray t frozen
      | o => o }
theorem laidL_plain (w : World) : laidMetH Tryz.prog laidL w = laidMet Tryz.prog laidL w := MakeChecks.laidMetH_plain _ _ _ (by kernel_rfl)
theorem laidWorld_met (os : Os) (args : Array Value) : laidMetH Tryz.prog laidL ((laidWorld os).forCall (fun _ _ => 0) ⟨#[], args, []⟩).memory := by
  rw [laidL_plain]
  exact laidMet_of_run3 8 (by kernel_rfl) (by kernel_rfl) (by kernel_rfl)
theorem laidWorld_shaped (os : Os) (args : Array Value) : ((laidWorld os).forCall (fun _ _ => 0) ⟨#[], args, []⟩).Shaped Tryz.prog := World.shaped_of_RefB (by kernel_rfl) (by kernel_rfl)

theorem var_below {W w : World} {n : String} {cs : Array Value} (h : W.var? Tryz.prog n = some cs) (hb : Below W.heap.size W w) : w.var? Tryz.prog n = some cs := by
  unfold World.var? at h ⊢
  cases hg : Tryz.prog.globalNamed n with
  | none => rw [hg] at h; cases h
  | some g =>
    rw [hg] at h
    simp only [Option.bind_some] at h ⊢
    rcases Nat.lt_or_ge g W.heap.size with hlt | hge
    · rw [hb.block g hlt]; exact h
    · rw [Array.getElem?_eq_none hge] at h; cases h
theorem err_cell {W : World} {n : String} {s : String} {d : DataW Unit} (hT : (Tryz.prog.globalNamed n).bind (fun g => (Tryz.prog.globals[g]?).map (·.type)) = some 134) (h : Lib.VarReads Tryz.prog W n (.iface s d)) : ∃ tp p, W.var? Tryz.prog n = some #[.iface tp p] := by
  obtain ⟨g, t, cs, fuel, p, h1, h2, h3, h4⟩ := h
  rw [h1] at hT
  obtain rfl : t = 134 := Option.some.inj (h2.symm.trans hT)
  obtain ⟨_, u, v, e, _⟩ := iface_of_trod Tryz.underlying134 h4
  refine ⟨u, v, ?_⟩
  rw [h3, Array.eq_one_of_toList e]
theorem tabs_of {W : World} (hL : laidMetH Tryz.prog laidL W) (hsh : W.ShapedOpen Tryz.prog) : TabsB W.heap.size W := by
  rw [laidL_plain] at hL
  have hpow : Lib.TabIs Tryz.prog W "internal/strconv.uint64pow10" .u64 Lib.pow10Tab := by
    obtain ⟨g, t, cs, fuel, p, h1, h2, h3, h4⟩ := Lib.laidMet.reads hL (n := "internal/strconv.uint64pow10") (d := Rows.laid_internal_strconv_uint64pow10) (by unfold laidL; simp)
    have hT : (Tryz.prog.globalNamed "internal/strconv.uint64pow10").bind (fun g => (Tryz.prog.globals[g]?).map (·.type)) = some 334 := by kernel_rfl
    rw [h1] at hT
    obtain rfl : t = 334 := Option.some.inj (h2.symm.trans hT)
    have h5 : Rows.laid_internal_strconv_uint64pow10 (H := Unit) = Lib.tabData .u64 Lib.pow10Tab := by kernel_rfl
    rw [h5] at h4
    have h6 := Lib.cells_of_tab Tryz.underlying334 Tryz.underlying277 (by kernel_rfl) (by kernel_rfl) h4
    unfold Lib.TabIs
    rw [h3, ← h6]
  obtain ⟨tp1, p1, hsy⟩ := err_cell (n := "strconv.ErrSyntax") (by kernel_rfl) (Lib.laidMet.reads hL (n := "strconv.ErrSyntax") (d := Rows.laid_strconv_ErrSyntax) (by unfold laidL; simp))
  obtain ⟨tp2, p2, hrg⟩ := err_cell (n := "strconv.ErrRange") (by kernel_rfl) (Lib.laidMet.reads hL (n := "strconv.ErrRange") (d := Rows.laid_strconv_ErrRange) (by unfold laidL; simp))
  obtain ⟨m, hm⟩ := Go.Proofs.cell_of_shapedOpen_int (P := Tryz.prog) (g := 0) (k := .i64) (zero := #[.int .i64 0]) (t := 3) hsh (of_decide_eq_true (by kernel_rfl)) (by kernel_rfl) rfl (by kernel_rfl) (by kernel_rfl) Tryz.underlying3
  intro w hb
  refine ⟨var_below hpow hb, ⟨tp1, p1, var_below hsy hb⟩, ⟨tp2, p2, var_below hrg hb⟩, m, ?_⟩
  have hlt : 0 < W.heap.size := by
    rcases Nat.eq_zero_or_pos W.heap.size with h | h
    · simp [World.cell?, Array.getElem?_eq_none (show W.heap.size ≤ 0 by omega)] at hm
    · exact h
  exact (hb.cell (p := ⟨0, 0, none⟩) hlt).trans hm
theorem Tryz.own : ownKnob Tryz.prog.godebug = none := by kernel_rfl
theorem Tryz.laidOut : laidOutB Tryz.prog = true := by kernel_rfl
end Go.Proofs.YtmalhidldgfeoaaGreatDoor

/- The law ScheduleParts returns true at every input, and its arguments read behind the call as they read before: the statement Rows.SchedulePartsCardSaid. Condition: the listed package-level variables start as the program's text lays them, to which the card ties them. -/
namespace Go.Proofs.YtmalhidldgfeoaaGreatDoor
open Go.ChangeShapes Go.WideShapes Go.ChangeAt Go.RowKit Go.Eng
open Go.ChangeMaps (open_string)

set_option maxRecDepth 100000 in
theorem sparts_lifted (os : Os) (started : os.Started) (H : Type) (enc : TypeId × Value → H) :
    ReturnsInHanded {} Tryz.checked os 3 .any (fun w args => (Rows.schedulePartsSpec.pre enc Tryz.prog Tryz.f3 [] false w args ∧ laidMetH Tryz.prog laidL w) ∧ sizedMet enc Tryz.prog Tryz.f3 (OpenSpec.ofChange Rows.schedulePartsSpec) false w args)
      (Rows.schedulePartsSpec.post enc Tryz.prog Tryz.f3 false true false false) := by
  refine handed_and_shaped (C := Tryz.checked) (X := fun w => laidMetH Tryz.prog laidL w) (fun _ _ hh h => h.of_heap hh) Tryz.own started (by kernel_rfl) Tryz.func3
    (ChangeSpec.witness_shaped (enc := enc) (C := Tryz.checked) (os := os) (X := fun w _ => laidMetH Tryz.prog laidL w) false (laidWorld os) #[.agg #[.int .i64 0, .slice none 0 0, .int .i64 0, .int .i64 0, .slice none 0 0, .slice none 0 0], .slice none 0 0, .agg #[.int .i64 0, .int .i64 0, .slice none 0 0], .int .u8 0] 8 rfl (laidWorld_shaped os _) (by kernel_rfl) (by kernel_rfl) (by kernel_rfl) (laidWorld_met os _)) ?_
  intro W base args ds gs before hval0 hW hL hsh
  have hval : ∀ (j : Nat) t v, Tryz.f3.params[j]? = some t → args[j]? = some v → Value.okWide Tryz.prog W .any base t v := hval0
  have hW' : DataW.Whole enc Tryz.prog Tryz.f3.params.toList Rows.schedulePartsSpec.vars false W args.toList ds gs before := hW
  obtain ⟨p, q, hA0, hV, rfl, hfz, hnd⟩ := hW
  have hA : DataW.TrodAll enc Tryz.prog W 0 (fun _ => true) true Tryz.f3.params.toList args.toList ds p := hA0
  obtain ⟨rfl, rfl⟩ := trodVars_none hV
  rw [Tryz.params3] at hA hval
  obtain ⟨v0, v1, v2, v3, d0, d1, d2, d3, p0, p1, p2, p3, rfl, rfl, rfl, h0, h1, h2, h3⟩ := trodAll_four hA
  obtain ⟨n, rfl, hn⟩ := open_net (hval 0 _ v0 rfl rfl) h0
  obtain ⟨l, rfl, hl⟩ := open_flows (hval 1 _ v1 rfl rfl) h1
  obtain ⟨s, rfl, hs⟩ := open_sch (hval 2 _ v2 rfl rfl) h2
  obtain ⟨which, rfl, -, -, hwwhich⟩ := open_int Tryz.underlying5 (hval 3 _ v3 rfl rfl) h3
  have hwhich := wf_u8 hwwhich
  have ht := tabs_of hL hsh
  refine (law_parts n l s which hwhich ht (Nat.le_trans hl.len maxL) hn.In hl.old.rd hs.old.rd (St.start W)).mono ?_
  rintro e' W' ⟨v, K, rfl, hst, rfl, -⟩
  exact ⟨_, rfl, post_true Tryz.laidOut (by kernel_rfl) rfl rfl Tryz.underlying4 hW' hst.below rfl rfl rfl⟩
/-! The closed facts, one at a time: each by itself keeps the kernel's memory small. -/
theorem sparts_k1 : (Rows.schedulePartsRow.inPlace == Tryz.pinned.checked.prog.inPlace 3) = true := by kernel_rfl
theorem sparts_k2 : (Rows.schedulePartsRow.unfollowed == Tryz.pinned.checked.prog.unfollowed 3) = true := by kernel_rfl
theorem sparts_k3 : (Rows.schedulePartsRow.recurses == Tryz.pinned.checked.prog.recurses 3) = true := by kernel_rfl
theorem sparts_k4 : (Rows.schedulePartsRow.named == Tryz.pinned.checked.prog.varsNamed 3) = true := by kernel_rfl
theorem sparts_k5 : Tryz.pinned.checked.prog.funcNamed Rows.schedulePartsRow.func = some 3 := by kernel_rfl
theorem sparts_k6 : mapsRowed Tryz.pinned.checked.prog = true := by kernel_rfl
theorem sparts_k7 : Tryz.pinned.checked.prog.stopsHeard = true := by kernel_rfl
theorem sparts_k8 : Tryz.pinned.checked.prog.mayEnter = true := by kernel_rfl
theorem sparts_k9 : (Rows.schedulePartsRow.lifted == Tryz.pinned.checked.prog.liftsFinal) = true := by kernel_rfl
theorem sparts_k0 : (Tryz.pinned.checked.prog.make == some Rows.schedulePartsRow.make) = true := by kernel_rfl
theorem sparts_facts : joinedFacts Tryz.pinned.checked.prog 3 Tryz.f3 Rows.schedulePartsSpec Rows.schedulePartsRow = true := by
  unfold joinedFacts
  rw [sparts_k1, sparts_k2, sparts_k3, sparts_k4, show laidOutB Tryz.pinned.checked.prog = true from Tryz.laidOut, sparts_k6, sparts_k7, sparts_k8, sparts_k9, sparts_k0]
  kernel_rfl
theorem sparts_row : Rows.SchedulePartsSaid :=
  OpenClaim.holds_of_wide 3 Tryz.f3 rfl rfl rfl rfl rfl rfl rfl ⟨rfl, rfl, rfl, rfl, rfl⟩ rfl rfl rfl rfl rfl sparts_k5 Tryz.func3 sparts_facts
    (of_decide_eq_true (by kernel_rfl)) (by unfold Func.isWrapper; first | (rw [if_pos (by decide +kernel)]; kernel_rfl) | (rw [if_neg (by decide +kernel)]; exact ⟨rfl, rfl⟩))
    (fun os started H enc _ => sparts_lifted os started H enc)
theorem sparts_holds : Rows.SchedulePartsCardSaid :=
  Claim7.holds_tied_plain_at .later [] [.data, .data, .data, .data, .sentinel, .sentinel, .pinned] true _ true
    sparts_row (fun _ h => by cases h) (by kernel_rfl) (fun _ h => by cases h) scheduleParts_row_tie rfl ⟨rfl, rfl⟩ (by kernel_rfl) rfl
    (fun f fn hf hfn => by
      obtain rfl : f = 3 := Option.some.inj ((show Tryz.prog.funcNamed Tryz.f3.name = some 3 from sparts_k5).symm.trans hf) |>.symm
      obtain rfl : fn = Tryz.f3 := (Option.some.inj (Tryz.func3.symm.trans hfn)).symm
      exact ⟨by kernel_rfl, fun j t htj => by
        have hm := Array.mem_of_getElem? htj
        have hall : (Tryz.f3.params.toList.all fun u => !Tryz.prog.wantsStandIn u) = true := by kernel_rfl
        exact (show Tryz.prog.wantsStandIn t = false by simpa using List.all_eq_true.1 hall t (by simpa using hm))⟩)
    (by kernel_rfl)
end Go.Proofs.YtmalhidldgfeoaaGreatDoor
