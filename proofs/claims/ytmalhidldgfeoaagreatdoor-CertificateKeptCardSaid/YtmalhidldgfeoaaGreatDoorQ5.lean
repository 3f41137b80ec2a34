/- Lemmas for the claim, part 5. -/
import Derived.Shelf.SlSortCmp.NoneTotal
import Derived.Shelf.SlGeneric
import Derived.Shelf.SlSortCmp.WholeK
import Derived.Ground.SlsfProg
import Derived.Test.YtmalhidldgfeoaaGreatDoorProg
import Derived.LoopN
import Derived.StillTailTactics
import Derived.Test.YtmalhidldgfeoaaGreatDoorQ4

namespace Go.Proofs.YtmalhidldgfeoaaGreatDoor
open Go.RowKit Go.Eng Go.Nw
theorem Yfj {n : Net} {l : List Flw} {s : Sch} (h1 : (Ji n l s).2 = 0) : ∀ c ∈ s.cells, Xa n (Yz c) (toC c) = true := by
  have k1 := Y3.1 h1
  intro c hc
  obtain ⟨i, hi⟩ := List.mem_iff_getElem?.1 hc
  have hl := (List.getElem?_eq_some_iff.1 hi).1
  have := k1 i (Nat.zero_le _) (by omega)
  unfold VH at this
  rw [ZB hi] at this
  cases hg : Xa n (Yz c) (toC c) with
  | true => rfl
  | false =>
    rw [hg] at this
    split at this
    · omega
    · rw [if_pos (.inl rfl)] at this; omega
theorem Yhe {nodes : Int} {l : List Flw} (h : (YR nodes l).2 = 0) : l.length ≤ 16 := by
  unfold YR at h
  split at h
  · cases h
  split at h
  · cases h
  · omega
set_option maxRecDepth 10000 in
set_option maxHeartbeats 4000000 in
theorem Ybj (n : NetM) (l : List Flw) (s : SchM) (hlf : l.length ≤ 9223372036854775807) (hl : s.cells.length ≤ 1000000000000) {A : Option Addr} {cap B : Nat} {w0 : World} {H : List HP} {w : World} (hin : n.In B w0 H) (hrf : Rd B w0 H A (l.flatMap flwF)) (hr : Rd B w0 H s.A (s.cells.flatMap celF)) (hw : St B w0 H w) :
    Calls Tryz.prog 13 [n.val, .slice A l.length cap, s.val].toArray w (Post B w0 fun v K => v = .tuple #[.int .i64 (schE n.net l s.sch).1, .int .i64 (schE n.net l s.sch).2] ∧ K = H) := by
  refine Yf Tryz.func13 Tryz.ntmps13 rfl rfl hw ?_
  have e4 : s.sch.cells.length = s.cells.length := rfl
  have e5 : s.sch.len = s.len := rfl
  have hchk := fun {H' : List HP} {w : World} (hin : n.In B w0 H') (hw : St B w0 H' w) => YT n hin hw
  have hsz := fun {H' : List HP} {w : World} (hw : St B w0 H' w) => YaO s hw
  by_cases h1 : YF n.net = 0
  rotate_left
  · have hS : schE n.net l s.sch = (-1, 1) := by
      have hw1 : Zq n.net l s.sch = 1 := by unfold Zq; rw [if_pos h1]
      unfold schE; rw [hw1]; rfl
    rw [hS]
    repeat' (first | ((first | apply Ya en50 | apply Yb en50); exact za; exact rfl; exact fun _ hw => (hchk hin.cons.cons hw)) | refine zgc ?_ | (refine zge ?_ ?_ <;> intro _ <;> try (exfalso; omega)) | (refine zgh ?_; intro _) | fail)
    apply Yk H
    · exact zk
    apply Yt; exact rfl; exact rfl; exact rfl; exact ⟨rfl, rfl⟩
  rw [h1] at hchk
  by_cases h2 : (YR n.nodes l).2 = 0
  rotate_left
  · have hS : schE n.net l s.sch = (-1, 1) := by
      have hw1 : Zq n.net l s.sch = 1 := by unfold Zq; rw [if_neg (by omega)]; exact if_pos h2
      unfold schE; rw [hw1]; rfl
    rw [hS]
    repeat' (first | ((first | apply Ya en50 | apply Yb en50); exact za; exact rfl; exact fun _ hw => (hchk hin.cons.cons hw)) | ((first | apply Ya en51 | apply Yb en51); exact za; exact rfl; exact fun _ hw => (YU n.nodes l hlf hrf.cons.cons hw)) | refine zgc ?_ | (refine zge ?_ ?_ <;> intro _ <;> try (exfalso; omega)) | (refine zgh ?_; intro _) | fail)
    apply Yk H
    · exact zk
    apply Yt; exact rfl; exact rfl; exact rfl; exact ⟨rfl, rfl⟩
  have hl16 := Yhe h2
  have hper := YbP h2
  cases h3 : ZZ s.sch with
  | false =>
    rw [h3] at hsz
    have hS : schE n.net l s.sch = (-1, 2) := by
      have hw1 : Zq n.net l s.sch = 2 := by unfold Zq; rw [if_neg (by omega), if_neg (fun h => h h2), if_pos h3]
      unfold schE; rw [hw1]; rfl
    rw [hS]
    repeat' (first | ((first | apply Ya en50 | apply Yb en50); exact za; exact rfl; exact fun _ hw => (hchk hin.cons.cons hw)) | ((first | apply Ya en51 | apply Yb en51); exact za; exact rfl; exact fun _ hw => (YU n.nodes l hlf hrf.cons.cons hw)) | ((first | apply Ya en52 | apply Yb en52); exact za; exact rfl; exact fun _ hw => (hsz hw)) | refine zgd ?_ | (refine zge ?_ ?_ <;> intro _ <;> try (exfalso; omega)) | (refine zgh ?_; intro _) | fail)
    apply Yk H
    · exact zk
    apply Yt; exact rfl; exact rfl; exact rfl; exact ⟨rfl, rfl⟩
  | true =>
  rw [h3] at hsz
  have hsl : 1 ≤ s.len ∧ s.len ≤ 512 := by
    have := of_decide_eq_true h3
    exact ⟨this.1, this.2.1⟩
  obtain ⟨b, hb⟩ : ∃ b, (l.any fun f => decide (s.len.tmod f.2.2.2.1 ≠ 0)) = b := ⟨_, rfl⟩
  have hw0 : Zq n.net l s.sch = if b = true then 11 else if 512 < s.cells.length then 8 else 0 := by
    unfold Zq
    rw [if_neg (by omega), if_neg (fun h => h h2), h3, if_neg (by decide), e5, hb]
    rfl
  have hcf := fun {H' : List HP} {w : World} (gs : Nat) (hm : blk gs (.cells #[.int .i64 s.len, .int .i64 s.off, .slice s.A s.cells.length s.cap] 30 (0, 0)) ∈ H') (hr : Rd B w0 H' A (l.flatMap flwF)) (hw : St B w0 H' w) => QP (fun f => decide (s.len.tmod f.2.2.2.1 ≠ 0)) l 54 [.pointer (some ⟨gs, 0, none⟩)] en54 (by omega) (cap := cap) hr (fun f hf w hw => Yc1 s f gs hsl ⟨(hper f hf).2.2.1, (hper f hf).2.2.2⟩ hm hw) hw
  rw [hb] at hcf
  cases b with
  | true =>
    rw [if_pos rfl] at hw0
    have hS : schE n.net l s.sch = (-1, 11) := by unfold schE; rw [hw0]; rfl
    rw [hS]
    repeat' (first | ((first | apply Ya en50 | apply Yb en50); exact za; exact rfl; exact fun _ hw => (hchk hin.cons.cons hw)) | ((first | apply Ya en51 | apply Yb en51); exact za; exact rfl; exact fun _ hw => (YU n.nodes l hlf hrf.cons.cons hw)) | ((first | apply Ya en52 | apply Yb en52); exact za; exact rfl; exact fun _ hw => (hsz hw)) | ((first | apply Ya en53 | apply Yb en53); exact za; exact rfl; exact fun _ hw => (hcf _ zm hrf.cons.cons hw)) | (apply zg29; (apply Yj; exact za ; exact rfl)) | refine zgc ?_ | (refine zge ?_ ?_ <;> intro _ <;> try (exfalso; omega)) | (refine zgh ?_; intro _) | fail)
    apply Yk H
    · exact zk
    apply Yt; exact rfl; exact rfl; exact rfl; exact ⟨rfl, rfl⟩
  | false =>
  rw [if_neg (by decide)] at hw0
  by_cases h5 : 512 < s.cells.length
  · rw [if_pos h5] at hw0
    have hS : schE n.net l s.sch = (-1, 8) := by unfold schE; rw [hw0]; rfl
    rw [hS]
    repeat' (first | ((first | apply Ya en50 | apply Yb en50); exact za; exact rfl; exact fun _ hw => (hchk hin.cons.cons hw)) | ((first | apply Ya en51 | apply Yb en51); exact za; exact rfl; exact fun _ hw => (YU n.nodes l hlf hrf.cons.cons hw)) | ((first | apply Ya en52 | apply Yb en52); exact za; exact rfl; exact fun _ hw => (hsz hw)) | ((first | apply Ya en53 | apply Yb en53); exact za; exact rfl; exact fun _ hw => (hcf _ zm hrf.cons.cons hw)) | (apply zg29; (apply Yj; exact za ; exact rfl)) | refine zgc ?_ | (refine zge ?_ ?_ <;> intro _ <;> try (exfalso; omega)) | (refine zgh ?_; intro _) | fail)
    apply Yk H
    · exact zk
    apply Yt; exact rfl; exact rfl; exact rfl; exact ⟨rfl, rfl⟩
  rw [if_neg h5] at hw0
  have hS : schE n.net l s.sch = if (Ji n.net l s.sch).2 ≠ 0 then Ji n.net l s.sch else if (VD s.sch).2 ≠ 0 then VD s.sch else YbB n.net s.sch := by
    unfold schE; rw [hw0]; rfl
  rw [hS]
  have hcc := fun {H' : List HP} {w : World} (hin : n.In B w0 H') (hrf : Rd B w0 H' A (l.flatMap flwF)) (hr : Rd B w0 H' s.A (s.cells.flatMap celF)) (hw : St B w0 H' w) => O3 n l s h1 (by omega) hl (cap := cap) hin hrf hr hw
  obtain ⟨⟨c1, c2⟩, hcv⟩ : ∃ R, Ji n.net l s.sch = R := ⟨_, rfl⟩
  rw [hcv] at hcc ⊢
  dsimp only at hcc ⊢
  by_cases h6 : c2 ≠ 0
  · rw [if_pos h6]
    repeat' (first | ((first | apply Ya en50 | apply Yb en50); exact za; exact rfl; exact fun _ hw => (hchk hin.cons.cons hw)) | ((first | apply Ya en51 | apply Yb en51); exact za; exact rfl; exact fun _ hw => (YU n.nodes l hlf hrf.cons.cons hw)) | ((first | apply Ya en52 | apply Yb en52); exact za; exact rfl; exact fun _ hw => (hsz hw)) | ((first | apply Ya en53 | apply Yb en53); exact za; exact rfl; exact fun _ hw => (hcf _ zm hrf.cons.cons hw)) | ((first | apply Ya en55 | apply Yb en55); exact za; exact rfl; exact fun _ hw => (hcc hin.cons.cons hrf.cons.cons hr.cons.cons hw)) | (apply zg29; (apply Yj; exact za ; exact rfl)) | refine zgc ?_ | (refine zge ?_ ?_ <;> intro _ <;> try (exfalso; omega)) | (refine zgh ?_; intro _) | fail)
    apply Yk H
    · exact zk
    apply Yt; exact rfl; exact rfl; exact rfl; exact ⟨rfl, rfl⟩
  obtain rfl : c2 = 0 := Decidable.not_not.1 h6
  rw [if_neg h6]
  have hgood := Yfj (n := n.net) (l := l) (s := s.sch) (by rw [hcv])
  repeat' (first | ((first | apply Ya en50 | apply Yb en50); exact za; exact rfl; exact fun _ hw => (hchk hin.cons.cons hw)) | ((first | apply Ya en51 | apply Yb en51); exact za; exact rfl; exact fun _ hw => (YU n.nodes l hlf hrf.cons.cons hw)) | ((first | apply Ya en52 | apply Yb en52); exact za; exact rfl; exact fun _ hw => (hsz hw)) | ((first | apply Ya en53 | apply Yb en53); exact za; exact rfl; exact fun _ hw => (hcf _ zm hrf.cons.cons hw)) | ((first | apply Ya en55 | apply Yb en55); exact za; exact rfl; exact fun _ hw => (hcc hin.cons.cons hrf.cons.cons hr.cons.cons hw)) | (apply zg29; (apply Yj; exact za ; exact rfl)) | refine zgc ?_ | (refine zge ?_ ?_ <;> intro _ <;> try (exfalso; omega)) | (refine zgh ?_; intro _) | fail)
  first | (rename_i gn gs; guard_hyp gn : Nat; guard_hyp gs : Nat) | (rename_i gn gs _; guard_hyp gn : Nat; guard_hyp gs : Nat) | (rename_i gn gs _ _; guard_hyp gn : Nat; guard_hyp gs : Nat) | (rename_i gn gs _ _ _; guard_hyp gn : Nat; guard_hyp gs : Nat) | (rename_i gn gs _ _ _ _; guard_hyp gn : Nat; guard_hyp gs : Nat) | (rename_i gn gs _ _ _ _ _; guard_hyp gn : Nat; guard_hyp gs : Nat) | (rename_i gn gs _ _ _ _ _ _; guard_hyp gn : Nat; guard_hyp gs : Nat)
  refine Yn (fun (k : Nat) => [(53, .int .i64 k), (52, .int .i64 s.cells.length), (51, .slice s.A s.cells.length s.cap), (3, .pointer (some ⟨gn, 0, none⟩)), (5, .pointer (some ⟨gs, 0, none⟩))]) (fun _ => blk gs (.cells #[.int .i64 s.len, .int .i64 s.off, .slice s.A s.cells.length s.cap] 30 (0, 0)) :: netN gn n :: H) (fun k => k ≤ s.cells.length ∧ ∀ j, j < k → Ju s.sch j = false) (fun k => s.cells.length - k) 0 ⟨Nat.zero_le _, fun j hj => absurd hj (Nat.not_lt_zero _)⟩ ?_ (fun w hw => hw) ?_
  · exact zu
  rintro k ⟨hk, hall⟩ K hK
  have hF : VD s.sch = YG (fun i => if Ju s.sch i = true then 6 else 0) s.cells.length 0 := rfl
  unfold netN
  by_cases hlt : k < s.cells.length
  · have htc := fun {H' : List HP} {w : World} (hr : Rd B w0 H' s.A (s.cells.flatMap celF)) (hw : St B w0 H' w) => Yf1 s k hlt (by omega) hr hw
    cases htw : Ju s.sch k with
    | true =>
      rw [htw] at htc
      have hT : VD s.sch = ((k : Int), 6) := by
        rw [hF, Xu (i := k) (fun j _ hj => by simp only [hall j hj]; rfl) (Nat.zero_le _) (by omega) (by simp only [htw]; decide)]
        simp [htw]
      rw [hT, if_pos (show (6 : Int) ≠ 0 by decide)]
      repeat' (first | ((first | apply Ya en56 | apply Yb en56); exact za; exact rfl; exact fun _ hw => (htc hr.cons.cons hw)) | refine zgc ?_ | (refine zge ?_ ?_ <;> intro _ <;> try (exfalso; omega)) | fail)
      apply Yk H
      · exact zk
      apply Yt; exact rfl; exact rfl; exact rfl; exact ⟨rfl, rfl⟩
    | false =>
      rw [htw] at htc
      repeat' (first | ((first | apply Ya en56 | apply Yb en56); exact za; exact rfl; exact fun _ hw => (htc hr.cons.cons hw)) | refine zgd ?_ | (refine zge ?_ ?_ <;> intro _ <;> try (exfalso; omega)) | fail)
      apply hK (k + 1)
      · refine ⟨by omega, fun j hj => ?_⟩
        by_cases e : j = k
        · rw [e]; exact htw
        · exact hall j (by omega)
      · omega
      · exact zu
      · unfold netN
        exact zk
  have hT : (VD s.sch).2 = 0 := by
    rw [hF, Y3]
    intro j _ hj
    simp only [hall j (by omega)]
    rfl
  rw [if_neg (fun h => h hT)]
  clear hK
  repeat' (first | refine zgc ?_ | (refine zge ?_ ?_ <;> intro _ <;> try (exfalso; omega)) | fail)
  refine Yn (fun (k : Nat) => [(64, .int .i64 k), (63, .int .i64 s.cells.length), (62, .slice s.A s.cells.length s.cap), (3, .pointer (some ⟨gn, 0, none⟩)), (5, .pointer (some ⟨gs, 0, none⟩))]) (fun _ => blk gs (.cells #[.int .i64 s.len, .int .i64 s.off, .slice s.A s.cells.length s.cap] 30 (0, 0)) :: netN gn n :: H) (fun k => k ≤ s.cells.length ∧ ∀ j, j < k → Jl n.net s.sch j = false) (fun k => s.cells.length - k) 0 ⟨Nat.zero_le _, fun j hj => absurd hj (Nat.not_lt_zero _)⟩ ?_ (fun w hw => hw) ?_
  · exact zu
  rintro k ⟨hk, hall⟩ K2 hK
  have hF : YbB n.net s.sch = YG (fun i => if Jl n.net s.sch i = true then 16 else 0) s.cells.length 0 := rfl
  unfold netN
  by_cases hlt : k < s.cells.length
  · have htc := fun {H' : List HP} {w : World} (hin : n.In B w0 H') (hr : Rd B w0 H' s.A (s.cells.flatMap celF)) (hw : St B w0 H' w) => QW n s k h1 hgood hlt (by omega) hin hr hw
    cases htw : Jl n.net s.sch k with
    | true =>
      rw [htw] at htc
      have hT : YbB n.net s.sch = ((k : Int), 16) := by
        rw [hF, Xu (i := k) (fun j _ hj => by simp only [hall j hj]; rfl) (Nat.zero_le _) (by omega) (by simp only [htw]; decide)]
        simp [htw]
      rw [hT]
      repeat' (first | ((first | apply Ya en57 | apply Yb en57); exact za; exact rfl; exact fun _ hw => (htc hin.cons.cons hr.cons.cons hw)) | refine zgc ?_ | (refine zge ?_ ?_ <;> intro _ <;> try (exfalso; omega)) | fail)
      apply Yk H
      · exact zk
      apply Yt; exact rfl; exact rfl; exact rfl; exact ⟨rfl, rfl⟩
    | false =>
      rw [htw] at htc
      repeat' (first | ((first | apply Ya en57 | apply Yb en57); exact za; exact rfl; exact fun _ hw => (htc hin.cons.cons hr.cons.cons hw)) | refine zgd ?_ | (refine zge ?_ ?_ <;> intro _ <;> try (exfalso; omega)) | fail)
      apply hK (k + 1)
      · refine ⟨by omega, fun j hj => ?_⟩
        by_cases e : j = k
        · rw [e]; exact htw
        · exact hall j (by omega)
      · omega
      · exact zu
      · unfold netN
        exact zk
  · have hT : YbB n.net s.sch = (-1, 0) := by
      rw [hF]
      exact X7 fun j _ hj => by simp only [hall j (by omega)]; rfl
    rw [hT]
    repeat' (first | refine zgc ?_ | (refine zge ?_ ?_ <;> intro _ <;> try (exfalso; omega)) | fail)
    apply Yk H
    · exact zk
    apply Yt; exact rfl; exact rfl; exact rfl; exact ⟨rfl, rfl⟩
open Go.RowKit Go.Eng Go.Nw Go.Rt
theorem ZF {α : Type} (f : α → HP) (l : List α) (r : α) (H : List HP) : Perm (f r :: many (l.map f) :: H) (many ((l ++ [r]).map f) :: H) := by
  have := Perm.push (f r) (l.map f) [] H
  rw [List.append_nil] at this
  rw [List.map_append]
  exact this
abbrev clsP (A : Option Addr) (cap : Nat) (C : List ClM) : HP := sl 61 5 A C.length cap (C.flatMap clF)
theorem Yd0 (A : Option Addr) (cap : Nat) (l : List ClM) (c : ClM) : sl 61 5 A (l.length + 1) cap (l.flatMap clF ++ #[Value.int .i64 c.flow, .slice c.rA c.rs.length c.rcap, .slice c.bA c.bs.length c.bcap, .slice c.wA c.ws.length c.wcap, .slice c.sA c.ss.length c.scap].toList) = clsP A cap (l ++ [c]) := by simp [clsP, List.flatMap_append, clF]
def OutC (H : List HP) (R : List Clm × (Int × Int)) (v : Value) (K : List HP) : Prop := ∃ A cap C, v = .tuple #[.slice A (C : List ClM).length cap, .int .i64 R.2.1, .int .i64 R.2.2] ∧ C.map ClM.clm = R.1 ∧ (∀ c ∈ C, c.lens) ∧ K = clsP A cap C :: many (C.map clQ) :: H
theorem Vq {B : Nat} {w0 w : World} {H : List HP} (h : St B w0 H w) : St B w0 (clsP none 0 [] :: many (([] : List ClM).map clQ) :: H) w := (h.perm (.noMany H)).nilSlice _ _
theorem Vu {H : List HP} {R : List Clm × (Int × Int)} {v : Value} (h1 : R.1 = []) (hv : v = .tuple #[.slice none 0 0, .int .i64 R.2.1, .int .i64 R.2.2]) : OutC H R v (clsP none 0 [] :: many (([] : List ClM).map clQ) :: H) := ⟨none, 0, [], hv, h1.symm, (fun c hc => by cases hc), rfl⟩
structure MkM where
  i : Nat
  A : Option Addr
  cap : Nat
  C : List ClM
set_option maxRecDepth 10000 in
set_option maxHeartbeats 8000000 in
theorem W5 (n : NetM) (q : List RqM) (s : SchM) {A : Option Addr} {cap B : Nat} {w0 : World} {H : List HP} {w : World} (ht : TabsB B w0) (hin : n.In B w0 H) (hq : QIn B w0 H A q) (hrs : Rd B w0 H s.A (s.cells.flatMap celF)) (hsl : s.cells.length ≤ 1000000000000) (hw : St B w0 H w) :
    Calls Tryz.prog 19 [n.val, .slice A q.length cap, s.val].toArray w (Post B w0 (OutC H (Zt n.net (q.map RqM.rq) s.sch))) := by
  refine Yf Tryz.func19 Tryz.ntmps19 rfl rfl hw ?_
  have hql := hq.ln
  have hqr := hq.rd
  have p1 := fun {H' : List HP} {w : World} (hin : n.In B w0 H') (hq : QIn B w0 H' A q) (hw : St B w0 H' w) => Ybh n q (cap := cap) hin hq hw
  have p2 := fun {H' : List HP} {w : World} (hq : QIn B w0 H' A q) (hw : St B w0 H' w) => Ov q (cap := cap) hql hq.rd hw
  have p3 := fun {A2 : Option Addr} {cap2 : Nat} {H' : List HP} {w : World} (hin : n.In B w0 H') (hf : Rd B w0 H' A2 ((RqM.fl q).flatMap flwF)) (hrs : Rd B w0 H' s.A (s.cells.flatMap celF)) (hw : St B w0 H' w) => Ybj n (RqM.fl q) s (by unfold RqM.fl; rw [List.length_map]; omega) hsl (cap := cap2) hin hf hrs hw
  have p4 := fun {H' : List HP} {w : World} (x : RqM) (h9 : x.rows.length ≤ 9) (hin : n.In B w0 H') (hrs : Rd B w0 H' s.A (s.cells.flatMap celF)) (hx : x.In B w0 H') (hw : St B w0 H' w) => Yfm n s x ht hin hrs hsl hx h9 hw
  obtain ⟨R, hR⟩ : ∃ R, Zt n.net (q.map RqM.rq) s.sch = R := ⟨_, rfl⟩
  rw [hR]
  unfold Zt at hR
  rw [List.length_map] at hR
  have hrq : (rqsE n.net (q.map RqM.rq)).2 = 0 → ∀ x ∈ q, x.rows.length ≤ 9 := fun h x hx => by
    unfold rqsE at h
    split at h
    · cases h
    split at h
    · exact absurd h (by assumption)
    obtain ⟨k, hk⟩ := List.mem_iff_getElem?.1 hx
    have h1 := Y3.1 h k (Nat.zero_le _) (by rw [List.length_map]; have := (List.getElem?_eq_some_iff.1 hk).1; omega)
    rw [YaD hk] at h1
    have h2 := YgK h1
    have h3 : x.rq.2.length = x.rows.length := by unfold RqM.rq; rw [List.length_map]
    omega
  obtain ⟨⟨ri, re⟩, hr⟩ : ∃ r, rqsE n.net (q.map RqM.rq) = r := ⟨_, rfl⟩
  obtain ⟨⟨ci, ce⟩, hc⟩ : ∃ r, schE n.net (V9 (q.map RqM.rq)) s.sch = r := ⟨_, rfl⟩
  obtain ⟨F, hF⟩ : ∃ F : Nat → Int, (fun i => if ZO n.net s.sch (rqAt (q.map RqM.rq) i) = true then 15 else 0) = F := ⟨_, rfl⟩
  rw [hr] at p1 hR hrq
  rw [YiQ] at p3
  rw [hc] at p3 hR
  rw [hF] at hR
  have hFv : ∀ {k : Nat} {x : RqM}, q[k]? = some x → F k = if ZO n.net s.sch x.rq = true then 15 else 0 := fun h => by rw [← hF]; show (if ZO _ _ _ = true then _ else _) = _; rw [YaD h]
  rw [← YiQ] at p3
  dsimp only at p1 p3 hR hrq
  unfold NetM.val SchM.val
  by_cases h0 : re = 0
  rotate_left
  · rw [if_pos h0] at hR
    subst hR
    repeat' (first | ((first | apply Ya en67 | apply Yb en67); exact za; exact rfl; exact fun _ hw => (p1 (hin.mono zk) (hq.mono zk) hw)) | refine zgc ?_ | (refine zge ?_ ?_ <;> intro _ <;> try (exfalso; omega)) | (refine zgh ?_; intro _) | fail)
    apply Yk (clsP none 0 [] :: many (([] : List ClM).map clQ) :: H)
    · intro w hw
      have h5 : St B w0 H w := by
        revert w
        exact zk
      exact Vq h5
    apply XV; exact rfl; exact rfl; exact rfl; exact rfl
    exact Vu rfl rfl
  subst h0
  rw [if_neg (fun e => e rfl)] at hR
  have hrq := hrq rfl
  by_cases h1 : ce = 0
  rotate_left
  · rw [if_pos h1] at hR
    subst hR
    repeat' (first | ((first | apply Ya en67 | apply Yb en67); exact za; exact rfl; exact fun _ hw => (p1 (hin.mono zk) (hq.mono zk) hw)) | refine zgc ?_ | (refine zge ?_ ?_ <;> intro _ <;> try (exfalso; omega)) | (refine zgh ?_; intro _) | fail)
    apply Y0 [0, 1, 3, 2, 4, 5, 6, 7, 8, 9] [] [true, true]
    kernel_rfl
    kernel_rfl
    exact zy
    (simp only [Yl, nthO]; rfl)
    exact rfl
    repeat' (first | refine zgd ?_ | fail)
    apply Yr _ en68
    exact za
    exact rfl
    exact fun _ hw => (p2 (hq.mono zk) (hw))
    rintro _ _ ⟨A2, cap2, rfl, rfl⟩
    repeat' (first | (apply Yi; (repeat (first | with_reducible exact Yh | (with_reducible apply Yd; (repeat (first | with_reducible exact Ye | with_reducible apply Yc)))))) | refine zgd ?_ | fail)
    first | apply Ya en13 | apply Yb en13
    exact za
    exact rfl
    exact fun _ hw => (p3 (hin.mono zk) (Rd.sl zm) (hrs.mono zk) hw)
    repeat' (first | (apply Yi; (repeat (first | with_reducible exact Yh | (with_reducible apply Yd; (repeat (first | with_reducible exact Ye | with_reducible apply Yc)))))) | refine zgd ?_ | (refine zge ?_ ?_ <;> intro _ <;> try (exfalso; omega)) | fail)
    apply Yk (clsP none 0 [] :: many (([] : List ClM).map clQ) :: H)
    · intro w hw
      have h5 : St B w0 H w := by
        revert w
        exact zk
      exact Vq h5
    apply XV; exact rfl; exact rfl; exact rfl; exact rfl
    exact Vu rfl rfl
  subst h1
  rw [if_neg (fun e => e rfl)] at hR
  repeat' (first | ((first | apply Ya en67 | apply Yb en67); exact za; exact rfl; exact fun _ hw => (p1 (hin.mono zk) (hq.mono zk) hw)) | refine zgc ?_ | (refine zge ?_ ?_ <;> intro _ <;> try (exfalso; omega)) | (refine zgh ?_; intro _) | fail)
  first | (rename_i g3 g5; guard_hyp g3 : Nat; guard_hyp g5 : Nat) | (rename_i g3 g5 _; guard_hyp g3 : Nat; guard_hyp g5 : Nat) | (rename_i g3 g5 _ _; guard_hyp g3 : Nat; guard_hyp g5 : Nat)
  apply Y0 [0, 1, 3, 2, 4, 5, 6, 7, 8, 9] [] [true, true]
  kernel_rfl
  kernel_rfl
  exact zy
  (simp only [Yl, nthO]; rfl)
  exact rfl
  repeat' (first | refine zgd ?_ | fail)
  apply Yr _ en68
  exact za
  exact rfl
  exact fun _ hw => (p2 (hq.mono zk) (hw))
  rintro _ _ ⟨A2, cap2, rfl, rfl⟩
  repeat' (first | (apply Yi; (repeat (first | with_reducible exact Yh | (with_reducible apply Yd; (repeat (first | with_reducible exact Ye | with_reducible apply Yc)))))) | refine zgd ?_ | fail)
  first | apply Ya en13 | apply Yb en13
  exact za
  exact rfl
  exact fun _ hw => (p3 (hin.mono zk) (Rd.sl zm) (hrs.mono zk) hw)
  repeat' (first | (apply Yi; (repeat (first | with_reducible exact Yh | (with_reducible apply Yd; (repeat (first | with_reducible exact Ye | with_reducible apply Yc)))))) | refine zgd ?_ | (refine zge ?_ ?_ <;> intro _ <;> try (exfalso; omega)) | fail)
  refine Yn (fun z : MkM => [(40, .int .i64 (z.i : Nat)), (39, .int .i64 q.length), (38, .slice A q.length cap), (13, .slice z.A z.C.length z.cap), (5, .pointer (some ⟨g5, 0, none⟩)), (3, .pointer (some ⟨g3, 0, none⟩))]) (fun z => clsP z.A z.cap z.C :: many (z.C.map clQ) :: schA g5 s :: netA g3 n :: H)
    (fun z => z.i ≤ q.length ∧ z.C.map ClM.clm = (q.take z.i).map (fun x => clmE n.net s.sch x.rq) ∧ (∀ c ∈ z.C, c.lens) ∧ ∀ j, 0 ≤ j → j < z.i → F j = 0) (fun z => q.length - z.i) ⟨0, none, 0, []⟩ ⟨Nat.zero_le _, rfl, (fun c hc => by cases hc), fun j _ h => absurd h (Nat.not_lt_zero _)⟩ ?_ ?_ ?_
  · exact zu
  · intro w hw
    have h5 : St B w0 (schA g5 s :: netA g3 n :: H) w := by
      revert w
      exact zk
    exact Vq h5
  rintro ⟨i, A3, cap3, C⟩ ⟨hi, hC, hCl, hz⟩ K hK
  dsimp only at hi hC hCl hz ⊢
  have hqr' : Rd B w0 (clsP A3 cap3 C :: many (C.map clQ) :: schA g5 s :: netA g3 n :: H) A (q.flatMap rqF) := hqr.cons.cons.cons.cons
  have hCn : C.length ≤ q.length := by
    have := congrArg List.length hC
    rw [List.length_map, List.length_map, List.length_take] at this
    omega
  by_cases hlt : i < q.length
  rotate_left
  · obtain rfl : i = q.length := by omega
    have hfe := X7 (f := F) (r := q.length) (i0 := 0) fun j h1 h2 => hz j h1 (by omega)
    rw [hfe, if_neg (fun e => e rfl)] at hR
    subst hR
    rw [List.take_length] at hC
    clear hK
    repeat' (first | refine zgc ?_ | (refine zge ?_ ?_ <;> intro _ <;> try (exfalso; omega)) | fail)
    apply Yk (clsP A3 cap3 C :: many (C.map clQ) :: H)
    · exact zk
    apply XV; exact rfl; exact rfl; exact rfl; exact rfl
    exact ⟨A3, cap3, C, rfl, by rw [hC, List.map_map]; rfl, hCl, rfl⟩
  obtain ⟨x, hx⟩ : ∃ x, q[i]? = some x := ⟨_, List.getElem?_eq_getElem hlt⟩
  have hxm := List.mem_of_getElem? hx
  have hFx := hFv hx
  have p5 := fun {H' : List HP} {w : World} (hin : n.In B w0 H') (hrs : Rd B w0 H' s.A (s.cells.flatMap celF)) (hxi : x.In B w0 H') (hw : St B w0 H' w) => p4 x (hrq x hxm) hin hrs hxi hw
  have hxi := hq.x x hxm
  cases hlb : ZO n.net s.sch x.rq with
  | true =>
    rw [hlb, if_pos rfl] at hFx
    rw [hlb] at p5
    have hfe := Xu (f := F) (r := q.length) (i0 := 0) (i := i) (fun j h1 h2 => hz j h1 h2) (Nat.zero_le _) (by omega) (by rw [hFx]; decide)
    rw [hfe, hFx] at hR
    rw [if_pos (show (15 : Int) ≠ 0 from by decide)] at hR
    subst hR
    clear hK
    repeat' (first | refine zgd ?_ | (refine zge ?_ ?_ <;> intro _ <;> try (exfalso; omega)) | (refine zgh ?_; intro _) | fail)
    apply Yr _ en69
    exact za
    exact rfl
    exact fun _ hw => (p5 (hin.mono zk) (hrs.mono zk) (hxi.mono zk) (hw))
    rintro _ _ ⟨c, rfl, _, rfl⟩
    unfold clV
    repeat' (first | refine zgd ?_ | (refine zgh ?_; intro _) | fail)
    apply Yk (clsP none 0 [] :: many (([] : List ClM).map clQ) :: H)
    · intro w hw
      have h5 : St B w0 H w := by
        revert w
        exact zk
      exact Vq h5
    apply XV; exact rfl; exact rfl; exact rfl; exact rfl
    exact Vu rfl rfl
  | false =>
    rw [hlb, if_neg (by decide)] at hFx
    rw [hlb] at p5
    repeat' (first | refine zgd ?_ | (refine zge ?_ ?_ <;> intro _ <;> try (exfalso; omega)) | (refine zgh ?_; intro _) | fail)
    apply Yr _ en69
    exact za
    exact rfl
    exact fun _ hw => (p5 (hin.mono zk) (hrs.mono zk) (hxi.mono zk) (hw))
    rintro _ _ ⟨c, rfl, hcc, rfl⟩
    obtain ⟨hcm, hcl⟩ := hcc rfl
    unfold clV
    repeat' (first | refine zgd ?_ | (refine zgh ?_; intro _) | (refine zgi ?_; intro _ _) | fail)
    first | (rename_i A4 cap4; guard_hyp A4 : Option Addr)
    rw [Yd0, show C.length + 1 = (C ++ [c]).length by simp]
    apply hK ⟨i + 1, A4, cap4, C ++ [c]⟩
    · refine ⟨by show i + 1 ≤ _; omega, ?_, fun y hy => ?_, fun j h1 h2 => ?_⟩
      · show (C ++ [c]).map ClM.clm = _
        rw [List.take_add_one, hx, Option.toList_some, List.map_append, List.map_append, hC]
        simp [hcm]
      · rcases List.mem_append.1 hy with h | h
        · exact hCl y h
        · rw [List.mem_singleton.1 h]; exact hcl
      · rcases Nat.lt_succ_iff_lt_or_eq.1 h2 with h | rfl
        · exact hz j h1 h
        · exact hFx
    · dsimp only; omega
    · exact zu
    · intro w hw
      have h5 : St B w0 (clsP A4 cap4 (C ++ [c]) :: clQ c :: many (C.map clQ) :: schA g5 s :: netA g3 n :: H) w := by
        revert w
        exact zk
      exact h5.perm (.cons _ (ZF clQ C c _))
open Go.RowKit Go.Eng Go.Nw Go.Rt
def iE (es : List (Int × Int × Nat)) : Ents := es.map fun e => (e.1, Value.int .i64 e.2.1, e.2.2)
def wE (es : List (KL × Int × Nat)) : YM := es.map fun e => (e.1, Value.int .i64 e.2.1, e.2.2)
def X8 (es : List (Int × Int × Nat)) (k : Int) : Option Int := (es.find? fun e => e.1 == k).map (·.2.1)
def Zp (es : List (KL × Int × Nat)) (k : KL) : Option Int := (es.find? fun e => e.1 == k).map (·.2.1)
theorem YgE (es : List (Int × Int × Nat)) (k : Int) : mget (iE es) k = (X8 es k).map (Value.int .i64) := by
  unfold mget iE X8
  rw [List.find?_map, Option.map_map, Option.map_map]
  rfl
theorem YkH (es : List (KL × Int × Nat)) (k : KL) : vget (wE es) k = (Zp es k).map (Value.int .i64) := by
  unfold vget wE Zp
  rw [List.find?_map, Option.map_map, Option.map_map]
  rfl
theorem Yhi {es : List (Int × Int × Nat)} {k z : Int} {c : Nat} (h : X8 es k = none) (v : Int) : X8 (es ++ [(k, z, c)]) v = if v = k then some z else X8 es v := by
  unfold X8 at h ⊢
  rw [Option.map_eq_none_iff] at h
  rw [List.find?_append]
  by_cases e : v = k
  · subst e
    rw [h, if_pos rfl]
    simp
  · rw [if_neg e]
    cases List.find? (fun e => e.1 == v) es with
    | some x => rfl
    | none => simp [Ne.symm e]
theorem Yh2 {es : List (KL × Int × Nat)} {k : KL} {z : Int} {c : Nat} (h : Zp es k = none) (v : KL) : Zp (es ++ [(k, z, c)]) v = if v = k then some z else Zp es v := by
  unfold Zp at h ⊢
  rw [Option.map_eq_none_iff] at h
  rw [List.find?_append]
  by_cases e : v = k
  · subst e
    rw [h, if_pos rfl]
    simp
  · rw [if_neg e]
    cases List.find? (fun e => e.1 == v) es with
    | some x => rfl
    | none => simp [Ne.symm e]
structure SM where
  frame : Int
  g : Option (Nat × Nat × Nat)
  es : List (Int × Int × Nat)
  ce : Nat
  ts : YM
  ct : Nat
  ak : List (KL × Int × Nat)
  ca : Nat
  done : Bool
def smF (x : SM) : List Value := [.int .i64 x.frame, .map (x.g.map (·.1)), .map (x.g.map (·.2.1)), .map (x.g.map (·.2.2)), .bool x.done]
def smP (x : SM) : List HP := match x.g with
  | none => []
  | some (a, b, c) => [blk a (mobj (iE x.es) x.ce), blk b (vobj x.ts x.ct), blk c (vobj (wE x.ak) x.ca)]
def smQ (x : SM) : HP := many (smP x)
def SM.st (x : SM) : StM := ⟨x.frame, X8 x.es, fun u v => Zp x.ak [u, v], x.done⟩
structure VOk (N : Nat) (es : YM) (ct : Nat) : Prop where
  len : ∀ e ∈ es, e.1.length = N
  lt : ∀ e ∈ es, e.2.2 < ct
  ne : es.Pairwise fun a b => a.2.2 ≠ b.2.2
theorem VOk.nil {N ct : Nat} : VOk N [] ct := ⟨(fun e h => by cases h), (fun e h => by cases h), .nil⟩
theorem VOk.snoc {N ct : Nat} {es : YM} (h : VOk N es ct) {k : KL} (hk : k.length = N) (v : Value) : VOk N (es ++ [(k, v, ct)]) (ct + 1) := by
  refine ⟨fun e he => ?_, fun e he => ?_, ?_⟩
  · rcases List.mem_append.1 he with he | he
    · exact h.len e he
    · rw [List.mem_singleton.1 he]; exact hk
  · rcases List.mem_append.1 he with he | he
    · exact Nat.lt_succ_of_lt (h.lt e he)
    · rw [List.mem_singleton.1 he]; exact Nat.lt_succ_self _
  · refine List.pairwise_append.2 ⟨h.ne, List.pairwise_singleton _ _, fun a ha b hb => ?_⟩
    rw [List.mem_singleton.1 hb]
    exact Nat.ne_of_lt (h.lt a ha)
theorem VOk.set {N ct b : Nat} {l1 l2 : YM} {k : KL} {v0 : Value} (h : VOk N (l1 ++ (k, v0, b) :: l2) ct) (v : Value) : VOk N (l1 ++ (k, v, b) :: l2) ct := by
  have e : ∀ P : KL × Value × Nat → Prop, (∀ z : KL × Value × Nat, P z ↔ P (z.1, v, z.2.2)) → (∀ z ∈ l1 ++ (k, v0, b) :: l2, P z) → ∀ z ∈ l1 ++ (k, v, b) :: l2, P z := fun P hP hz z hm => by
    rcases List.mem_append.1 hm with hm | hm
    · exact hz z (List.mem_append.2 (.inl hm))
    · rcases List.mem_cons.1 hm with rfl | hm
      · exact (hP (k, v0, b)).1 (hz (k, v0, b) (by simp))
      · exact hz z (List.mem_append.2 (.inr (List.mem_cons_of_mem _ hm)))
  refine ⟨e (fun z => z.1.length = N) (fun _ => Iff.rfl) h.len, e (fun z => z.2.2 < ct) (fun _ => Iff.rfl) h.lt, ?_⟩
  have hp := h.ne
  rw [List.pairwise_append, List.pairwise_cons] at hp ⊢
  refine ⟨hp.1, hp.2.1, fun a ha z hz => ?_⟩
  rcases List.mem_cons.1 hz with rfl | hz
  · exact hp.2.2 a ha (k, v0, b) (by simp)
  · exact hp.2.2 a ha z (List.mem_cons_of_mem _ hz)
theorem VOk.births {N ct b : Nat} {l1 l2 : YM} {k : KL} {v0 : Value} (h : VOk N (l1 ++ (k, v0, b) :: l2) ct) : ∀ e ∈ l1, e.2.2 ≠ b := fun e he => (List.pairwise_append.1 h.ne).2.2 e he (k, v0, b) (by simp)
structure TOk (ts : YM) (ct : Nat) (b : Int) : Prop where
  ok : VOk 2 ts ct
  z : ∀ e ∈ ts, ∃ z, e.2.1 = .int .i64 z ∧ 0 ≤ z ∧ z ≤ b
theorem TOk.mono {ts : YM} {ct : Nat} {b b' : Int} (h : TOk ts ct b) (hb : b ≤ b') : TOk ts ct b' := ⟨h.ok, fun e he => by
  obtain ⟨z, h1, h2, h3⟩ := h.z e he
  exact ⟨z, h1, h2, by omega⟩⟩
structure SM.Ok (x : SM) (b : Int) : Prop where
  g : 0 ≤ x.frame → x.g.isSome = true
  ts : TOk x.ts x.ct b
  ak : ∀ e ∈ x.ak, e.1.length = 2
theorem SM.Ok.mono {x : SM} {b b' : Int} (h : x.Ok b) (hb : b ≤ b') : x.Ok b' := ⟨h.g, h.ts.mono hb, h.ak⟩
def Xc : SM := ⟨-1, none, [], 0, [], 0, [], 0, false⟩
structure PlC where
  fA : Option Addr
  fc : Nat
  l : List Flw
  s : SchM
  xA : Option Addr
  xc : Nat
  xs : List RuM
def attF (a : AttM) : List Value := [.int .i64 a.slot, .int .i64 a.frame, .int .i64 a.c.1, .int .i64 a.c.2.1, .int .i64 a.c.2.2.1, .int .i64 a.c.2.2.2.1, .int .i64 a.c.2.2.2.2, .int .i64 a.o]
def delF (d : Int × Int × Int) : List Value := [.int .i64 d.1, .int .i64 d.2.1, .int .i64 d.2.2]
abbrev plB (c : PlC) (g : Nat) (sA : Option Addr) (ns sc : Nat) (tA : Option Addr) (nt tc : Nat) (dA : Option Addr) (nd dc : Nat) : HP := blk g (.cells #[.slice c.fA c.l.length c.fc, .int .i64 c.s.len, .int .i64 c.s.off, .slice c.s.A c.s.cells.length c.s.cap, .slice c.xA c.xs.length c.xc, .slice sA ns sc, .slice tA nt tc, .slice dA nd dc] 164 (0, 0))
abbrev plS (A : Option Addr) (n cap : Nat) (ss : List SM) : HP := sl 224 5 A n cap (ss.flatMap smF)
abbrev plT (A : Option Addr) (cap : Nat) (l : List AttM) : HP := sl 167 8 A l.length cap (l.flatMap attF)
abbrev plD (A : Option Addr) (cap : Nat) (l : List (Int × Int × Int)) : HP := sl 181 3 A l.length cap (l.flatMap delF)
abbrev plL (c : PlC) (g : Nat) (sA : Option Addr) (sc : Nat) (ss : List SM) (tA : Option Addr) (tc : Nat) (atts : List AttM) (dA : Option Addr) (dc : Nat) (dels : List (Int × Int × Int)) (H : List HP) : List HP := plB c g sA c.l.length sc tA atts.length tc dA dels.length dc :: plS sA c.l.length sc ss :: plT tA tc atts :: plD dA dc dels :: many (ss.map smQ) :: H
theorem Yhu (n : Nat) (H : List HP) : Perm H (many ((List.replicate n Xc).map smQ) :: H) := by
  induction n with
  | zero => exact .noMany H
  | succ n ih =>
    have h2 : Perm (many ((List.replicate n Xc).map smQ) :: H) (smQ Xc :: many ((List.replicate n Xc).map smQ) :: H) := .noMany _
    refine .trans ih (.trans h2 ?_)
    rw [show List.replicate (n + 1) Xc = List.replicate n Xc ++ [Xc] from List.replicate_succ']
    exact ZF smQ _ Xc H
theorem YgD {α : Type} (f : α → HP) {l : List α} {i : Nat} {x : α} (h : l[i]? = some x) (H : List HP) : Perm (many (l.map f) :: H) (f x :: many ((l.take i).map f ++ (l.drop (i + 1)).map f) :: H) := by
  obtain ⟨hi, e⟩ := List.getElem?_eq_some_iff.1 h
  have h1 : l.map f = (l.take i).map f ++ f x :: (l.drop (i + 1)).map f := by
    rw [← e, ← List.map_cons, ← List.map_append, List.getElem_cons_drop, List.take_append_drop]
  rw [h1]
  exact .pull _ _ _ _
theorem Yer {α : Type} (f : α → HP) {l : List α} {i : Nat} (h : i < l.length) (y : α) (H : List HP) : Perm (f y :: many ((l.take i).map f ++ (l.drop (i + 1)).map f) :: H) (many ((l.set i y).map f) :: H) := by
  have h1 : (l.set i y).map f = (l.take i).map f ++ f y :: (l.drop (i + 1)).map f := by
    rw [List.set_eq_take_append_cons_drop, if_pos h, List.map_append, List.map_cons]
  rw [h1]
  exact .push _ _ _ _
set_option maxRecDepth 10000 in
set_option maxHeartbeats 2000000 in
theorem Yat (c : PlC) (hl : c.l.length ≤ 1000) {B : Nat} {w0 : World} {H : List HP} {w : World} (hw : St B w0 H w) :
    Calls Tryz.prog 93 [.slice c.fA c.l.length c.fc, c.s.val, .slice c.xA c.xs.length c.xc].toArray w (Post B w0 fun v K => ∃ g A cap, v = .pointer (some ⟨g, 0, none⟩) ∧ K = plL c g A cap (List.replicate c.l.length Xc) none 0 [] none 0 [] H) := by
  refine Yf Tryz.func93 Tryz.ntmps93 rfl rfl hw ?_
  unfold SchM.val
  repeat' (first | refine zgd ?_ | (refine zgh ?_; intro _) | fail)
  rename_i g
  refine Yn (fun (z : Nat × Option Addr × Nat) => [(15, .int .i64 (z.1 : Nat)), (14, .int .i64 c.l.length), (7, .pointer (some ⟨g, 0, none⟩))])
    (fun z => plB c g z.2.1 z.1 z.2.2 none 0 0 none 0 0 :: sl 224 5 z.2.1 z.1 z.2.2 ((List.replicate z.1 Xc).flatMap smF) :: H) (fun z => z.1 ≤ c.l.length) (fun z => c.l.length - z.1) (0, none, 0) (Nat.zero_le _) ?_ ?_ ?_
  · exact zu
  · intro w hw
    have h5 : St B w0 (plB c g none 0 0 none 0 0 none 0 0 :: H) w := by
      revert w
      exact zk
    exact (h5.nilSlice _ _).perm (.swap _ _ _)
  rintro ⟨k, A, cap⟩ hk K hK
  dsimp only at hk ⊢
  by_cases hlt : k < c.l.length
  rotate_left
  · obtain rfl : k = c.l.length := by omega
    clear hK
    repeat' (first | refine zgc ?_ | (refine zge ?_ ?_ <;> intro _ <;> try (exfalso; omega)) | fail)
    apply Yk (plL c g A cap (List.replicate c.l.length Xc) none 0 [] none 0 [] H)
    · intro w hw
      have h5 : St B w0 (plB c g A c.l.length cap none 0 0 none 0 0 :: sl 224 5 A c.l.length cap ((List.replicate c.l.length Xc).flatMap smF) :: H) w := by
        revert w
        exact zk
      have h6 : St B w0 (plD none 0 [] :: plT none 0 [] :: plB c g A c.l.length cap none 0 0 none 0 0 :: sl 224 5 A c.l.length cap ((List.replicate c.l.length Xc).flatMap smF) :: many ((List.replicate c.l.length Xc).map smQ) :: H) w := ((h5.perm (.cons _ (.cons _ (Yhu c.l.length H)))).nilSlice _ _).nilSlice _ _
      have h7 : ∀ w, St B w0 (plD none 0 [] :: plT none 0 [] :: plB c g A c.l.length cap none 0 0 none 0 0 :: sl 224 5 A c.l.length cap ((List.replicate c.l.length Xc).flatMap smF) :: many ((List.replicate c.l.length Xc).map smQ) :: H) w → St B w0 (plB c g A c.l.length cap none 0 0 none 0 0 :: sl 224 5 A c.l.length cap ((List.replicate c.l.length Xc).flatMap smF) :: plT none 0 [] :: plD none 0 [] :: many ((List.replicate c.l.length Xc).map smQ) :: H) w := by
        clear h5 h6
        exact zk
      exact h7 w h6
    apply Yg; exact rfl; exact rfl
    exact ⟨g, A, cap, rfl, rfl⟩
  repeat' (first | refine zgd ?_ | (refine zge ?_ ?_ <;> intro _ <;> try (exfalso; omega)) | (refine zgh ?_; intro _) | (refine zgi ?_; intro _ _) | fail)
  rename_i A' cap'
  have e5 : sl 224 5 A' (k + 1) cap' ((List.replicate k Xc).flatMap smF ++ #[Value.int .i64 (-1), .map none, .map none, .map none, .bool false].toList) = sl 224 5 A' (k + 1) cap' ((List.replicate (k + 1) Xc).flatMap smF) := by
    rw [List.replicate_succ', List.flatMap_append]; rfl
  rw [e5]
  apply hK ⟨k + 1, A', cap'⟩
  · dsimp only; omega
  · dsimp only; omega
  · exact zu
  · dsimp only
    exact zk
end Go.Proofs.YtmalhidldgfeoaaGreatDoor
namespace Go.Eng
open Go.RowKit Go.Sort Go.Proofs
theorem Q5 {α : Type} [Inhabited α] {enc : α → List Value} {q : Nat} (hq : ∀ x, (enc x).length = q) (h0 : 0 < q) (l : List α) : (flatK enc q l.toArray).toList = l.flatMap enc := by
  have hlen : (l.flatMap enc).length = l.length * q := Y1 hq l
  have hs : (flatK enc q l.toArray).size = l.length * q := by simp
  apply List.ext_getElem (by rw [Array.length_toList, hs, hlen])
  intro t h1 h2
  rw [hlen] at h2
  have hd : t / q < l.length := Nat.div_lt_of_lt_mul (by rw [Nat.mul_comm]; exact h2)
  have hm := Nat.mod_lt t h0
  have h3 := JU hq l (t / q) (t % q) l[t / q] (List.getElem?_eq_getElem hd) hm
  rw [Nat.mul_comm, Nat.div_add_mod] at h3
  have h4 := get_flatK enc q l.toArray t (by simpa using h2)
  rw [getElem!_pos _ t (by rw [hs]; exact h2)] at h4
  rw [Array.getElem_toList, h4]
  have h5 : l.toArray[t / q]! = l[t / q] := by rw [getElem!_pos _ _ (by simpa using hd)]; simp
  rw [h5, getElem!_pos _ _ (by rw [hq]; exact hm)]
  have h8 : (enc l[t / q])[t % q]? = some ((enc l[t / q])[t % q]'(by rw [hq]; exact hm)) := List.getElem?_eq_getElem _
  rw [h8] at h3
  obtain ⟨h6, h7⟩ := List.getElem?_eq_some_iff.1 h3
  exact h7.symm
theorem Ycd {α : Type} [Inhabited α] {enc : α → List Value} {q : Nat} (hq : ∀ x, (enc x).length = q) (h0 : 0 < q) {l : List α} {k : Nat} (hk : k ≤ l.length) {g cap : Nat} {e : TypeId} {B : Nat} {w0 w : World} {H : List HP} (hw : St B w0 (sl e q (some ⟨g, 0, none⟩) l.length cap (l.flatMap enc) :: H) w) :
    HoldsK enc q w g (k * q) (l.drop k).toArray ∧ g < w.heap.size ∧ ∀ (d : List α) (n : Nat) (os : Array Obj), d.length = l.length - k → St B w0 (sl e q (some ⟨g, 0, none⟩) l.length cap ((l.take k ++ d).flatMap enc) :: H) (sortWorldK enc q w g (k * q) n d.toArray os) := by
  have ho := hw.sl (List.mem_cons_self)
  rcases ho.2 with ⟨h1, _⟩ | ⟨g', c, cur, h1, h2, h3, h4, h5, h6, h7⟩
  · cases h1
  injection h1 with h1 _ hc
  injection h1 with h1
  injection h1 with h1
  subst h1 hc
  have hmul : l.length * q = k * q + (l.length - k) * q := by rw [← Nat.add_mul]; congr 1; omega
  have hcq : l.length * q ≤ cap * q := Nat.mul_le_mul_right q h4
  have hg : g < w.heap.size := (Array.getElem?_eq_some_iff.1 h3).1
  refine ⟨fun j hj => ?_, hg, fun d n os hd => ?_⟩
  · have hs : (flatK enc q (l.drop k).toArray).size = (l.length - k) * q := by simp
    rw [hs] at hj
    refine ⟨?_, by simp [World.frozen?, h3]⟩
    have hcell : w.cell? ⟨g, k * q + j, none⟩ = cur[k * q + j]? := by simp [World.cell?, h3]
    rw [hcell]
    have e1 : cur[k * q + j]? = (l.flatMap enc)[k * q + j]? := by
      rw [← h7, List.getElem?_take_of_lt (by omega), Array.getElem?_toList]
    rw [e1, ← List.getElem?_drop, ← WV hq, ← Q5 hq h0, Array.getElem?_toList, Array.getElem?_eq_getElem (by rw [hs]; exact hj), getElem!_pos _ j (by rw [hs]; exact hj)]
    rfl
  · have hs : (flatK enc q d.toArray).size = (l.length - k) * q := by simp [hd]
    have hF : (flatK enc q d.toArray).toList = d.flatMap enc := Q5 hq h0 d
    have hheap : (sortWorldK enc q w g (k * q) n d.toArray os).heap[g]? = some (.cells (putCells id (k * q) (flatK enc q d.toArray) cur) e (0, 0)) := by
      unfold sortWorldK putRowK
      rw [heap_grow_old _ _ (by simpa using hg)]
      simp [putRow, mapBlock, Sort.ahead, Array.getElem?_modify, h3, onCells]
    have hgb : w.grownBy (sortWorldK enc q w g (k * q) n d.toArray os) (some g) := by
      refine ⟨rfl, rfl, rfl, by simp [sortWorldK, putRowK], fun b hb hne => ?_⟩
      unfold sortWorldK putRowK
      rw [heap_grow_old _ _ (by simpa using hb)]
      have : g ≠ b := fun e => hne (by rw [e])
      simp [putRow, mapBlock, Sort.ahead, Array.getElem?_modify, this]
    have hlen : ((l.take k ++ d).flatMap enc).length = l.length * q := by
      rw [Y1 hq, List.length_append, List.length_take, hd, Nat.min_eq_left hk]; congr 1; omega
    refine hw.upd (Upd.here H) hgb.os hgb.tape hgb.output hgb.size fun S1 hS => ⟨⟨⟨hlen, .inr ⟨g, cap, _, rfl, Nat.zero_le _, hheap, h4, h5, by simp [putCells, h6], ?_⟩⟩, hS.2⟩, fun b hb hlt => hgb.block b hlt fun e => hb ?_⟩
    · apply List.ext_getElem?
      intro j
      by_cases hj : j < l.length * q
      · rw [List.getElem?_take_of_lt hj, Array.getElem?_toList]
        have hjc : j < cur.size := by rw [h6]; omega
        have e1 : cur[j]? = (l.flatMap enc)[j]? := by rw [← h7, List.getElem?_take_of_lt hj, Array.getElem?_toList]
        rw [List.flatMap_append, JV hq]
        have hl1 : ((l.flatMap enc).take (k * q)).length = k * q := by rw [List.length_take, Y1 hq]; omega
        by_cases hjk : j < k * q
        · rw [List.getElem?_append_left (by rw [hl1]; exact hjk), List.getElem?_take_of_lt hjk, ← e1]
          simp [putCells, Array.getElem?_eq_getElem hjc, show ¬ k * q ≤ j by omega]
        · rw [List.getElem?_append_right (by rw [hl1]; omega), hl1, ← hF, Array.getElem?_toList]
          have hin : j - k * q < (flatK enc q d.toArray).size := by rw [hs]; omega
          rw [Array.getElem?_eq_getElem hin]
          have hc2 : k * q ≤ j ∧ j < k * q + (flatK enc q d.toArray).size := ⟨by omega, by rw [hs]; omega⟩
          unfold putCells
          rw [Array.getElem?_mapIdx, Array.getElem?_eq_getElem hjc]
          simp only [Option.map_some]
          rw [if_pos hc2]
          have h9 : (flatK enc q d.toArray)[j - k * q]! = (flatK enc q d.toArray)[j - k * q]'hin := getElem!_pos (flatK enc q d.toArray) (j - k * q) hin
          rw [h9]
          rfl
      · rw [List.getElem?_take_eq_none (by omega), List.getElem?_eq_none (by rw [hlen]; omega)]
    · injection e with e
      rw [e]
      exact hS.2 _ rfl
end Go.Eng
namespace Go.Proofs
open Go.Shelf
def Tryz.sortDels_ren : Go.Shelf.Ren := ⟨fun | 6 => 153 | 15 => 157 | 14 => 213 | 28 => 223 | 29 => 224 | 20 => 253 | 21 => 254 | 22 => 255 | 23 => 256 | 24 => 257 | 25 => 258 | 26 => 259 | 27 => 260 | 46 => 288 | 47 => 262 | 48 => 263 | 49 => 289 | 50 => 290 | 57 => 301 | n => n, fun | 22 => 82 | 24 => 181 | 25 => 227 | 3 => 3 | 39 => 197 | 0 => 0 | 53 => 275 | 55 => 277 | 4 => 4 | 46 => 269 | 45 => 268 | 50 => 77 | 5 => 5 | 9 => 9 | 66 => 302 | 70 => 306 | 76 => 324 | 77 => 325 | n => n, fun | n => n⟩
theorem Tryz.sortDels : Go.Proofs.SlLaysF0.n6 Tryz.prog Tryz.sortDels_ren := {
  mixed := by kernel_rfl
  f6 := ⟨Tryz.f153.name, by decide, Tryz.func153.trans (congrArg some (by kernel_rfl))⟩
  f14 := ⟨Tryz.f213.name, by decide, Tryz.func213.trans (congrArg some (by kernel_rfl))⟩
  f15 := Tryz.func157.trans (congrArg some (by kernel_rfl))
  f20 := ⟨Tryz.f253.name, by decide, Tryz.func253.trans (congrArg some (by kernel_rfl))⟩
  f21 := ⟨Tryz.f254.name, by decide, Tryz.func254.trans (congrArg some (by kernel_rfl))⟩
  f22 := ⟨Tryz.f255.name, by decide, Tryz.func255.trans (congrArg some (by kernel_rfl))⟩
  f23 := ⟨Tryz.f256.name, by decide, Tryz.func256.trans (congrArg some (by kernel_rfl))⟩
  f24 := ⟨Tryz.f257.name, by decide, Tryz.func257.trans (congrArg some (by kernel_rfl))⟩
  f25 := ⟨Tryz.f258.name, by decide, Tryz.func258.trans (congrArg some (by kernel_rfl))⟩
  f26 := ⟨Tryz.f259.name, by decide, Tryz.func259.trans (congrArg some (by kernel_rfl))⟩
  f27 := ⟨Tryz.f260.name, by decide, Tryz.func260.trans (congrArg some (by kernel_rfl))⟩
  f28 := Tryz.func223.trans (congrArg some (by kernel_rfl))
  f29 := Tryz.func224.trans (congrArg some (by kernel_rfl))
  f46 := ⟨Tryz.f288.name, by decide, Tryz.func288.trans (congrArg some (by kernel_rfl))⟩
  f47 := Tryz.func262.trans (congrArg some (by kernel_rfl))
  f48 := Tryz.func263.trans (congrArg some (by kernel_rfl))
  f49 := ⟨Tryz.f289.name, by decide, Tryz.func289.trans (congrArg some (by kernel_rfl))⟩
  f50 := ⟨Tryz.f290.name, by decide, Tryz.func290.trans (congrArg some (by kernel_rfl))⟩
  f57 := ⟨Tryz.f301.name, by decide, Tryz.func301.trans (congrArg some (by kernel_rfl))⟩
  t0 := Tryz.underlying0
  a0 := Tryz.isAgg0
  z0 := Tryz.sizeOf0
  v0 := Tryz.zeroValue0
  t3 := Tryz.underlying3
  a3 := Tryz.isAgg3
  z3 := Tryz.sizeOf3
  v3 := Tryz.zeroValue3
  t4 := Tryz.underlying4
  a4 := Tryz.isAgg4
  z4 := Tryz.sizeOf4
  v4 := Tryz.zeroValue4
  t5 := Tryz.underlying5
  a5 := Tryz.isAgg5
  z5 := Tryz.sizeOf5
  v5 := Tryz.zeroValue5
  t9 := Tryz.underlying9
  a9 := Tryz.isAgg9
  z9 := Tryz.sizeOf9
  v9 := Tryz.zeroValue9
  t22 := Tryz.underlying82
  a22 := Tryz.isAgg82
  z22 := Tryz.sizeOf82
  v22 := Tryz.zeroValue82
  t25 := Tryz.underlying227
  a25 := Tryz.isAgg227
  z25 := Tryz.sizeOf227
  v25 := Tryz.zeroValue227
  t39 := Tryz.underlying197
  a39 := Tryz.isAgg197
  z39 := Tryz.sizeOf197
  v39 := Tryz.zeroValue197
  t45 := Tryz.underlying268
  a45 := Tryz.isAgg268
  z45 := Tryz.sizeOf268
  v45 := Tryz.zeroValue268
  t46 := Tryz.underlying269
  a46 := Tryz.isAgg269
  z46 := Tryz.sizeOf269
  v46 := Tryz.zeroValue269
  t50 := Tryz.underlying77
  a50 := Tryz.isAgg77
  z50 := Tryz.sizeOf77
  v50 := Tryz.zeroValue77
  t53 := Tryz.underlying275
  a53 := Tryz.isAgg275
  z53 := Tryz.sizeOf275
  v53 := Tryz.zeroValue275
  t55 := Tryz.underlying277
  a55 := Tryz.isAgg277
  z55 := Tryz.sizeOf277
  v55 := Tryz.zeroValue277
  t66 := Tryz.underlying302
  a66 := Tryz.isAgg302
  z66 := Tryz.sizeOf302
  v66 := Tryz.zeroValue302
  t70 := Tryz.underlying306
  a70 := Tryz.isAgg306
  z70 := Tryz.sizeOf306
  v70 := Tryz.zeroValue306
  t76 := Tryz.underlying324
  a76 := Tryz.isAgg324
  z76 := Tryz.sizeOf324
  v76 := Tryz.zeroValue324
  t77 := Tryz.underlying325
  a77 := Tryz.isAgg325
  z77 := Tryz.sizeOf325
  v77 := Tryz.zeroValue325 }
def Tryz.sortBrs_ren : Go.Shelf.Ren := ⟨fun | 6 => 96 | 15 => 157 | 14 => 156 | 28 => 223 | 29 => 224 | 20 => 215 | 21 => 216 | 22 => 217 | 23 => 218 | 24 => 219 | 25 => 220 | 26 => 221 | 27 => 222 | 46 => 261 | 47 => 262 | 48 => 263 | 49 => 264 | 50 => 265 | 57 => 291 | n => n, fun | 22 => 87 | 24 => 96 | 25 => 176 | 3 => 3 | 39 => 197 | 0 => 0 | 53 => 275 | 55 => 277 | 4 => 4 | 46 => 269 | 45 => 268 | 50 => 77 | 5 => 5 | 9 => 9 | 66 => 302 | 70 => 306 | 76 => 324 | 77 => 325 | n => n, fun | n => n⟩
theorem Tryz.sortBrs : Go.Proofs.SlLaysF0.n6 Tryz.prog Tryz.sortBrs_ren := {
  mixed := by kernel_rfl
  f6 := ⟨Tryz.f96.name, by decide, Tryz.func96.trans (congrArg some (by kernel_rfl))⟩
  f14 := ⟨Tryz.f156.name, by decide, Tryz.func156.trans (congrArg some (by kernel_rfl))⟩
  f15 := Tryz.func157.trans (congrArg some (by kernel_rfl))
  f20 := ⟨Tryz.f215.name, by decide, Tryz.func215.trans (congrArg some (by kernel_rfl))⟩
  f21 := ⟨Tryz.f216.name, by decide, Tryz.func216.trans (congrArg some (by kernel_rfl))⟩
  f22 := ⟨Tryz.f217.name, by decide, Tryz.func217.trans (congrArg some (by kernel_rfl))⟩
  f23 := ⟨Tryz.f218.name, by decide, Tryz.func218.trans (congrArg some (by kernel_rfl))⟩
  f24 := ⟨Tryz.f219.name, by decide, Tryz.func219.trans (congrArg some (by kernel_rfl))⟩
  f25 := ⟨Tryz.f220.name, by decide, Tryz.func220.trans (congrArg some (by kernel_rfl))⟩
  f26 := ⟨Tryz.f221.name, by decide, Tryz.func221.trans (congrArg some (by kernel_rfl))⟩
  f27 := ⟨Tryz.f222.name, by decide, Tryz.func222.trans (congrArg some (by kernel_rfl))⟩
  f28 := Tryz.func223.trans (congrArg some (by kernel_rfl))
  f29 := Tryz.func224.trans (congrArg some (by kernel_rfl))
  f46 := ⟨Tryz.f261.name, by decide, Tryz.func261.trans (congrArg some (by kernel_rfl))⟩
  f47 := Tryz.func262.trans (congrArg some (by kernel_rfl))
  f48 := Tryz.func263.trans (congrArg some (by kernel_rfl))
  f49 := ⟨Tryz.f264.name, by decide, Tryz.func264.trans (congrArg some (by kernel_rfl))⟩
  f50 := ⟨Tryz.f265.name, by decide, Tryz.func265.trans (congrArg some (by kernel_rfl))⟩
  f57 := ⟨Tryz.f291.name, by decide, Tryz.func291.trans (congrArg some (by kernel_rfl))⟩
  t0 := Tryz.underlying0
  a0 := Tryz.isAgg0
  z0 := Tryz.sizeOf0
  v0 := Tryz.zeroValue0
  t3 := Tryz.underlying3
  a3 := Tryz.isAgg3
  z3 := Tryz.sizeOf3
  v3 := Tryz.zeroValue3
  t4 := Tryz.underlying4
  a4 := Tryz.isAgg4
  z4 := Tryz.sizeOf4
  v4 := Tryz.zeroValue4
  t5 := Tryz.underlying5
  a5 := Tryz.isAgg5
  z5 := Tryz.sizeOf5
  v5 := Tryz.zeroValue5
  t9 := Tryz.underlying9
  a9 := Tryz.isAgg9
  z9 := Tryz.sizeOf9
  v9 := Tryz.zeroValue9
  t22 := Tryz.underlying87
  a22 := Tryz.isAgg87
  z22 := Tryz.sizeOf87
  v22 := Tryz.zeroValue87
  t25 := Tryz.underlying176
  a25 := Tryz.isAgg176
  z25 := Tryz.sizeOf176
  v25 := Tryz.zeroValue176
  t39 := Tryz.underlying197
  a39 := Tryz.isAgg197
  z39 := Tryz.sizeOf197
  v39 := Tryz.zeroValue197
  t45 := Tryz.underlying268
  a45 := Tryz.isAgg268
  z45 := Tryz.sizeOf268
  v45 := Tryz.zeroValue268
  t46 := Tryz.underlying269
  a46 := Tryz.isAgg269
  z46 := Tryz.sizeOf269
  v46 := Tryz.zeroValue269
  t50 := Tryz.underlying77
  a50 := Tryz.isAgg77
  z50 := Tryz.sizeOf77
  v50 := Tryz.zeroValue77
  t53 := Tryz.underlying275
  a53 := Tryz.isAgg275
  z53 := Tryz.sizeOf275
  v53 := Tryz.zeroValue275
  t55 := Tryz.underlying277
  a55 := Tryz.isAgg277
  z55 := Tryz.sizeOf277
  v55 := Tryz.zeroValue277
  t66 := Tryz.underlying302
  a66 := Tryz.isAgg302
  z66 := Tryz.sizeOf302
  v66 := Tryz.zeroValue302
  t70 := Tryz.underlying306
  a70 := Tryz.isAgg306
  z70 := Tryz.sizeOf306
  v70 := Tryz.zeroValue306
  t76 := Tryz.underlying324
  a76 := Tryz.isAgg324
  z76 := Tryz.sizeOf324
  v76 := Tryz.zeroValue324
  t77 := Tryz.underlying325
  a77 := Tryz.isAgg325
  z77 := Tryz.sizeOf325
  v77 := Tryz.zeroValue325 }
end Go.Proofs
namespace Go.Proofs.YtmalhidldgfeoaaGreatDoor
open Go.RowKit Go.Eng Go.Nw Go.Rt Go.Sort Go.Shelf Go.Proofs
set_option maxHeartbeats 1000000 in
theorem Ylv (x y : Int × Int × Int) (W : World) : Calls Tryz.prog 154 #[.agg #[.int .i64 x.1, .int .i64 x.2.1, .int .i64 x.2.2], .agg #[.int .i64 y.1, .int .i64 y.2.1, .int .i64 y.2.2]] W fun e w' => e = .returned (.int .i64 (Lib.compareInt x.1 y.1)) ∧ ∃ q os', w' = grow (W.drewN q) os' := by
  have hcon := fun W' => Tryz.cmp_Compare_int x.1 y.1 W'
  generalize Lib.compareInt x.1 y.1 = r at hcon ⊢
  go_enter Tryz.func154, Tryz.ntmps154
  go_wp2_with (go_at_call 99; refine (hcon _).mono ?_; rintro e w' ⟨rfl, rfl⟩)
  go_ret
  exact ⟨rfl, 0, _, by rw [alloc_eq_grow, alloc_eq_grow, grow_grow]; rfl⟩
theorem Yi0 (x y : Int × Int × Int) : ltOf (fun x y : Int × Int × Int => Lib.compareInt x.1 y.1) x y = decide (x.1 < y.1) := by
  unfold ltOf Lib.compareInt
  by_cases h1 : x.1 < y.1
  · simp [h1]
  · by_cases h2 : y.1 < x.1 <;> simp [h1, h2]
theorem YlH : SWO (ltOf fun x y : Int × Int × Int => Lib.compareInt x.1 y.1) where
  irrefl x := by rw [Yi0]; simp
  trans x y z h1 h2 := by rw [Yi0] at *; simp at *; omega
  ntrans x y z h1 h2 := by rw [Yi0] at *; simp at *; omega
theorem Yay {α : Type} [Inhabited α] {d d' : Array α} (h : PermIn 0 d.size d d') : d'.toList.Perm d.toList := by
  obtain ⟨h1, _, h3⟩ := h
  have e1 : d.extract 0 d.size = d := Array.extract_size
  have e2 : d'.extract 0 d.size = d' := by rw [← h1]; exact Array.extract_size
  rw [e1, e2] at h3
  exact h3
theorem Yc9 (l : List (Int × Int × Int)) (k : Nat) (hk : k ≤ l.length) (hl : l.length ≤ 100000000) {A : Option Addr} {cap B : Nat} {w0 : World} {H H0 : List HP} {w : World} (hin : ∀ w, St B w0 H0 w → St B w0 (plD A cap l :: H) w) (hw : St B w0 H0 w) :
    Calls Tryz.prog 153 [.slice (subA A k cap 3) (l.length - k : Nat) (cap - k), .func (.func 154) #[] #[]].toArray w (Post B w0 fun v K => v = .tuple #[] ∧ ∃ l', l'.Perm l ∧ K = plD A cap l' :: H) := by
  have hw := hin w hw
  by_cases h0 : l.length - k = 0
  · rw [h0]
    refine (AnyF.slices_SortFunc_none Tryz.sortDels (subA A k cap 3) (cap - k) (.func (.func 154) #[] #[]) w).mono ?_
    rintro e w' ⟨rfl, rfl⟩
    exact ⟨_, _, rfl, hw, rfl, l, List.Perm.refl _, rfl⟩
  have ho := hw.sl (List.mem_cons_self)
  obtain ⟨g, rfl, hcap⟩ : ∃ g, A = some ⟨g, 0, none⟩ ∧ l.length ≤ cap := by
    rcases ho.2 with ⟨h1, h2⟩ | ⟨g, c, cur, h1, h2, h3, h4, h5, h6, h7⟩
    · omega
    · injection h1 with e1 e2 e3
      exact ⟨g, e1, by omega⟩
  have hsub : subA (some (⟨g, 0, none⟩ : Addr)) k cap 3 = some ⟨g, k * 3, none⟩ := by
    unfold subA
    rw [if_neg (by omega)]
    simp [Addr.add]
    intro h
    omega
  rw [hsub]
  obtain ⟨hH, hg, hst⟩ := Ycd (enc := delF) (fun _ => rfl) (by decide) hk hw
  have eg : ∀ args w, (callFunc 154 args).run Tryz.prog w = .ok (.enter 154 args) w := Yma
  have hsz : (l.drop k).toArray.size = l.length - k := by simp
  have hcon := AnyQ.slices_SortFunc Tryz.sortDels 3 Tryz.isAgg181 Tryz.sizeOf181 delF (fun _ => rfl) (fun x v hv => by simp [delF] at hv; rcases hv with rfl | rfl | rfl <;> rfl) (fun x y => Lib.compareInt x.1 y.1) YlH 154 #[] g (k * 3) (cap - k) (l.drop k).toArray w eg (fun _ _ _ _ x y => Ylv x y _) hH hg (by rw [hsz]; omega)
  rw [hsz] at hcon
  refine hcon.mono ?_
  rintro e w' ⟨rfl, d', n, os, hp, _, rfl⟩
  have hp := Yay (d := (l.drop k).toArray) (by rw [hsz]; exact hp)
  have hpl : (l.take k ++ d'.toList).Perm l := by
    have := (List.Perm.refl (l.take k)).append hp
    rwa [List.take_append_drop] at this
  have hdl : d'.toList.length = l.length - k := by rw [hp.length_eq]; simp
  have h5 := hst d'.toList n os hdl
  rw [Array.toArray_toList] at h5
  refine ⟨_, _, rfl, h5, rfl, l.take k ++ d'.toList, hpl, ?_⟩
  unfold plD
  rw [hpl.length_eq]
open Go.RowKit Go.Eng Go.Nw Go.Rt Go.Sort Go.Shelf Go.Proofs
set_option maxHeartbeats 4000000 in
theorem Ykv (a b c d : Int) (g : Nat) (W : World) (h0 : W.cell? ⟨g, 0, none⟩ = some (.int .i64 a)) (h1 : W.cell? ⟨g, 1, none⟩ = some (.int .i64 b)) (h2 : W.cell? ⟨g, 2, none⟩ = some (.int .i64 c)) (h3 : W.cell? ⟨g, 3, none⟩ = some (.int .i64 d)) :
    Calls Tryz.prog 98 #[.slice (some ⟨g, 0, none⟩) 4 4] W fun e w' => e = .returned (.int .i64 (YV [a, b, c, d])) ∧ w' = W := by
  go_enter Tryz.func98, Tryz.ntmps98
  go_wp2
  refine wp_loop_rounds 5 ?_
  rw [rounds_succ]
  go_wp2
  · rename_i hx
    have hx : a ≠ 0 := by simpa using hx
    go_ret
    exact ⟨by simp only [YV]; rw [if_pos hx]; rfl, rfl⟩
  rename_i ha
  have ha : a = 0 := by simpa using ha
  rw [rounds_succ]
  go_wp2
  · rename_i hx
    have hx : b ≠ 0 := by simpa using hx
    go_ret
    exact ⟨by simp only [YV]; rw [if_neg (by omega)]; rw [if_pos hx]; rfl, rfl⟩
  rename_i hb
  have hb : b = 0 := by simpa using hb
  rw [rounds_succ]
  go_wp2
  · rename_i hx
    have hx : c ≠ 0 := by simpa using hx
    go_ret
    exact ⟨by simp only [YV]; rw [if_neg (by omega)]; rw [if_neg (by omega)]; rw [if_pos hx]; rfl, rfl⟩
  rename_i hc
  have hc : c = 0 := by simpa using hc
  rw [rounds_succ]
  go_wp2
  · rename_i hx
    have hx : d ≠ 0 := by simpa using hx
    go_ret
    exact ⟨by simp only [YV]; rw [if_neg (by omega)]; rw [if_neg (by omega)]; rw [if_neg (by omega)]; rw [if_pos hx]; rfl, rfl⟩
  rename_i hd
  have hd : d = 0 := by simpa using hd
  rw [rounds_succ]
  go_wp2
  go_ret
  exact ⟨by simp only [YV]; rw [if_neg (by omega), if_neg (by omega), if_neg (by omega), if_neg (by omega)]; rfl, rfl⟩
structure BrM where
  f : Int
  k : Int
  u : Int
  v : Int
  A : Option Addr
  n : Nat
  cap : Nat
deriving Inhabited
def brF (x : BrM) : List Value := [.int .i64 x.f, .int .i64 x.k, .int .i64 x.u, .int .i64 x.v, .slice x.A x.n x.cap]
def cfBr (x y : BrM) : Int := YV [Lib.compareInt x.f y.f, Lib.compareInt x.k y.k, Lib.compareInt x.u y.u, Lib.compareInt x.v y.v]
set_option maxRecDepth 100000 in
set_option maxHeartbeats 4000000 in
theorem Yl0 (x y : BrM) (W : World) : Calls Tryz.prog 97 #[.agg #[.int .i64 x.f, .int .i64 x.k, .int .i64 x.u, .int .i64 x.v, .slice x.A x.n x.cap], .agg #[.int .i64 y.f, .int .i64 y.k, .int .i64 y.u, .int .i64 y.v, .slice y.A y.n y.cap]] W fun e w' => e = .returned (.int .i64 (cfBr x y)) ∧ ∃ q os', w' = grow (W.drewN q) os' := by
  have c1 := fun W' => Tryz.cmp_Compare_int x.f y.f W'
  have c2 := fun W' => Tryz.cmp_Compare_int x.k y.k W'
  have c3 := fun W' => Tryz.cmp_Compare_int x.u y.u W'
  have c4 := fun W' => Tryz.cmp_Compare_int x.v y.v W'
  unfold cfBr
  generalize Lib.compareInt x.f y.f = r1 at c1 ⊢
  generalize Lib.compareInt x.k y.k = r2 at c2 ⊢
  generalize Lib.compareInt x.u y.u = r3 at c3 ⊢
  generalize Lib.compareInt x.v y.v = r4 at c4 ⊢
  go_enter Tryz.func97, Tryz.ntmps97
  go_wp2
  generalize hw1 : (W.alloc (.cells #[.int .i64 x.f, .int .i64 x.k, .int .i64 x.u, .int .i64 x.v, .slice x.A x.n x.cap] 96)).alloc (.cells #[.int .i64 y.f, .int .i64 y.k, .int .i64 y.u, .int .i64 y.v, .slice y.A y.n y.cap] 96) = w1
  have hg : grow W #[.cells #[.int .i64 x.f, .int .i64 x.k, .int .i64 x.u, .int .i64 x.v, .slice x.A x.n x.cap] 96 (0, 0), .cells #[.int .i64 y.f, .int .i64 y.k, .int .i64 y.u, .int .i64 y.v, .slice y.A y.n y.cap] 96 (0, 0)] = w1 := by
    rw [← hw1, alloc_eq_grow, alloc_eq_grow, grow_grow]; rfl
  have x0 : w1.drew.cell? ⟨W.heap.size, 0, none⟩ = some (.int .i64 x.f) := by rw [← hw1]; simp
  have x1 : w1.drew.cell? ⟨W.heap.size, 1, none⟩ = some (.int .i64 x.k) := by rw [← hw1]; simp
  have x2 : w1.drew.cell? ⟨W.heap.size, 2, none⟩ = some (.int .i64 x.u) := by rw [← hw1]; simp
  have x3 : w1.drew.cell? ⟨W.heap.size, 3, none⟩ = some (.int .i64 x.v) := by rw [← hw1]; simp
  have y0 : w1.drew.cell? ⟨W.heap.size + 1, 0, none⟩ = some (.int .i64 y.f) := by rw [← hw1]; simp
  have y1 : w1.drew.cell? ⟨W.heap.size + 1, 1, none⟩ = some (.int .i64 y.k) := by rw [← hw1]; simp
  have y2 : w1.drew.cell? ⟨W.heap.size + 1, 2, none⟩ = some (.int .i64 y.u) := by rw [← hw1]; simp
  have y3 : w1.drew.cell? ⟨W.heap.size + 1, 3, none⟩ = some (.int .i64 y.v) := by rw [← hw1]; simp
  refine wp_region_still_tail 20 (by kernel_rfl) (by kernel_rfl) ?_
  have e9 : ({ w1 with drawn := w1.drawn + 1 } : World) = w1.drew := rfl
  rw [e9]
  clear e9
  generalize hw2 : w1.drew = w2 at x0 x1 x2 x3 y0 y1 y2 y3 ⊢
  simp only [List.take_succ_cons, List.take_zero, List.drop_succ_cons, List.drop_zero]
  repeat still_step
  still_call (c1 _)
  repeat still_step
  still_call (c2 _)
  repeat still_step
  still_call (c3 _)
  repeat still_step
  still_call (c4 _)
  refine wpStill_nil ?_
  clear c1 c2 c3 c4
  have hor : Calls Tryz.prog 98 #[.slice (some ⟨w2.heap.size, 0, none⟩) 4 4] (w2.alloc (.cells #[.int .i64 r1, .int .i64 r2, .int .i64 r3, .int .i64 r4] 3)) fun e w' => e = .returned (.int .i64 (YV [r1, r2, r3, r4])) ∧ w' = w2.alloc (.cells #[.int .i64 r1, .int .i64 r2, .int .i64 r3, .int .i64 r4] 3) :=
    Ykv r1 r2 r3 r4 w2.heap.size _ (by simp) (by simp) (by simp) (by simp)
  generalize YV [r1, r2, r3, r4] = r at hor ⊢
  clear x0 x1 x2 x3 y0 y1 y2 y3
  go_wp2_with (go_at_call 98; refine hor.mono ?_; rintro e w' ⟨rfl, rfl⟩)
  go_ret
  refine ⟨by first | rfl | kernel_rfl | simp, 1, #[.cells #[.int .i64 x.f, .int .i64 x.k, .int .i64 x.u, .int .i64 x.v, .slice x.A x.n x.cap] 96 (0, 0), .cells #[.int .i64 y.f, .int .i64 y.k, .int .i64 y.u, .int .i64 y.v, .slice y.A y.n y.cap] 96 (0, 0), .cells #[.int .i64 r1, .int .i64 r2, .int .i64 r3, .int .i64 r4] 3 (0, 0)], ?_⟩
  rw [← hw2, ← hw1, alloc_eq_grow]
  rfl
open Go.RowKit Go.Eng Go.Nw Go.Rt Go.Sort Go.Shelf Go.Proofs
def Yan (x y : BrM) : Prop := x.f < y.f ∨ x.f = y.f ∧ (x.k < y.k ∨ x.k = y.k ∧ (x.u < y.u ∨ x.u = y.u ∧ x.v < y.v))
instance (x y : BrM) : Decidable (Yan x y) := by unfold Yan; exact inferInstance
theorem YgF (a b : Int) (l : List Int) : YV (Lib.compareInt a b :: l) < 0 ↔ a < b ∨ (a = b ∧ YV l < 0) := by
  rw [YV]
  unfold Lib.compareInt
  by_cases h1 : a < b
  · simp [h1]
  · by_cases h2 : a > b
    · simp [h1, h2]; omega
    · have : a = b := by omega
      simp [h1, h2, this]
theorem ltBr (x y : BrM) : ltOf cfBr x y = decide (Yan x y) := by
  rw [Bool.eq_iff_iff]
  unfold ltOf
  rw [decide_eq_true_eq, decide_eq_true_eq]
  unfold cfBr Yan
  rw [YgF, YgF, YgF, YgF]
  have : ¬ YV [] < 0 := by decide
  constructor
  · rintro (h | ⟨h1, h | ⟨h2, h | ⟨h3, h | ⟨h4, h5⟩⟩⟩⟩)
    · exact .inl h
    · exact .inr ⟨h1, .inl h⟩
    · exact .inr ⟨h1, .inr ⟨h2, .inl h⟩⟩
    · exact .inr ⟨h1, .inr ⟨h2, .inr ⟨h3, h⟩⟩⟩
    · exact absurd h5 this
  · rintro (h | ⟨h1, h | ⟨h2, h | ⟨h3, h4⟩⟩⟩)
    · exact .inl h
    · exact .inr ⟨h1, .inl h⟩
    · exact .inr ⟨h1, .inr ⟨h2, .inl h⟩⟩
    · exact .inr ⟨h1, .inr ⟨h2, .inr ⟨h3, .inl h4⟩⟩⟩
theorem YmC : SWO (ltOf cfBr) where
  irrefl x := by rw [ltBr, decide_eq_false_iff_not]; unfold Yan; omega
  trans x y z h1 h2 := by rw [ltBr, decide_eq_true_eq] at *; unfold Yan at *; omega
  ntrans x y z h1 h2 := by rw [ltBr, decide_eq_false_iff_not] at *; unfold Yan at *; omega
abbrev brP (A : Option Addr) (cap : Nat) (l : List BrM) : HP := sl 96 5 A l.length cap (l.flatMap brF)
theorem YeQ (l : List BrM) (hl : l.length ≤ 100000000) {A : Option Addr} {cap B : Nat} {w0 : World} {H H0 : List HP} {w : World} (hin : ∀ w, St B w0 H0 w → St B w0 (brP A cap l :: H) w) (hw : St B w0 H0 w) :
    Calls Tryz.prog 96 [.slice A l.length cap, .func (.func 97) #[] #[]].toArray w (Post B w0 fun v K => v = .tuple #[] ∧ ∃ l', l'.Perm l ∧ K = brP A cap l' :: H) := by
  have hw := hin w hw
  by_cases h0 : l.length = 0
  · rw [h0]
    refine (AnyF.slices_SortFunc_none Tryz.sortBrs A cap (.func (.func 97) #[] #[]) w).mono ?_
    rintro e w' ⟨rfl, rfl⟩
    exact ⟨_, _, rfl, hw, rfl, l, List.Perm.refl _, rfl⟩
  have ho := hw.sl (List.mem_cons_self)
  obtain ⟨g, rfl⟩ : ∃ g, A = some ⟨g, 0, none⟩ := by
    rcases ho.2 with ⟨h1, h2⟩ | ⟨g, c, cur, h1, h2, h3, h4, h5, h6, h7⟩
    · omega
    · injection h1 with e1 e2 e3
      exact ⟨g, e1⟩
  obtain ⟨hH, hg, hst⟩ := Ycd (enc := brF) (fun _ => rfl) (by decide) (Nat.zero_le _) hw
  have eg : ∀ args w, (callFunc 97 args).run Tryz.prog w = .ok (.enter 97 args) w := en97
  rw [List.drop_zero, Nat.zero_mul] at hH
  have hsz : l.toArray.size = l.length := by simp
  have hcon := AnyQ.slices_SortFunc Tryz.sortBrs 5 Tryz.isAgg96 Tryz.sizeOf96 brF (fun _ => rfl) (fun x v hv => by simp [brF] at hv; rcases hv with rfl | rfl | rfl | rfl | rfl <;> rfl) cfBr YmC 97 #[] g 0 cap l.toArray w eg (fun _ _ _ _ x y => Yl0 x y _) hH hg (by rw [hsz]; omega)
  rw [hsz] at hcon
  refine hcon.mono ?_
  rintro e w' ⟨rfl, d', n, os, hp, _, rfl⟩
  have hp : d'.toList.Perm l := Yay (d := l.toArray) (by rw [hsz]; exact hp)
  have h5 := hst d'.toList n os (by rw [hp.length_eq]; rfl)
  rw [Array.toArray_toList, Nat.zero_mul, List.take_zero, List.nil_append] at h5
  refine ⟨_, _, rfl, h5, rfl, d'.toList, hp, ?_⟩
  unfold brP
  rw [hp.length_eq]
open Go.RowKit Go.Eng Go.Nw Go.Rt
theorem YjB {r : List Int} : U8 r = false ↔ r.Nodup := by
  unfold U8
  rw [List.any_eq_false]
  constructor
  · intro h
    refine List.pairwise_iff_getElem.2 fun i j hi hj hij e => ?_
    have h1 := h j (List.mem_range.2 hj)
    apply h1
    rw [List.contains_iff_mem, List.getD_eq_getElem?_getD, List.getElem?_eq_getElem hj, Option.getD_some, ← e]
    refine List.mem_iff_getElem?.2 ⟨i, ?_⟩
    rw [List.getElem?_take_of_lt hij, List.getElem?_eq_getElem hi]
  · intro h i hi hc
    have hi := List.mem_range.1 hi
    rw [List.contains_iff_mem, List.getD_eq_getElem?_getD, List.getElem?_eq_getElem hi, Option.getD_some] at hc
    obtain ⟨k, hk⟩ := List.mem_iff_getElem?.1 hc
    have hki : k < i := by
      have := (List.getElem?_eq_some_iff.1 hk).1
      rw [List.length_take] at this
      omega
    rw [List.getElem?_take_of_lt hki] at hk
    obtain ⟨h1, h2⟩ := List.getElem?_eq_some_iff.1 hk
    exact List.pairwise_iff_getElem.1 h k i h1 hi hki h2
theorem QL {n : Net} {b : Int} {r : List Int} (hl : r.getD (r.length - 1) 0 = b) (hnd : r.Nodup) (hk : ∀ i, i + 1 < r.length → (X0 n r i).1 = r.getD i 0 ∧ (X0 n r i).2.1 = r.getD (i + 1) 0) : ∀ (m i : Nat), i + m + 1 = r.length →
    Yde b (r.getD i 0) ((List.range' i m).map (X0 n r))
  | 0, i, h => by
    show r.getD i 0 = b
    rw [← hl, show r.length - 1 = i by omega]
  | m + 1, i, h => by
    rw [List.range'_succ, List.map_cons]
    obtain ⟨h1, h2⟩ := hk i (by omega)
    refine ⟨h1.symm, fun e => ?_, ?_⟩
    · rw [← hl] at e
      rw [List.getD_eq_getElem?_getD, List.getD_eq_getElem?_getD, List.getElem?_eq_getElem (show i < r.length by omega), List.getElem?_eq_getElem (show r.length - 1 < r.length by omega)] at e
      exact List.pairwise_iff_getElem.1 hnd i (r.length - 1) (by omega) (by omega) (by omega) (Option.some.inj (by simpa using e))
    · rw [h2]
      exact QL hl hnd hk m (i + 1) (by omega)
theorem OJ {n : Net} {a b : Int} {r : List Int} (h : XQ n a b r = 0) : Yde b a (YB n r) ∧ (∀ x ∈ YB n r, 0 ≤ x.2.2) ∧ YB n r ≠ [] ∧ r.Nodup ∧
    ∀ i, i + 1 < r.length → (X0 n r i).1 = r.getD i 0 ∧ (X0 n r i).2.1 = r.getD (i + 1) 0 := by
  have h' := h
  unfold XQ at h
  by_cases h0 : Wo n a b = 0
  rotate_left
  · rw [if_pos h0] at h; exact absurd h h0
  rw [if_neg (fun e => e h0)] at h
  obtain ⟨hlen, -, ⟨hs, ht⟩, htw, -⟩ := Yd9 h
  obtain ⟨hck, -, hg⟩ := Vd h'
  have hok := Xe hck
  have hnd := YjB.1 htw
  have hk : ∀ i, i + 1 < r.length → (X0 n r i).1 = r.getD i 0 ∧ (X0 n r i).2.1 = r.getD (i + 1) 0 := fun i hi => V8 (Ux (hg i hi))
  refine ⟨?_, fun x hx => ?_, ?_, hnd, hk⟩
  · have := QL ht hnd hk (r.length - 1) 0 (by omega)
    rw [hs] at this
    unfold YB
    rw [List.range_eq_range']
    exact this
  · unfold YB at hx
    obtain ⟨i, hi, rfl⟩ := List.mem_map.1 hx
    have hi := List.mem_range.1 hi
    exact (Ykk hok (r.getD i 0) (r.getD (i + 1) 0)).1
  · intro e
    have := congrArg List.length e
    unfold YB at this
    simp at this
    omega
open Go.RowKit Go.Eng Go.Nw Go.Rt
def keyA (a : AttM) : List Int := [Xo a.c, a.frame, Yz a.c, toC a.c]
def runO : List Int → Nat → Nat
  | [], r => r
  | o :: os, r => if o = 1 then runO os 0 else runO os (r + 1)
theorem Od (o : Int) : ∀ (os : List Int) (r : Nat), runO (os ++ [o]) r = if o = 1 then 0 else runO os r + 1
  | [], r => by simp only [List.nil_append, runO]
  | x :: os, r => by
    simp only [List.cons_append, runO, Od o os]
    by_cases h : x = 1
    · rw [if_pos h, if_pos h]
    · rw [if_neg h, if_neg h]
theorem QH (loss o : Int) : ∀ (os : List Int) (r : Nat), brO loss (os ++ [o]) r = (brO loss os r || (decide (o ≠ 1) && decide (loss < (runO os r : Nat) + 1)))
  | [], r => by
    simp only [List.nil_append, brO, runO, Bool.false_or]
    by_cases h : o = 1
    · simp [h]
    · by_cases h2 : loss < (r : Int) + 1 <;> simp [h, h2]
  | x :: os, r => by
    simp only [List.cons_append, brO, runO, QH loss o os]
    by_cases h : x = 1
    · simp only [if_pos h]
    · simp only [if_neg h]
      by_cases h2 : loss < (r : Int) + 1
      · simp only [if_pos h2, Bool.true_or]
      · simp only [if_neg h2]
def osK (al : List AttM) (K : List Int) : List Int := (al.filter fun a => keyA a == K).map AttM.o
theorem Yja (al : List AttM) (id k u v : Int) : osK al [id, k, u, v] = (keyL al id k u v).map AttM.o := by
  unfold osK keyL
  congr 2
  funext a
  unfold keyA onK
  rw [Bool.eq_iff_iff]
  simp [and_assoc]
theorem Yax (al : List AttM) (a : AttM) (K : List Int) : osK (al ++ [a]) K = if keyA a = K then osK al K ++ [a.o] else osK al K := by
  unfold osK
  rw [List.filter_append]
  by_cases h : keyA a = K <;> simp [h]
def BrI (loss : List Int → Option Int) (al : List AttM) (rows : List Int → Nat) (found : List Int → Bool) : Prop :=
  ∀ K b, loss K = some b → found K = true ∨ (brO b (osK al K) 0 = false ∧ rows K = runO (osK al K) 0)
theorem BrI.start (loss : List Int → Option Int) : BrI loss [] (fun _ => 0) (fun _ => false) := fun _ _ _ => .inr ⟨rfl, rfl⟩
theorem BrI.skip {loss : List Int → Option Int} {al : List AttM} {rows : List Int → Nat} {found : List Int → Bool} (h : BrI loss al rows found) {a : AttM} (ha : loss (keyA a) = none ∨ found (keyA a) = true) : BrI loss (al ++ [a]) rows found := fun K b hb => by
  by_cases e : keyA a = K
  · rcases ha with ha | ha
    · rw [e, hb] at ha; cases ha
    · exact .inl (e ▸ ha)
  · rw [Yax, if_neg e]
    exact h K b hb
theorem BrI.acked {loss : List Int → Option Int} {al : List AttM} {rows rows' : List Int → Nat} {found : List Int → Bool} (h : BrI loss al rows found) {a : AttM} (ha : a.o = 1) (h1 : rows' (keyA a) = 0) (h2 : ∀ K, K ≠ keyA a → rows' K = rows K) : BrI loss (al ++ [a]) rows' found := fun K b hb => by
  rw [Yax]
  by_cases e : keyA a = K
  · rw [if_pos e]
    rcases h K b hb with h3 | ⟨h3, _⟩
    · exact .inl h3
    · right
      rw [QH, Od, if_pos ha, h3, ha, ← e]
      exact ⟨rfl, h1⟩
  · rw [if_neg e, h2 K (Ne.symm e)]
    exact h K b hb
theorem BrI.lost {loss : List Int → Option Int} {al : List AttM} {rows rows' : List Int → Nat} {found found' : List Int → Bool} (h : BrI loss al rows found) {a : AttM} {b : Int} (hb : loss (keyA a) = some b) (ha : a.o ≠ 1) (h1 : rows' (keyA a) = rows (keyA a) + 1) (h2 : ∀ K, K ≠ keyA a → rows' K = rows K)
    (h3 : b < (rows (keyA a) : Nat) + 1 → found' (keyA a) = true) (h4 : ∀ K, found K = true → found' K = true) : BrI loss (al ++ [a]) rows' found' := fun K b' hb' => by
  rw [Yax]
  by_cases e : keyA a = K
  · subst e
    rw [if_pos rfl]
    rw [hb] at hb'
    cases hb'
    rcases h _ b hb with h5 | ⟨h5, h6⟩
    · exact .inl (h4 _ h5)
    · by_cases h7 : b < (rows (keyA a) : Nat) + 1
      · exact .inl (h3 h7)
      · right
        rw [QH, Od, if_neg ha, h5, h1, h6]
        refine ⟨?_, rfl⟩
        rw [h6] at h7
        rw [decide_eq_false h7, Bool.and_false, Bool.or_false]
  · rw [if_neg e, h2 K (Ne.symm e)]
    rcases h K b' hb' with h5 | h5
    · exact .inl (h4 K h5)
    · exact .inr h5
theorem BrI.all {loss : List Int → Option Int} {al : List AttM} {rows : List Int → Nat} {found : List Int → Bool} (h : BrI loss al rows found) {K : List Int} {b : Int} (hb : loss K = some b) (hbr : brO b (osK al K) 0 = true) : found K = true := by
  rcases h K b hb with h | ⟨h, _⟩
  · exact h
  · rw [hbr] at h; cases h
open Go.RowKit Go.Eng Go.Nw Go.Rt
structure RwM where
  key : KL
  A : Option Addr
  cap : Nat
  xs : List Int
  born : Nat
def rwP (r : RwM) : KL × Value × Nat := (r.key, .slice r.A r.xs.length r.cap, r.born)
abbrev rwV (R : List RwM) : YM := R.map rwP
def rwQ (r : RwM) : HP := nrs r.A r.cap r.xs
def Uk (R : List RwM) (K : KL) : Nat := ((R.find? fun r => r.key == K).map (·.xs.length)).getD 0
def Q8 (F : YM) (K : KL) : Bool := (vget F K).isSome
inductive Up (R : List RwM) (cR : Nat) (k : KL) : List RwM → Option Addr → Nat → List Int → Nat → List RwM → Nat → Prop
  | old (l1 : List RwM) (A : Option Addr) (cap : Nat) (xs : List Int) (b : Nat) (l2 : List RwM) (h : R = l1 ++ ⟨k, A, cap, xs, b⟩ :: l2) (hn : ∀ r ∈ l1, r.key ≠ k) : Up R cR k l1 A cap xs b l2 cR
  | new (hn : ∀ r ∈ R, r.key ≠ k) : Up R cR k R none 0 [] cR [] (cR + 1)
theorem YmD (R : List RwM) (cR : Nat) (k : KL) : ∃ l1 A cap xs b l2 c', Up R cR k l1 A cap xs b l2 c' := by
  by_cases h : ∃ r ∈ R, r.key = k
  · have : ∃ l1 r l2, R = l1 ++ r :: l2 ∧ r.key = k ∧ ∀ r ∈ l1, r.key ≠ k := by
      clear cR
      induction R with
      | nil => obtain ⟨r, hr, _⟩ := h; cases hr
      | cons a R ih =>
        by_cases ha : a.key = k
        · exact ⟨[], a, R, rfl, ha, fun r hr => by cases hr⟩
        · obtain ⟨r, hr, e⟩ := h
          rcases List.mem_cons.1 hr with rfl | hr
          · exact absurd e ha
          · obtain ⟨l1, r2, l2, e1, e2, e3⟩ := ih ⟨r, hr, e⟩
            exact ⟨a :: l1, r2, l2, by rw [e1]; rfl, e2, fun y hy => by
              rcases List.mem_cons.1 hy with rfl | hy
              · exact ha
              · exact e3 y hy⟩
    obtain ⟨l1, ⟨k', A, cap, xs, b⟩, l2, e1, e2, e3⟩ := this
    obtain rfl : k' = k := e2
    exact ⟨l1, A, cap, xs, b, l2, cR, .old _ _ _ _ _ _ e1 e3⟩
  · exact ⟨R, none, 0, [], cR, [], cR + 1, .new fun r hr e => h ⟨r, hr, e⟩⟩
theorem Up.ne {R : List RwM} {cR : Nat} {k : KL} {l1 : List RwM} {A : Option Addr} {cap : Nat} {xs : List Int} {b : Nat} {l2 : List RwM} {c' : Nat} (h : Up R cR k l1 A cap xs b l2 c') : ∀ r ∈ l1, r.key ≠ k := by
  cases h with
  | old _ _ _ _ _ _ _ hn => exact hn
  | new hn => exact hn
theorem XL (l1 l2 : List RwM) (k : KL) (A : Option Addr) (cap : Nat) (xs : List Int) (b : Nat) : rwV (l1 ++ ⟨k, A, cap, xs, b⟩ :: l2) = rwV l1 ++ (k, .slice A xs.length cap, b) :: rwV l2 := by
  unfold rwV; rw [List.map_append, List.map_cons]; rfl
theorem Up.ok {R : List RwM} {cR : Nat} {k : KL} {l1 : List RwM} {A : Option Addr} {cap : Nat} {xs : List Int} {b : Nat} {l2 : List RwM} {c' : Nat} (h : Up R cR k l1 A cap xs b l2 c') (lk : k.length = 4) (hok : VOk 4 (rwV R) cR) (v : Value) : VOk 4 (rwV l1 ++ (k, v, b) :: rwV l2) c' := by
  cases h with
  | old _ _ _ _ _ _ e hn =>
    subst e
    rw [XL] at hok
    exact hok.set v
  | new hn => exact hok.snoc lk v
theorem Up.nek {R : List RwM} {cR : Nat} {k : KL} {l1 : List RwM} {A : Option Addr} {cap : Nat} {xs : List Int} {b : Nat} {l2 : List RwM} {c' : Nat} (h : Up R cR k l1 A cap xs b l2 c') : ∀ e ∈ rwV l1, e.1 ≠ k := fun e he => by
  obtain ⟨r, hr, rfl⟩ := List.mem_map.1 he
  exact h.ne r hr
theorem YjD {l1 l2 : YM} {k : KL} {v : Value} {b : Nat} (h : ∀ e ∈ l1, e.1 ≠ k) : vget (l1 ++ (k, v, b) :: l2) k = some v := by
  unfold vget
  rw [List.find?_append, List.find?_eq_none.2 (fun e he => by simpa using h e he)]
  simp
theorem Vy {l1 l2 : List RwM} {k : KL} {A : Option Addr} {cap : Nat} {xs : List Int} {b : Nat} (h : ∀ r ∈ l1, r.key ≠ k) : Uk (l1 ++ ⟨k, A, cap, xs, b⟩ :: l2) k = xs.length := by
  unfold Uk
  rw [List.find?_append, List.find?_eq_none.2 (fun e he => by simpa using h e he)]
  simp
theorem YfO {l1 l2 : List RwM} {k K : KL} {A A' : Option Addr} {cap cap' : Nat} {xs xs' : List Int} {b b' : Nat} (hK : K ≠ k) : Uk (l1 ++ ⟨k, A, cap, xs, b⟩ :: l2) K = Uk (l1 ++ ⟨k, A', cap', xs', b'⟩ :: l2) K := by
  unfold Uk
  rw [List.find?_append, List.find?_append, List.find?_cons, List.find?_cons]
  have : (k == K) = false := by simpa using Ne.symm hK
  simp only [this]
theorem Up.get {R : List RwM} {cR : Nat} {k : KL} {l1 : List RwM} {A : Option Addr} {cap : Nat} {xs : List Int} {b : Nat} {l2 : List RwM} {c' : Nat} (h : Up R cR k l1 A cap xs b l2 c') : Uk R k = xs.length := by
  cases h with
  | old _ _ _ _ _ _ e hn => subst e; exact Vy hn
  | new hn =>
    unfold Uk
    rw [List.find?_eq_none.2 (fun e he => by simpa using hn e he)]
    rfl
theorem Up.other {R : List RwM} {cR : Nat} {k : KL} {l1 : List RwM} {A : Option Addr} {cap : Nat} {xs : List Int} {b : Nat} {l2 : List RwM} {c' : Nat} (h : Up R cR k l1 A cap xs b l2 c') (A' : Option Addr) (cap' : Nat) (xs' : List Int) : ∀ K, K ≠ k → Uk (l1 ++ ⟨k, A', cap', xs', b⟩ :: l2) K = Uk R K := fun K hK => by
  cases h with
  | old _ _ _ _ _ _ e hn => subst e; exact YfO hK
  | new hn =>
    unfold Uk
    rw [List.find?_append, List.find?_cons]
    have : (k == K) = false := by simpa using Ne.symm hK
    simp only [this, List.find?_nil, Option.or_none]
theorem Up.lens {R : List RwM} {cR : Nat} {k : KL} {l1 : List RwM} {A : Option Addr} {cap : Nat} {xs : List Int} {b : Nat} {l2 : List RwM} {c' : Nat} (h : Up R cR k l1 A cap xs b l2 c') {j : Nat} (hj : ∀ r ∈ R, r.xs.length ≤ j) : xs.length ≤ j ∧ ∀ (A' : Option Addr) (cap' : Nat) (xs' : List Int), xs'.length ≤ j + 1 → ∀ r ∈ l1 ++ ⟨k, A', cap', xs', b⟩ :: l2, r.xs.length ≤ j + 1 := by
  have h1 : (∀ r ∈ l1, r.xs.length ≤ j) ∧ (∀ r ∈ l2, r.xs.length ≤ j) ∧ xs.length ≤ j := by
    cases h with
    | old _ _ _ _ _ _ e hn =>
      subst e
      exact ⟨fun r hr => hj r (by simp [hr]), fun r hr => hj r (by simp [hr]), hj ⟨k, A, cap, xs, b⟩ (by simp)⟩
    | new hn => exact ⟨hj, (fun r hr => by cases hr), Nat.zero_le _⟩
  refine ⟨h1.2.2, fun A' cap' xs' hx r hr => ?_⟩
  rcases List.mem_append.1 hr with hr | hr
  · have := h1.1 r hr; omega
  · rcases List.mem_cons.1 hr with rfl | hr
    · exact hx
    · have := h1.2.1 r hr; omega
theorem Up.open_ {R : List RwM} {cR : Nat} {k : KL} {l1 : List RwM} {A : Option Addr} {cap : Nat} {xs : List Int} {b : Nat} {l2 : List RwM} {c' : Nat} (h : Up R cR k l1 A cap xs b l2 c') {B : Nat} {w0 : World} {H : List HP} {w : World} (hw : St B w0 (many (R.map rwQ) :: H) w) : St B w0 (nrs A cap xs :: many (l1.map rwQ ++ l2.map rwQ) :: H) w := by
  cases h with
  | old _ _ _ _ _ _ e hn =>
    subst e
    rw [List.map_append, List.map_cons] at hw
    exact hw.perm (.pull _ _ _ _)
  | new hn =>
    rw [List.map_nil, List.append_nil]
    exact hw.nilSlice _ _
theorem YaJ {l1 l2 : List RwM} (k : KL) (A : Option Addr) (cap : Nat) (xs : List Int) (b : Nat) (H : List HP) : Perm (nrs A cap xs :: many (l1.map rwQ ++ l2.map rwQ) :: H) (many ((l1 ++ ⟨k, A, cap, xs, b⟩ :: l2).map rwQ) :: H) := by
  rw [List.map_append, List.map_cons]
  exact .push _ _ _ _
theorem VOk.nodup {N ct : Nat} {es : YM} (h : VOk N es ct) : (es.map (·.2.2)).Nodup := List.pairwise_map.2 h.ne
theorem YfV {es : YM} {seen : Array Nat} {e : KL × Value × Nat} (he : e ∈ es) (hs : seen.contains e.2.2 = false) : (es.filter fun x => !(seen.push e.2.2).contains x.2.2).length < (es.filter fun x => !seen.contains x.2.2).length := by
  have h1 : (es.filter fun x => !(seen.push e.2.2).contains x.2.2) = (es.filter fun x => !seen.contains x.2.2).filter fun x => !(x.2.2 == e.2.2) := by
    rw [List.filter_filter]
    congr 1
    funext x
    rw [Array.contains_push]
    cases seen.contains x.2.2 <;> cases x.2.2 == e.2.2 <;> rfl
  rw [h1]
  refine List.length_filter_lt_length_iff_exists.2 ⟨e, List.mem_filter.2 ⟨he, by rw [hs]; rfl⟩, by simp⟩
theorem Yg9 {es : YM} (hn : (es.map fun e => e.2.2).Nodup) {x y : KL × Value × Nat} (hx : x ∈ es) (hy : y ∈ es) (e : x.2.2 = y.2.2) : x = y := by
  induction es with
  | nil => cases hx
  | cons a l ih =>
    rw [List.map_cons, List.nodup_cons] at hn
    rcases List.mem_cons.1 hx with h1 | h1 <;> rcases List.mem_cons.1 hy with h2 | h2
    · rw [h1, h2]
    · exact absurd (List.mem_map.2 ⟨y, h2, by rw [← e, h1]⟩) hn.1
    · exact absurd (List.mem_map.2 ⟨x, h1, by rw [e, h2]⟩) hn.1
    · exact ih hn.2 h1 h2
def OK (n : Net) : KL → Option Int
  | [_, _, u, v] => if 0 ≤ YC n u v then some (lnk n (YC n u v).toNat).2.2 else none
  | _ => none
section
variable {P : Program} {n : Shp} {B : Nat} {w0 : World} {Q : Exit → Act → World → Prop} {env : Env} {H : List HP} {m : Eng.Mode} {ops : Array Oper} {rest : List Oper} {d : Nat} {ty : TypeId} {pos : String} {after : Array Edge}
theorem Ut {xt yt : TypeId} {x : Operand} {A : Option Addr} {k cap : Nat} (hx : evo env x = some (.slice A k cap)) (hn : Nat.ble (d + 1) n.k = true) (hu : isSl P xt = true)
    (h : VL P m n B w0 ops Q rest ((d, .bool (!A.isNone)) :: env) H) : VL P m n B w0 ops Q (⟨some d, .binOp .neq xt x (.const (.slice none 0 0)) yt, ty, pos, after, none⟩ :: rest) env H := by
  obtain ⟨e, hu⟩ := YbW hu
  refine YK hx (y := .const (.slice none 0 0)) rfl hn (fun w => by simp [eqGuard]) (fun w => ?_) h
  simp only [binOp, Op.equal]
  rw [Sem.run_bind, show Op.maxDepth = 9999 + 1 from rfl]
  unfold Op.equalIn
  cases A <;> simp [run_underlying hu]
theorem YjY {R : List RwM} {cR : Nat} {k : KL} {l1 : List RwM} {A : Option Addr} {cap : Nat} {xs : List Int} {b : Nat} {l2 : List RwM} {c' : Nat} (hU : Up R cR k l1 A cap xs b l2 c') {t kt et : TypeId} {g : Nat} {x y u : Operand} {v : Value} {K : List HP} (hx : evo env x = some (.map (some g))) (hy : evo env y = some (kv k)) (hv : evo env u = some v) (ht : Jw P t kt et 4 = true) (lk : k.length = 4) (hok : VOk 4 (rwV R) cR)
    (hu : Upd (blk g (vobj (rwV R) cR)) (blk g (vobj (rwV l1 ++ (k, v, b) :: rwV l2) c')) H K) (h : VL P none n B w0 ops Q rest env K) : VL P none n B w0 ops Q (⟨none, .mapUpdate t x y u, ty, pos, after, none⟩ :: rest) env H := by
  have hne := hU.nek
  cases hU with
  | old _ _ _ _ _ _ e hn =>
    subst e
    rw [XL] at hu hok
    exact Yff k hx hy hv ht lk (fun e he => hok.len e (by simp [he])) hu hne h
  | new hn =>
    refine UT k hx hy hv ht lk hok.len hu ?_ h
    unfold vget
    rw [List.find?_eq_none.2 (fun e he => by simpa using hne e he)]
    rfl
theorem Qz {R : List RwM} {cR : Nat} {k : KL} {l1 : List RwM} {A : Option Addr} {cap : Nat} {xs : List Int} {b : Nat} {l2 : List RwM} {c' : Nat} (hU : Up R cR k l1 A cap xs b l2 c') {t kt et : TypeId} {g : Nat} {x y : Operand} {K : List HP} (hx : evo env x = some (.map (some g))) (hy : evo env y = some (kv k)) (ht : Jw P t kt et 4 = true) (lk : k.length = 4) (hok : VOk 4 (rwV R) cR) (hn : Nat.ble (d + 1) n.k = true) (hz : ∀ w, (zeroValue et).run P w = .ok (.slice none 0 0) w)
    (hu : Upd (blk g (vobj (rwV R) cR)) (blk g (vobj (rwV l1 ++ (k, .slice A xs.length cap, b) :: rwV l2) c')) H K) (h : VL P none n B w0 ops Q rest ((d, .tuple #[.slice A xs.length cap, goInt b]) :: env) K) : VL P none n B w0 ops Q (⟨some d, .mapEntry t x y, ty, pos, after, none⟩ :: rest) env H := by
  have hne := hU.nek
  cases hU with
  | old _ _ _ _ _ _ e hn =>
    subst e
    rw [XL] at hu hok
    exact Qy k hx hy ht lk (fun e he => hok.len e (by simp [he])) (by assumption) hu hne h
  | new hn =>
    refine Qx k hx hy ht lk hok.len (by assumption) hu ?_ hz h
    unfold vget
    rw [List.find?_eq_none.2 (fun e he => by simpa using hne e he)]
    rfl
theorem Yfe {g r clock since : Nat} {seen : Array Nat} {es : YM} {x : Operand} {a b c e : Int} {v : Value} {bb : Nat} (hx : evo env x = some (.pointer (some ⟨r, 0, none⟩))) (hm : blk g (vobj es clock) ∈ H) (hr : blk r (.mapIter (some g) since (seen.push bb) clock) ∈ H) (hn : Nat.ble (d + 1) n.k = true)
    (he : ([a, b, c, e], v, bb) ∈ es) (hnd : (es.map (·.2.2)).Nodup)
    (h : VL P none n B w0 ops Q rest ((d, .tuple #[.agg #[.int .i64 a, .int .i64 b, .int .i64 c, .int .i64 e], v]) :: env) H) : VL P none n B w0 ops Q (⟨some d, .entry x, ty, pos, after, none⟩ :: rest) env H :=
  YgX (e := ([a, b, c, e], v, bb)) hx hm hr hn he hnd h
end
open Go.RowKit Go.Eng Go.Nw Go.Rt
structure FOk (F : YM) (cF : Nat) : Prop where
  ok : VOk 4 F cF
  sl : ∀ e ∈ F, ∃ g n cap, e.2.1 = .slice (some ⟨g, 0, none⟩) n cap
theorem Ya1 (w : World) : (zeroValue 24).run Tryz.prog w = .ok (.slice none 0 0) w := by kernel_rfl
theorem Ycg {F : YM} {k : KL} {v : Value} {b : Nat} (h : vget F k = none) (K : KL) : vget (F ++ [(k, v, b)]) K = if K = k then some v else vget F K := by
  unfold vget at h ⊢
  rw [Option.map_eq_none_iff] at h
  rw [List.find?_append]
  by_cases e : K = k
  · subst e
    rw [h, if_pos rfl]
    simp
  · rw [if_neg e]
    cases List.find? (fun e => e.1 == K) F with
    | some x => rfl
    | none => simp [Ne.symm e]
set_option maxRecDepth 10000 in
set_option maxHeartbeats 8000000 in
theorem Ya8 (n : NetM) (atts : List AttM) (hat : atts.length ≤ 50000000) (dA : Option Addr) (dn dc : Nat) {tA : Option Addr} {tc B : Nat} {w0 : World} {H : List HP} {w : World} (hin : n.In B w0 H) (hr : Rd B w0 H tA (atts.flatMap attF)) (hw : St B w0 H w) :
    Calls Tryz.prog 39 [n.val, .agg #[.slice tA atts.length tc, .slice dA dn dc]].toArray w (Post B w0 fun v K => ∃ (out : List BrM) (A : Option Addr) (cap : Nat), v = .slice A out.length cap ∧ out.length ≤ 50000000 ∧ (YF n.net = 0 → ∀ (k : KL) b, OK n.net k = some b → brO b (osK atts k) 0 = true → ∃ x ∈ out, [x.f, x.k, x.u, x.v] = k) ∧ K = brP A cap out :: H) := by
  refine Yf Tryz.func39 Tryz.ntmps39 rfl rfl hw ?_
  have hop : ∀ w, St B w0 [many H] w → St B w0 H w := fun w hw => hw.perm (.openT H)
  have hin := hin.mono hop
  have hr := hr.mono hop
  refine VP [many H] (fun w hw => hw.perm (.closeT H)) ?_
  have p1 := fun {H' : List HP} {w : World} (hin : n.In B w0 H') (hw : St B w0 H' w) => YT n hin hw
  have p2 := fun (a b : Int) {H' : List HP} {w : World} (hin : n.In B w0 H') (hw : St B w0 H' w) => XZ n a b hin hw
  unfold NetM.val at p1 p2 ⊢
  repeat' (first | refine zgc ?_ | (refine zgh ?_; intro _) | fail)
  rename_i gn gr
  first | apply Ya en50 | apply Yb en50
  exact za
  exact rfl
  exact fun _ hw => (p1 (hin.mono zk) hw)
  by_cases hc : YF n.net = 0
  rotate_left
  · repeat' (first | refine zgb ?_ | (refine zge ?_ ?_ <;> intro _ <;> try (exfalso; omega)) | fail)
    apply Yk (brP none 0 [] :: H)
    · intro w hw
      have h5 : St B w0 [many H] w := by
        revert w
        exact zk
      exact (h5.perm (.openT H)).nilSlice _ _
    apply Yg; exact rfl; exact rfl
    exact ⟨[], none, 0, rfl, Nat.zero_le _, fun h => absurd h hc, rfl⟩
  have hix : ∀ a b, Zh n.net a b = YC n.net a b := fun a b => by unfold Zh; rw [if_neg (by rw [hc]; simp)]
  simp only [hix] at p2
  repeat' (first | (apply Ydu; exact rfl; intro _) | refine zgb ?_ | (refine zge ?_ ?_ <;> intro _ <;> try (exfalso; omega)) | fail)
  rename_i gR gF
  refine Yn (fun (z : Nat × List RwM × Nat × YM × Nat) => [(22, .int .i64 (z.1 : Nat)), (21, .int .i64 atts.length), (20, .slice tA atts.length tc), (2, .pointer (some ⟨gn, 0, none⟩)), (5, .map (some gR)), (6, .map (some gF))])
    (fun z => blk gR (vobj (rwV z.2.1) z.2.2.1) :: blk gF (vobj z.2.2.2.1 z.2.2.2.2) :: many (z.2.1.map rwQ) :: blk gn (.cells #[.int .i64 n.nodes, .slice n.pA n.rows.length n.pcap, .int .i64 n.noise, .int .i64 n.thr, .slice n.lA n.links.length n.lcap, .slice n.mA n.margin.length n.mcap] 26 (0, 0)) :: [many H])
    (fun z => z.1 ≤ atts.length ∧ VOk 4 (rwV z.2.1) z.2.2.1 ∧ FOk z.2.2.2.1 z.2.2.2.2 ∧ (∀ r ∈ z.2.1, r.xs.length ≤ z.1) ∧ z.2.2.2.1.length ≤ z.1 ∧ BrI (OK n.net) (atts.take z.1) (Uk z.2.1) (Q8 z.2.2.2.1)) (fun z => atts.length - z.1) (0, [], 0, [], 0) ⟨Nat.zero_le _, VOk.nil, ⟨VOk.nil, fun e h => by cases h⟩, (fun r h => by cases h), Nat.zero_le _, BrI.start _⟩ ?_ ?_ ?_
  · exact zu
  · intro w hw
    have h5 : St B w0 (blk gR (vobj [] 0) :: blk gF (vobj [] 0) :: blk gn (.cells #[.int .i64 n.nodes, .slice n.pA n.rows.length n.pcap, .int .i64 n.noise, .int .i64 n.thr, .slice n.lA n.links.length n.lcap, .slice n.mA n.margin.length n.mcap] 26 (0, 0)) :: [many H]) w := by
      revert w
      exact zk
    exact h5.perm (.cons _ (.cons _ (.noMany _)))
  rintro ⟨j, R, cR, F, cF⟩ ⟨hj, hR, hF, hl, hfl, hI⟩ K hK
  dsimp only at hj hR hF hl hfl hI ⊢
  by_cases hlt : j < atts.length
  · obtain ⟨a, ha⟩ : ∃ a, atts[j]? = some a := ⟨_, List.getElem?_eq_getElem hlt⟩
    have htk : atts.take (j + 1) = atts.take j ++ [a] := by rw [List.take_add_one, ha]; rfl
    have hka : keyA a = [a.c.2.2.2.2, a.frame, a.c.2.2.1, a.c.2.2.2.1] := rfl
    obtain ⟨k, hk⟩ : ∃ k, k = keyA a := ⟨_, rfl⟩
    obtain ⟨fi, hfi⟩ : ∃ fi, YC n.net a.c.2.2.1 a.c.2.2.2.1 = fi := ⟨_, rfl⟩
    have p3 := fun {H' : List HP} {w : World} (hin : n.In B w0 H') (hw : St B w0 H' w) => p2 a.c.2.2.1 a.c.2.2.2.1 hin hw
    rw [hfi] at p3
    have hloss : OK n.net (keyA a) = if 0 ≤ fi then some (lnk n.net fi.toNat).2.2 else none := by rw [hka, ← hfi]; rfl
    obtain ⟨l1, A, cap, xs, b, l2, c', hU⟩ := YmD R cR (keyA a)
    have hkv : ∀ z, vget F (keyA a) = z → vget F [a.c.2.2.2.2, a.frame, a.c.2.2.1, a.c.2.2.2.1] = z := fun z h => h
    have hxl := hU.lens hl
    have hbir : ∀ e ∈ rwV l1, e.2.2 ≠ b := (hU.ok rfl hR (.bool true)).births
    by_cases hlost : 0 ≤ fi ∧ vget F (keyA a) = none ∧ a.o ≠ 1
    · obtain ⟨hf0, hfd, ho⟩ := hlost
      have hfd2 := hkv _ hfd
      obtain ⟨ix, rfl⟩ : ∃ ix : Nat, fi = ix := ⟨fi.toNat, by omega⟩
      obtain ⟨l, hln⟩ : ∃ l, n.links[ix]? = some l := by
        have h1 := ZJ (n := n.net) (a := a.c.2.2.1) (b := a.c.2.2.2.1) (by rw [hfi]; omega)
        rw [hfi] at h1
        exact ⟨_, List.getElem?_eq_getElem h1⟩
      have hlk : (lnk n.net ix).2.2 = l.2.2 := by
        unfold lnk
        rw [List.getD_eq_getElem?_getD, show n.net.links = n.links from rfl, hln]
        rfl
      have hixl : ix < n.links.length := (List.getElem?_eq_some_iff.1 hln).1
      have hloss : OK n.net (keyA a) = some l.2.2 := by rw [hloss, if_pos (by omega), ← hlk]; rfl
      have hok2 : ∀ v, VOk 4 (rwV l1 ++ (keyA a, v, b) :: rwV l2) c' := fun v => hU.ok rfl hR v
      have hvg : ∀ v, vget (rwV l1 ++ (keyA a, v, b) :: rwV l2) (keyA a) = some v := fun v => YjD hU.nek
      have hlr : Rd B w0 [many H] n.lA (n.links.flatMap lkF) := hin.lk
      have hxs := hxl.1
      refine VP (nrs A cap xs :: many (l1.map rwQ ++ l2.map rwQ) :: blk gR (vobj (rwV R) cR) :: blk gF (vobj F cF) :: blk gn (.cells #[.int .i64 n.nodes, .slice n.pA n.rows.length n.pcap, .int .i64 n.noise, .int .i64 n.thr, .slice n.lA n.links.length n.lcap, .slice n.mA n.margin.length n.mcap] 26 (0, 0)) :: [many H]) (fun w hw => ?_) ?_
      · refine hU.open_ ?_
        revert w
        exact zk
      repeat' (first | refine zgd ?_ | (refine zge ?_ ?_ <;> intro _ <;> try (exfalso; omega)) | (refine zgh ?_; intro _) | fail)
      rename_i ga gk
      first | apply Ya en95 | apply Yb en95
      exact za
      exact rfl
      exact fun _ hw => (p3 (hin.mono zk) hw)
      have hlen1 : (xs ++ [a.slot]).length = xs.length + 1 := by simp
      by_cases hgt : l.2.2 < (xs.length : Int) + 1
      · skip
        repeat' (first | (apply Ut; exact rfl; exact rfl; kernel_rfl) | (apply ZM (kt := 169) (et := 24) [a.c.2.2.2.2, a.frame, a.c.2.2.1, a.c.2.2.2.1]; exact rfl; exact rfl; exact zm; kernel_rfl; exact rfl; exact hF.ok.len; exact rfl; exact hfd2; exact Ya1) | (apply Qz hU (kt := 169) (et := 24); exact rfl; exact rfl; kernel_rfl; exact rfl; exact hR; exact rfl; exact Ya1; exact zd) | (apply Ze (l1 := rwV l1) (l2 := rwV l2) (k := keyA a); exact rfl; exact rfl; exact rfl; exact zd; exact hbir) | (apply Xy (kt := 169) (et := 24) (keyA a); exact rfl; exact rfl; exact zm; kernel_rfl; exact rfl; exact (hok2 _).len; exact rfl; exact hvg _) | refine zgd ?_ | (refine zgf ?_ ?_ <;> intro _ <;> try (exfalso; omega)) | (refine zgh ?_; intro _) | (refine zgi ?_; intro _ _) | fail)
        rename Option Addr => A'
        rename Nat => cap'
        refine Uq (e := 3) (size := 1) (A := A') (k := xs.length + 1) (cap := cap') (xs := xs.flatMap numF ++ #[Value.int .i64 a.slot].toList) zm (by omega) ?_
        intro gA eA
        subst eA
        apply Y0 [0, 1, 2, 3, 4] [5] [true, true, true, true, true, true, true, true]
        kernel_rfl
        kernel_rfl
        exact zy
        (simp only [Yl, nthO]; rfl)
        (simp only [Yl, nthO]; rfl)
        repeat' (first | (apply Xy (kt := 169) (et := 24) (keyA a); exact rfl; exact rfl; exact zm; kernel_rfl; exact rfl; exact (hok2 _).len; exact rfl; exact hvg _) | (apply UT (kt := 169) (et := 24) (keyA a); exact rfl; exact rfl; exact rfl; kernel_rfl; exact rfl; exact hF.ok.len; exact zd; exact hfd) | refine zgd ?_ | fail)
        apply hK (j + 1, l1 ++ ⟨keyA a, some ⟨gA, 0, none⟩, cap', xs ++ [a.slot], b⟩ :: l2, c', F ++ [(keyA a, .slice (some ⟨gA, 0, none⟩) (xs.length + 1) cap', cF)], cF + 1)
        · refine ⟨by omega, by rw [XL]; exact hok2 _, ⟨hF.ok.snoc rfl _, fun e he => ?_⟩, hxl.2 _ _ _ (by omega), by rw [List.length_append]; simp; omega, ?_⟩
          · rcases List.mem_append.1 he with he | he
            · exact hF.sl e he
            · rw [List.mem_singleton.1 he]; exact ⟨_, _, _, rfl⟩
          · rw [htk]
            refine hI.lost hloss ho ?_ (hU.other _ _ _) (fun _ => ?_) (fun K hK => ?_)
            · rw [Vy hU.ne, hU.get, hlen1]
            · unfold Q8; rw [Ycg hfd, if_pos rfl]; rfl
            · unfold Q8 at hK ⊢
              rw [Ycg hfd]
              split
              · rfl
              · exact hK
        · dsimp only; omega
        · exact zu
        · intro w hw
          have h5 : St B w0 (sl 3 1 (some ⟨gA, 0, none⟩) (xs.length + 1) cap' (xs.flatMap numF ++ #[Value.int .i64 a.slot].toList) :: many (l1.map rwQ ++ l2.map rwQ) :: blk gR (vobj (rwV l1 ++ (keyA a, .slice (some ⟨gA, 0, none⟩) (xs.length + 1) cap', b) :: rwV l2) c') :: blk gF (vobj (F ++ [(keyA a, .slice (some ⟨gA, 0, none⟩) (xs.length + 1) cap', cF)]) (cF + 1)) :: blk gn (.cells #[.int .i64 n.nodes, .slice n.pA n.rows.length n.pcap, .int .i64 n.noise, .int .i64 n.thr, .slice n.lA n.links.length n.lcap, .slice n.mA n.margin.length n.mcap] 26 (0, 0)) :: [many H]) w := by
            revert w
            exact zk
          rw [ZQ] at h5
          have h7 := h5.perm (YaJ (keyA a) _ _ _ b _)
          dsimp only
          rw [XL, hlen1]
          clear h5 hw
          revert w
          exact zk
      · skip
        repeat' (first | (apply Ut; exact rfl; exact rfl; kernel_rfl) | (apply ZM (kt := 169) (et := 24) [a.c.2.2.2.2, a.frame, a.c.2.2.1, a.c.2.2.2.1]; exact rfl; exact rfl; exact zm; kernel_rfl; exact rfl; exact hF.ok.len; exact rfl; exact hfd2; exact Ya1) | (apply Qz hU (kt := 169) (et := 24); exact rfl; exact rfl; kernel_rfl; exact rfl; exact hR; exact rfl; exact Ya1; exact zd) | (apply Ze (l1 := rwV l1) (l2 := rwV l2) (k := keyA a); exact rfl; exact rfl; exact rfl; exact zd; exact hbir) | (apply Xy (kt := 169) (et := 24) (keyA a); exact rfl; exact rfl; exact zm; kernel_rfl; exact rfl; exact (hok2 _).len; exact rfl; exact hvg _) | refine zgd ?_ | (refine zgf ?_ ?_ <;> intro _ <;> try (exfalso; omega)) | (refine zgh ?_; intro _) | (refine zgi ?_; intro _ _) | fail)
        rename Option Addr => A'
        rename Nat => cap'
        apply hK (j + 1, l1 ++ ⟨keyA a, A', cap', xs ++ [a.slot], b⟩ :: l2, c', F, cF)
        · refine ⟨by omega, by rw [XL]; exact hok2 _, hF, hxl.2 _ _ _ (by omega), Nat.le_succ_of_le hfl, ?_⟩
          rw [htk]
          refine hI.lost hloss ho ?_ (hU.other _ _ _) (fun h => ?_) (fun K hK => hK)
          · rw [Vy hU.ne, hU.get, hlen1]
          · rw [hU.get] at h
            exact absurd h hgt
        · dsimp only; omega
        · exact zu
        · intro w hw
          have h5 : St B w0 (sl 3 1 A' (xs.length + 1) cap' (xs.flatMap numF ++ #[Value.int .i64 a.slot].toList) :: many (l1.map rwQ ++ l2.map rwQ) :: blk gR (vobj (rwV l1 ++ (keyA a, .slice A' (xs.length + 1) cap', b) :: rwV l2) c') :: blk gF (vobj F cF) :: blk gn (.cells #[.int .i64 n.nodes, .slice n.pA n.rows.length n.pcap, .int .i64 n.noise, .int .i64 n.thr, .slice n.lA n.links.length n.lcap, .slice n.mA n.margin.length n.mcap] 26 (0, 0)) :: [many H]) w := by
            revert w
            exact zk
          rw [ZQ] at h5
          have h7 := h5.perm (YaJ (keyA a) _ _ _ b _)
          dsimp only
          rw [XL, hlen1]
          clear h5 hw
          revert w
          exact zk
    repeat' (first | refine zgd ?_ | (refine zge ?_ ?_ <;> intro _ <;> try (exfalso; omega)) | (refine zgh ?_; intro _) | fail)
    rename_i ga gk
    first | apply Ya en95 | apply Yb en95
    exact za
    exact rfl
    exact fun _ hw => (p3 (hin.mono zk) hw)
    by_cases hneg : fi < 0
    · repeat' (first | refine zgd ?_ | (refine zge ?_ ?_ <;> intro _ <;> try (exfalso; omega)) | fail)
      apply hK (j + 1, R, cR, F, cF)
      · exact ⟨by omega, hR, hF, fun r hr => Nat.le_succ_of_le (hl r hr), Nat.le_succ_of_le hfl, by rw [htk]; exact hI.skip (.inl (by rw [hloss, if_neg (by omega)]))⟩
      · dsimp only; omega
      · exact zu
      · exact zk
    obtain ⟨ix, rfl⟩ : ∃ ix : Nat, fi = ix := ⟨fi.toNat, by omega⟩
    obtain ⟨l, hln⟩ : ∃ l, n.links[ix]? = some l := by
      have h1 := ZJ (n := n.net) (a := a.c.2.2.1) (b := a.c.2.2.2.1) (by rw [hfi]; omega)
      rw [hfi] at h1
      exact ⟨_, List.getElem?_eq_getElem h1⟩
    have hlk : (lnk n.net ix).2.2 = l.2.2 := by
      unfold lnk
      rw [List.getD_eq_getElem?_getD, show n.net.links = n.links from rfl, hln]
      rfl
    have hixl : ix < n.links.length := (List.getElem?_eq_some_iff.1 hln).1
    have hloss : OK n.net (keyA a) = some l.2.2 := by rw [hloss, if_pos (by omega), ← hlk]; rfl
    have hkv : ∀ z, vget F (keyA a) = z → vget F [a.c.2.2.2.2, a.frame, a.c.2.2.1, a.c.2.2.2.1] = z := fun z h => h
    cases hfd : vget F (keyA a) with
    | some v0 =>
      have hfd2 := hkv _ hfd
      obtain ⟨g3, n3, c3, rfl⟩ : ∃ g3 n3 c3, v0 = .slice (some ⟨g3, 0, none⟩) n3 c3 := by
        obtain ⟨l1, b, l2, e, -⟩ := Jv hfd
        exact hF.sl (keyA a, v0, b) (by rw [e]; simp)
      repeat' (first | (apply Ut; exact rfl; exact rfl; kernel_rfl) | (apply Xy (kt := 169) (et := 24) [a.c.2.2.2.2, a.frame, a.c.2.2.1, a.c.2.2.2.1]; exact rfl; exact rfl; exact zm; kernel_rfl; exact rfl; exact hF.ok.len; exact rfl; exact hfd2) | refine zgd ?_ | (refine zge ?_ ?_ <;> intro _ <;> try (exfalso; omega)) | fail)
      apply hK (j + 1, R, cR, F, cF)
      · exact ⟨by omega, hR, hF, fun r hr => Nat.le_succ_of_le (hl r hr), Nat.le_succ_of_le hfl, by rw [htk]; exact hI.skip (.inr (by unfold Q8; rw [hfd]; rfl))⟩
      · dsimp only; omega
      · exact zu
      · exact zk
    | none =>
    have hfd2 := hkv _ hfd
    have ho : a.o = 1 := Classical.byContradiction fun h => hlost ⟨by omega, hfd, h⟩
    repeat' (first | (apply Ut; exact rfl; exact rfl; kernel_rfl) | (apply ZM (kt := 169) (et := 24) [a.c.2.2.2.2, a.frame, a.c.2.2.1, a.c.2.2.2.1]; exact rfl; exact rfl; exact zm; kernel_rfl; exact rfl; exact hF.ok.len; exact rfl; exact hfd2; exact Ya1) | (apply YjY hU (kt := 169) (et := 24) (v := .slice none 0 0); exact rfl; exact rfl; exact rfl; kernel_rfl; exact rfl; exact hR; exact zd) | refine zgd ?_ | (refine zgf ?_ ?_ <;> intro _ <;> try (exfalso; omega)) | fail)
    apply hK (j + 1, l1 ++ ⟨keyA a, none, 0, [], b⟩ :: l2, c', F, cF)
    · refine ⟨by omega, by rw [XL]; exact hU.ok rfl hR _, hF, hxl.2 none 0 [] (Nat.zero_le _), Nat.le_succ_of_le hfl, ?_⟩
      rw [htk]
      exact hI.acked ho (Vy hU.ne) (hU.other none 0 [])
    · dsimp only; omega
    · exact zu
    · intro w hw
      have h5 : St B w0 (many (R.map rwQ) :: blk gR (vobj (rwV l1 ++ (keyA a, .slice none 0 0, b) :: rwV l2) c') :: blk gF (vobj F cF) :: blk gn (.cells #[.int .i64 n.nodes, .slice n.pA n.rows.length n.pcap, .int .i64 n.noise, .int .i64 n.thr, .slice n.lA n.links.length n.lcap, .slice n.mA n.margin.length n.mcap] 26 (0, 0)) :: [many H]) w := by
        revert w
        exact zk
      have h6 : St B w0 (nrs none 0 [] :: many (l1.map rwQ ++ l2.map rwQ) :: blk gR (vobj (rwV l1 ++ (keyA a, .slice none 0 0, b) :: rwV l2) c') :: blk gF (vobj F cF) :: blk gn (.cells #[.int .i64 n.nodes, .slice n.pA n.rows.length n.pcap, .int .i64 n.noise, .int .i64 n.thr, .slice n.lA n.links.length n.lcap, .slice n.mA n.margin.length n.mcap] 26 (0, 0)) :: [many H]) w := ((hU.open_ h5).perm (.drop _ _)).nilSlice _ _
      have h7 := h6.perm (YaJ (keyA a) none 0 [] b _)
      dsimp only
      rw [XL, List.length_nil]
      clear h5 h6 hw
      revert w
      exact zk
  obtain rfl : j = atts.length := by omega
  clear hK
  rw [List.take_length] at hI
  repeat' (first | (apply YgY (N := 4) (kt := 169) (et := 24) (g := gF); exact rfl; exact zm; kernel_rfl; exact rfl; intro _) | refine zgc ?_ | (refine zge ?_ ?_ <;> intro _ <;> try (exfalso; omega)) | fail)
  rename Nat => it
  refine Yn (fun (z : Array Nat × List BrM × Option Addr × Nat) => [(84, .pointer (some ⟨it, 0, none⟩)), (11, .slice z.2.2.1 z.2.1.length z.2.2.2)])
    (fun z => blk it (.mapIter (some gF) cF z.1 cF) :: blk gF (vobj F cF) :: brP z.2.2.1 z.2.2.2 z.2.1 :: [many H])
    (fun z => z.2.1.length + (F.filter fun x => !z.1.contains x.2.2).length ≤ F.length ∧ ∀ e ∈ F, z.1.contains e.2.2 = true → ∃ x ∈ z.2.1, [x.f, x.k, x.u, x.v] = e.1) (fun z => (F.filter fun x => !z.1.contains x.2.2).length) (#[], [], none, 0) ⟨by dsimp only; have := List.length_filter_le (fun x : KL × Value × Nat => !(#[] : Array Nat).contains x.2.2) F; simp only [List.length_nil]; omega, fun e _ h => by simp at h⟩ ?_ ?_ ?_
  · exact zu
  · intro w hw
    have h5 : St B w0 (blk it (.mapIter (some gF) cF #[] cF) :: blk gF (vobj F cF) :: [many H]) w := by
      revert w
      exact zk
    have h6 := h5.nilSlice 96 5
    exact h6.perm (.trans (.swap _ _ _) (.cons _ (.swap _ _ _)))
  rintro ⟨seen, out, A, cap⟩ ⟨hlen, hseen⟩ K hK
  dsimp only at hlen hseen ⊢
  repeat' (first | apply Zx | apply Ydh | apply XH | fail)
  apply Yir (g := gF)
  · exact rfl
  · exact zm
  · exact rfl
  · intro _; exact zd
  · exact hF.ok.lt
  · exact Nat.le_refl _
  · intro hall
    clear hK
    have p5 := fun {H' : List HP} {w : World} (hin : ∀ w, St B w0 H' w → St B w0 (brP A cap out :: [many H]) w) (hw : St B w0 H' w) => YeQ out (by omega) hin hw
    repeat' (first | refine zgc ?_ | fail)
    apply Yr _ en96
    exact za
    exact rfl
    exact fun _ hw => (p5 zk (hw))
    rintro _ _ ⟨rfl, l', hp, rfl⟩
    repeat' (first | refine zga ?_ | fail)
    apply Yk (brP A cap l' :: H)
    · intro w hw
      have h5 : St B w0 (brP A cap l' :: [many H]) w := by
        revert w
        exact zk
      exact h5.perm (.cons _ (.openT H))
    apply Yg; exact rfl; exact rfl
    refine ⟨l', A, cap, by rw [hp.length_eq], by rw [hp.length_eq]; omega, fun _ k b hb hbr => ?_, rfl⟩
    have h1 := hI.all hb hbr
    unfold Q8 at h1
    obtain ⟨v, hv⟩ := Option.isSome_iff_exists.1 h1
    obtain ⟨l1, bb, l2, e, -⟩ := Jv hv
    have hm : (k, v, bb) ∈ F := by rw [e]; simp
    obtain ⟨x, hx, hxk⟩ := hseen _ hm (hall _ hm)
    exact ⟨x, hp.mem_iff.2 hx, hxk⟩
  · rintro ⟨ek, ev, eb⟩ he hs
    simp only at hs ⊢
    obtain ⟨g3, n3, c3, rfl⟩ := hF.sl _ he
    have hek := hF.ok.len _ he
    obtain ⟨e1, e2, e3, e4, rfl⟩ : ∃ a b c d, ek = [a, b, c, d] := by
      match ek, hek with
      | [a, b, c, d], _ => exact ⟨a, b, c, d, rfl⟩
    repeat' (first | (apply Yfe (g := gF) (es := F) (bb := eb); exact rfl; exact zm; exact zm; exact rfl; exact he; exact hF.ok.nodup) | refine zgd ?_ | (refine zgh ?_; intro _) | (refine zgi ?_; intro _ _) | fail)
    rename Option Addr => A'
    rename Nat => cap'
    have e5 : sl 96 5 A' (out.length + 1) cap' (out.flatMap brF ++ #[Value.int .i64 e1, .int .i64 e2, .int .i64 e3, .int .i64 e4, .slice (some ⟨g3, 0, none⟩) n3 c3].toList) = brP A' cap' (out ++ [(⟨e1, e2, e3, e4, some ⟨g3, 0, none⟩, n3, c3⟩ : BrM)]) := by simp [brP, List.flatMap_append, brF]
    have hls := YfV (seen := seen) he hs
    dsimp only at hls
    apply hK (seen.push eb, out ++ [(⟨e1, e2, e3, e4, some ⟨g3, 0, none⟩, n3, c3⟩ : BrM)], A', cap')
    · refine ⟨by dsimp only; rw [List.length_append]; simp only [List.length_singleton]; omega, fun e he2 h => ?_⟩
      dsimp only at h ⊢
      rw [Array.contains_push] at h
      rcases Bool.or_eq_true _ _ ▸ h with h | h
      · obtain ⟨x, hx, hxe⟩ := hseen e he2 h
        exact ⟨x, List.mem_append.2 (.inl hx), hxe⟩
      · have : e = ([e1, e2, e3, e4], .slice (some ⟨g3, 0, none⟩) n3 c3, eb) := Yg9 hF.ok.nodup he2 he (by simpa using h)
        rw [this]
        exact ⟨_, List.mem_append.2 (.inr (List.mem_singleton.2 rfl)), rfl⟩
    · exact hls
    · dsimp only
      rw [show (out ++ [(⟨e1, e2, e3, e4, some ⟨g3, 0, none⟩, n3, c3⟩ : BrM)]).length = out.length + 1 by simp]
      exact zu
    · dsimp only
      rw [← e5]
      exact zk
open Go.RowKit Go.Eng Go.Nw Go.Rt
def brV (x : BrM) : Value := .agg #[.int .i64 x.f, .int .i64 x.k, .int .i64 x.u, .int .i64 x.v, .slice x.A x.n x.cap]
theorem Yeg (p : BrM → Bool) (l : List BrM) (f : Nat) (cs : List Value) (hen : ∀ xs w, (callFunc f xs).run Tryz.prog w = .ok (.enter f xs) w) (hlen : l.length ≤ 100000000) {A : Option Addr} {cap B : Nat} {w0 : World} {H : List HP} {w : World} (hr : Rd B w0 H A (l.flatMap brF))
    (hp : ∀ a ∈ l, ∀ w, St B w0 H w → Calls Tryz.prog f ([brV a] ++ cs).toArray w (Post B w0 fun v K => v = .bool (p a) ∧ K = H)) (hw : St B w0 H w) :
    Calls Tryz.prog 103 [.slice A l.length cap, .func (.func f) #[] cs.toArray].toArray w (Post B w0 fun v K => v = .int .i64 (Yq p l 0) ∧ K = H) := by
  refine Yf Tryz.func103 Tryz.ntmps103 rfl rfl hw ?_
  repeat' (first | refine zgb ?_ | fail)
  refine Yn (fun (k : Nat) => [(8, .int .i64 k), (7, .int .i64 l.length), (0, .slice A l.length cap), (1, .func (.func f) #[] cs.toArray)]) (fun _ => H) (fun k => k ≤ l.length ∧ Yq p l 0 = Yq p (l.drop k) k) (fun k => l.length - k) 0 ⟨Nat.zero_le _, by simp⟩ ?_ (fun w hw => hw) ?_
  · exact zu
  rintro k ⟨hk, hi⟩ K hK
  by_cases hlt : k < l.length
  · obtain ⟨a, ha⟩ : ∃ a, l[k]? = some a := ⟨_, List.getElem?_eq_getElem hlt⟩
    have hpa := hp a (List.mem_of_getElem? ha)
    rw [Jo p l ha] at hi
    repeat' (first | ((first | apply YD (cs := cs)); exact rfl; exact hen; exact za; exact rfl; exact fun _ hw => hpa _ hw) | refine zgd ?_ | (refine zge ?_ ?_ <;> intro _ <;> try (exfalso; omega)) | fail)
    cases hpv : p a
    · rw [hpv] at hi
      repeat' (first | refine zgd ?_ | fail)
      apply hK (k + 1)
      · exact ⟨by omega, hi⟩
      · omega
      · exact zu
      · exact fun w hw => hw
    · rw [hpv] at hi
      repeat' (first | refine zgc ?_ | fail)
      apply Yg; exact rfl; exact rfl
      exact ⟨by rw [hi]; rfl, rfl⟩
  · repeat' (first | refine zgc ?_ | (refine zge ?_ ?_ <;> intro _ <;> try (exfalso; omega)) | fail)
    apply Yg; exact rfl; exact rfl
    rw [hi, List.drop_eq_nil_of_le (by omega)]
    exact ⟨rfl, rfl⟩
theorem O6 (p : BrM → Bool) (l : List BrM) (f : Nat) (cs : List Value) (hen : ∀ xs w, (callFunc f xs).run Tryz.prog w = .ok (.enter f xs) w) (hlen : l.length ≤ 100000000) {A : Option Addr} {cap B : Nat} {w0 : World} {H : List HP} {w : World} (hr : Rd B w0 H A (l.flatMap brF))
    (hp : ∀ a ∈ l, ∀ w, St B w0 H w → Calls Tryz.prog f ([brV a] ++ cs).toArray w (Post B w0 fun v K => v = .bool (p a) ∧ K = H)) (hw : St B w0 H w) :
    Calls Tryz.prog 43 [.slice A l.length cap, .func (.func f) #[] cs.toArray].toArray w (Post B w0 fun v K => v = .bool (l.any p) ∧ K = H) := by
  refine Yf Tryz.func43 Tryz.ntmps43 rfl rfl hw ?_
  rw [← Yac]
  repeat' (first | refine zga ?_ | fail)
  first | apply Ya YkQ | apply Yb YkQ
  exact za
  exact rfl
  exact fun _ hw => (Yeg p l f cs hen hlen hr hp hw)
  by_cases h0 : 0 ≤ Yq p l 0
  · rw [decide_eq_true h0]
    repeat' (first | refine zga ?_ | (refine zgf ?_ ?_ <;> intro _ <;> try (exfalso; omega)) | fail)
    apply Yg; exact rfl; exact rfl
    exact ⟨rfl, rfl⟩
  · rw [decide_eq_false h0]
    repeat' (first | refine zga ?_ | (refine zgf ?_ ?_ <;> intro _ <;> try (exfalso; omega)) | fail)
    apply Yg; exact rfl; exact rfl
    exact ⟨rfl, rfl⟩
def onBr (id k : Int) (r : List Int) (x : BrM) : Bool :=
  decide (x.f = id ∧ x.k = k ∧ 0 ≤ Yq (fun y => decide (x.u = y)) r 0 ∧ (Yq (fun y => decide (x.u = y)) r 0).toNat + 1 < r.length ∧ r.getD ((Yq (fun y => decide (x.u = y)) r 0).toNat + 1) 0 = x.v)
theorem Yko {id k : Int} {r : List Int} {x : BrM} (h : ¬ (x.f = id ∧ x.k = k ∧ 0 ≤ Yq (fun y => decide (x.u = y)) r 0 ∧ (Yq (fun y => decide (x.u = y)) r 0).toNat + 1 < r.length ∧ r.getD ((Yq (fun y => decide (x.u = y)) r 0).toNat + 1) 0 = x.v)) : onBr id k r x = false := decide_eq_false h
set_option maxRecDepth 10000 in
set_option maxHeartbeats 4000000 in
theorem YfC (x : BrM) (k : Int) (y : RqM) (r : RowM) (gr gq gk : Nat) (hl : r.xs.length ≤ 1000000) {B : Nat} {w0 : World} {T : List HP} {w : World} (hr : Rd B w0 T r.A (r.xs.flatMap numF)) (hw : St B w0 (blk gr (.cells #[.slice r.A r.xs.length r.cap] 72 (0, 0)) :: rqA gq y :: blk gk (.cells #[.int .i64 k] 3 (0, 0)) :: T) w) :
    Calls Tryz.prog 44 [brV x, .pointer (some ⟨gr, 0, none⟩), .pointer (some ⟨gq, 0, none⟩), .pointer (some ⟨gk, 0, none⟩)].toArray w (Post B w0 fun v K => v = .bool (onBr y.f.1 k r.xs x) ∧ K = blk gr (.cells #[.slice r.A r.xs.length r.cap] 72 (0, 0)) :: rqA gq y :: blk gk (.cells #[.int .i64 k] 3 (0, 0)) :: T) := by
  refine Yf Tryz.func44 Tryz.ntmps44 rfl rfl hw ?_
  have hr : Rd B w0 [many T] r.A (r.xs.flatMap numF) := hr.mono (fun w hw => hw.perm (.openT T))
  refine VP (blk gr (.cells #[.slice r.A r.xs.length r.cap] 72 (0, 0)) :: rqA gq y :: blk gk (.cells #[.int .i64 k] 3 (0, 0)) :: [many T]) (fun w hw => hw.perm (.cons _ (.cons _ (.cons _ (.closeT T))))) ?_
  have p1 := fun {H' : List HP} {w : World} (hr : Rd B w0 H' r.A (r.xs.flatMap numF)) (hw : St B w0 H' w) => OD r.xs x.u (by omega) (cap := r.cap) hr hw
  have hno := @Yko y.f.1 k r.xs x
  have hyes : (x.f = y.f.1 ∧ x.k = k ∧ 0 ≤ Yq (fun y => decide (x.u = y)) r.xs 0 ∧ (Yq (fun y => decide (x.u = y)) r.xs 0).toNat + 1 < r.xs.length ∧ r.xs.getD ((Yq (fun y => decide (x.u = y)) r.xs 0).toNat + 1) 0 = x.v) → onBr y.f.1 k r.xs x = true := fun h => decide_eq_true h
  have hge := Vj (p := fun y => decide (x.u = y)) (l := r.xs) (k := 0) (Int.le_refl 0)
  obtain ⟨i, hi⟩ : ∃ i, Yq (fun y => decide (x.u = y)) r.xs 0 = i := ⟨_, rfl⟩
  rw [hi] at p1 hno hyes hge
  unfold brV
  repeat' (first | refine zga ?_ | (refine zgh ?_; intro _) | fail)
  first | apply Ya en45 | apply Yb en45
  exact za
  exact rfl
  exact fun _ hw => (p1 hr.cons.cons.cons.cons hw)
  by_cases h1 : x.f = y.f.1
  rotate_left
  · rw [hno (fun h => h1 h.1)]
    repeat' (first | refine zgd ?_ | (refine zgf ?_ ?_ <;> intro _ <;> try (exfalso; omega)) | fail)
    all_goals (
      apply Yk (blk gr (.cells #[.slice r.A r.xs.length r.cap] 72 (0, 0)) :: rqA gq y :: blk gk (.cells #[.int .i64 k] 3 (0, 0)) :: T)
      · intro w hw
        have h5 : St B w0 (blk gr (.cells #[.slice r.A r.xs.length r.cap] 72 (0, 0)) :: rqA gq y :: blk gk (.cells #[.int .i64 k] 3 (0, 0)) :: [many T]) w := by
          revert w
          exact zk
        exact h5.perm (.cons _ (.cons _ (.cons _ (.openT T))))
      apply Yg; exact rfl; exact rfl
      exact ⟨rfl, rfl⟩)
  by_cases h2 : x.k = k
  rotate_left
  · rw [hno (fun h => h2 h.2.1)]
    repeat' (first | refine zgd ?_ | (refine zgf ?_ ?_ <;> intro _ <;> try (exfalso; omega)) | fail)
    all_goals (
      apply Yk (blk gr (.cells #[.slice r.A r.xs.length r.cap] 72 (0, 0)) :: rqA gq y :: blk gk (.cells #[.int .i64 k] 3 (0, 0)) :: T)
      · intro w hw
        have h5 : St B w0 (blk gr (.cells #[.slice r.A r.xs.length r.cap] 72 (0, 0)) :: rqA gq y :: blk gk (.cells #[.int .i64 k] 3 (0, 0)) :: [many T]) w := by
          revert w
          exact zk
        exact h5.perm (.cons _ (.cons _ (.cons _ (.openT T))))
      apply Yg; exact rfl; exact rfl
      exact ⟨rfl, rfl⟩)
  by_cases h3 : 0 ≤ i
  rotate_left
  · rw [hno (fun h => h3 h.2.2.1)]
    repeat' (first | refine zgd ?_ | (refine zgf ?_ ?_ <;> intro _ <;> try (exfalso; omega)) | fail)
    all_goals (
      apply Yk (blk gr (.cells #[.slice r.A r.xs.length r.cap] 72 (0, 0)) :: rqA gq y :: blk gk (.cells #[.int .i64 k] 3 (0, 0)) :: T)
      · intro w hw
        have h5 : St B w0 (blk gr (.cells #[.slice r.A r.xs.length r.cap] 72 (0, 0)) :: rqA gq y :: blk gk (.cells #[.int .i64 k] 3 (0, 0)) :: [many T]) w := by
          revert w
          exact zk
        exact h5.perm (.cons _ (.cons _ (.cons _ (.openT T))))
      apply Yg; exact rfl; exact rfl
      exact ⟨rfl, rfl⟩)
  obtain ⟨ix, rfl⟩ : ∃ ix : Nat, i = ix := ⟨i.toNat, by omega⟩
  rw [Int.toNat_natCast] at hno hyes
  by_cases h4 : ix + 1 < r.xs.length
  rotate_left
  · rw [hno (fun h => h4 h.2.2.2.1)]
    repeat' (first | refine zgd ?_ | (refine zgf ?_ ?_ <;> intro _ <;> try (exfalso; omega)) | fail)
    all_goals (
      apply Yk (blk gr (.cells #[.slice r.A r.xs.length r.cap] 72 (0, 0)) :: rqA gq y :: blk gk (.cells #[.int .i64 k] 3 (0, 0)) :: T)
      · intro w hw
        have h5 : St B w0 (blk gr (.cells #[.slice r.A r.xs.length r.cap] 72 (0, 0)) :: rqA gq y :: blk gk (.cells #[.int .i64 k] 3 (0, 0)) :: [many T]) w := by
          revert w
          exact zk
        exact h5.perm (.cons _ (.cons _ (.cons _ (.openT T))))
      apply Yg; exact rfl; exact rfl
      exact ⟨rfl, rfl⟩)
  obtain ⟨z, hz⟩ : ∃ z, r.xs[ix + 1]? = some z := ⟨_, List.getElem?_eq_getElem h4⟩
  have hzd : r.xs.getD (ix + 1) 0 = z := by rw [List.getD_eq_getElem?_getD, hz]; rfl
  rw [hzd] at hno hyes
  by_cases h5 : z = x.v
  · rw [hyes ⟨h1, h2, h3, h4, h5⟩]
    repeat' (first | refine zgd ?_ | (refine zgf ?_ ?_ <;> intro _ <;> try (exfalso; omega)) | fail)
    all_goals (
      apply Yk (blk gr (.cells #[.slice r.A r.xs.length r.cap] 72 (0, 0)) :: rqA gq y :: blk gk (.cells #[.int .i64 k] 3 (0, 0)) :: T)
      · intro w hw
        have h5 : St B w0 (blk gr (.cells #[.slice r.A r.xs.length r.cap] 72 (0, 0)) :: rqA gq y :: blk gk (.cells #[.int .i64 k] 3 (0, 0)) :: [many T]) w := by
          revert w
          exact zk
        exact h5.perm (.cons _ (.cons _ (.cons _ (.openT T))))
      apply Yg; exact rfl; exact rfl
      exact ⟨rfl, rfl⟩)
  · rw [hno (fun h => h5 h.2.2.2.2)]
    repeat' (first | refine zgd ?_ | (refine zgf ?_ ?_ <;> intro _ <;> try (exfalso; omega)) | fail)
    all_goals (
      apply Yk (blk gr (.cells #[.slice r.A r.xs.length r.cap] 72 (0, 0)) :: rqA gq y :: blk gk (.cells #[.int .i64 k] 3 (0, 0)) :: T)
      · intro w hw
        have h5 : St B w0 (blk gr (.cells #[.slice r.A r.xs.length r.cap] 72 (0, 0)) :: rqA gq y :: blk gk (.cells #[.int .i64 k] 3 (0, 0)) :: [many T]) w := by
          revert w
          exact zk
        exact h5.perm (.cons _ (.cons _ (.cons _ (.openT T))))
      apply Yg; exact rfl; exact rfl
      exact ⟨rfl, rfl⟩)
open Go.RowKit Go.Eng Go.Nw Go.Rt
def RelS (l : List Flw) (n : Int) (b : Int) (ss ss' : List SM) (k : Nat) : Prop :=
  ss'.length = l.length ∧ ∀ (i : Nat) f x, l[i]? = some f → ss[i]? = some x → ∃ x', ss'[i]? = some x' ∧ x'.Ok b ∧ if i < k then x'.st = relS f n x.st else x' = x
def SM.new (f : Flw) (n k : Int) (a b c : Nat) : SM := ⟨k, some (a, b, c), [(f.2.1, n, 0)], 1, [], 0, [], 0, false⟩
theorem SM.new_st (f : Flw) (n k : Int) (a b c : Nat) : (SM.new f n k a b c).st = newS f n k := by
  unfold SM.st newS SM.new
  congr 1
  funext v
  by_cases h : v = f.2.1
  · subst h; simp [X8]
  · simp [X8, h, Ne.symm h]
theorem SM.new_ok (f : Flw) (n k : Int) (a b c : Nat) (m : Int) : (SM.new f n k a b c).Ok m := ⟨fun _ => rfl, ⟨VOk.nil, fun e (h : e ∈ ([] : YM)) => absurd h (List.not_mem_nil)⟩, fun e (h : e ∈ ([] : List (KL × Int × Nat))) => absurd h (List.not_mem_nil)⟩
theorem Yht {B : Nat} {w0 w : World} {l : List SM} {i : Nat} {x y : SM} {L : List HP} {H : List HP} (h : l[i]? = some x) (hy : smQ y = many L) (hw : St B w0 (L ++ many (l.map smQ) :: H) w) : St B w0 (many ((l.set i y).map smQ) :: H) w := by
  have h1 := hw.perm (.close L _)
  rw [← hy] at h1
  exact ((h1.perm (.cons _ (YgD smQ h H))).perm (.cons _ (.drop _ _))).perm (Yer smQ (List.getElem?_eq_some_iff.1 h).1 y H)
theorem Ykz {c : PlC} {g : Nat} {sA : Option Addr} {sc : Nat} {tA : Option Addr} {nt tc : Nat} {dA : Option Addr} {nd dc : Nat} {B : Nat} {w0 : World} {Z : HP} {sk : List SM} {k : Nat} {x : SM} {f : Flw} {n q : Int} {a1 a2 a3 : Nat} (h : sk[k]? = some x) : ∀ w, St B w0 (plS sA c.l.length sc (sk.set k (SM.new f n q a1 a2 a3)) :: blk a1 (mobj ([] ++ [(f.2.1, Value.int .i64 n, 0)]) (0 + 1)) :: blk a2 (mobj [] 0) :: blk a3 (mobj [] 0) :: plB c g sA c.l.length sc tA nt tc dA nd dc :: many (sk.map smQ) :: [Z]) w →
    St B w0 (plB c g sA c.l.length sc tA nt tc dA nd dc :: plS sA c.l.length sc (sk.set k (SM.new f n q a1 a2 a3)) :: many ((sk.set k (SM.new f n q a1 a2 a3)).map smQ) :: [Z]) w := by
  intro w hw
  have h1 : St B w0 (blk a1 (mobj ([] ++ [(f.2.1, Value.int .i64 n, 0)]) (0 + 1)) :: blk a2 (mobj [] 0) :: blk a3 (mobj [] 0) :: many (sk.map smQ) :: plB c g sA c.l.length sc tA nt tc dA nd dc :: plS sA c.l.length sc (sk.set k (SM.new f n q a1 a2 a3)) :: [Z]) w := by
    revert w
    exact zk
  have h2 := Yht (L := [blk a1 (mobj ([] ++ [(f.2.1, Value.int .i64 n, 0)]) (0 + 1)), blk a2 (mobj [] 0), blk a3 (mobj [] 0)]) (y := SM.new f n q a1 a2 a3) h rfl h1
  exact (h2.perm (.swap _ _ _)).perm (.cons _ (.swap _ _ _))
set_option maxRecDepth 10000 in
set_option maxHeartbeats 4000000 in
theorem Ybf (c : PlC) (n b : Int) (hn : 0 ≤ n ∧ n ≤ 1000000) (hl : c.l.length ≤ 1000) (hf : ∀ f ∈ c.l, YX 32 f = 0) {g : Nat} {sA : Option Addr} {sc : Nat} {ss : List SM} (hss : ss.length = c.l.length) (hok : ∀ x ∈ ss, x.Ok b) {tA : Option Addr} {nt tc : Nat} {dA : Option Addr} {nd dc : Nat}
    {B : Nat} {w0 : World} {Z : HP} {w : World} (hr : Rd B w0 [Z] c.fA (c.l.flatMap flwF)) (hw : St B w0 (plB c g sA c.l.length sc tA nt tc dA nd dc :: plS sA c.l.length sc ss :: many (ss.map smQ) :: [Z]) w) :
    Calls Tryz.prog 151 [.pointer (some ⟨g, 0, none⟩), .int .i64 n].toArray w (Post B w0 fun v K => ∃ ss', v = .tuple #[] ∧ RelS c.l n b ss ss' c.l.length ∧ K = plB c g sA c.l.length sc tA nt tc dA nd dc :: plS sA c.l.length sc ss' :: many (ss'.map smQ) :: [Z]) := by
  refine Yf Tryz.func151 Tryz.ntmps151 rfl rfl hw ?_
  repeat' (first | refine zgd ?_ | fail)
  refine Yn (fun (z : Nat × List SM) => [(13, .int .i64 (z.1 : Nat)), (12, .int .i64 c.l.length), (11, .slice c.fA c.l.length c.fc), (0, .pointer (some ⟨g, 0, none⟩)), (1, .int .i64 n)])
    (fun z => plB c g sA c.l.length sc tA nt tc dA nd dc :: plS sA c.l.length sc z.2 :: many (z.2.map smQ) :: [Z]) (fun z => z.1 ≤ c.l.length ∧ RelS c.l n b ss z.2 z.1) (fun z => c.l.length - z.1) (0, ss) ⟨Nat.zero_le _, hss, fun i f x h1 h2 => ⟨x, h2, hok x (List.mem_of_getElem? h2), by rw [if_neg (by omega)]⟩⟩ ?_ ?_ ?_
  · exact zu
  · intro w hw; exact hw
  rintro ⟨k, sk⟩ ⟨hk, hR⟩ K hK
  dsimp only at hk hR ⊢
  by_cases hlt : k < c.l.length
  rotate_left
  · obtain rfl : k = c.l.length := by omega
    clear hK
    repeat' (first | refine zgc ?_ | (refine zge ?_ ?_ <;> intro _ <;> try (exfalso; omega)) | fail)
    apply Yk (plB c g sA c.l.length sc tA nt tc dA nd dc :: plS sA c.l.length sc sk :: many (sk.map smQ) :: [Z])
    · exact zk
    apply Xq; exact rfl
    exact ⟨sk, rfl, hR, rfl⟩
  obtain ⟨f, hfk⟩ : ∃ f, c.l[k]? = some f := ⟨_, List.getElem?_eq_getElem hlt⟩
  obtain ⟨x, hx⟩ : ∃ x, ss[k]? = some x := ⟨_, List.getElem?_eq_getElem (by omega)⟩
  have hskl := hR.1
  obtain ⟨x', hx', hxo, hxe⟩ := hR.2 k f x hfk hx
  rw [if_neg (Nat.lt_irrefl _)] at hxe
  subst hxe
  have hfe := hf f (List.mem_of_getElem? hfk)
  obtain ⟨hp1, hp2, -, -⟩ := Xm hfe
  have hr9 : ∀ {X Y W : HP}, Rd B w0 (X :: Y :: W :: [Z]) c.fA (c.l.flatMap flwF) := hr.cons.cons.cons
  have hr8 := @hr9 (plB c g sA c.l.length sc tA nt tc dA nd dc) (plS sA c.l.length sc sk) (many (sk.map smQ))
  have p1 := fun {H' : List HP} {w : World} (hw : St B w0 H' w) => YcJ f n hfe hn hw
  unfold flwV at p1
  have hstay : relS f n x'.st = x'.st → RelS c.l n b ss sk (k + 1) := fun h => by
    refine ⟨hskl, fun i f2 y2 a1 a2 => ?_⟩
    obtain ⟨z, b1, b2, b3⟩ := hR.2 i f2 y2 a1 a2
    refine ⟨z, b1, b2, ?_⟩
    by_cases e : i = k
    · subst e
      rw [hfk] at a1
      rw [hx] at a2
      rw [hx'] at b1
      rw [if_pos (by omega), ← Option.some.inj a1, ← Option.some.inj a2, ← Option.some.inj b1, h]
    · by_cases hik : i < k
      · rw [if_pos hik] at b3
        rw [if_pos (by omega)]; exact b3
      · rw [if_neg hik] at b3
        rw [if_neg (by omega)]; exact b3
  iterate 10 (first | refine zgb ?_ | (refine zge ?_ ?_ <;> intro _ <;> try (exfalso; omega)) | fail)
  refine Zb (fun (z : { z : List SM // RelS c.l n b ss z (k + 1) }) => [(13, .int .i64 (k : Nat)), (12, .int .i64 c.l.length), (11, .slice c.fA c.l.length c.fc), (0, .pointer (some ⟨g, 0, none⟩)), (1, .int .i64 n)]) (fun z => plB c g sA c.l.length sc tA nt tc dA nd dc :: plS sA c.l.length sc z.1 :: many (z.1.map smQ) :: [Z]) ?_ ?_
  rotate_left
  · rintro ⟨z, hz⟩
    repeat' (first | refine zgd ?_ | fail)
    apply hK ⟨k + 1, z⟩
    · exact ⟨by show k + 1 ≤ _; omega, hz⟩
    · dsimp only; omega
    · exact zu
    · exact zk
  intro K2 hK2
  by_cases h1 : n < f.2.2.2.2.1
  · rw [if_pos h1, decide_eq_false (by omega)] at p1
    repeat' (first | ((first | apply Ya YbH | apply Yb YbH); exact za; exact rfl; exact fun _ hw => (p1 hw)) | refine zgd ?_ | (refine zgh ?_; intro _) | fail)
    apply hK2 ⟨sk, hstay (by unfold relS; exact if_pos h1)⟩
    · exact zu
    · exact zk
  rw [if_neg h1, decide_eq_true (by omega)] at p1
  obtain ⟨q, hq⟩ : ∃ q, (n - f.2.2.2.2.1) / f.2.2.2.1 = q := ⟨_, rfl⟩
  rw [hq] at p1
  have hnew : q ≠ x'.frame → ∀ a1 a2 a3, RelS c.l n b ss (sk.set k (SM.new f n q a1 a2 a3)) (k + 1) := fun hne a1 a2 a3 => by
    refine ⟨by rw [List.length_set]; exact hskl, fun i f2 y2 b1 b2 => ?_⟩
    obtain ⟨z, c1, c2, c3⟩ := hR.2 i f2 y2 b1 b2
    by_cases e : i = k
    · subst e
      rw [hfk] at b1
      rw [hx] at b2
      refine ⟨_, List.getElem?_set_self (by omega), SM.new_ok _ _ _ _ _ _ _, ?_⟩
      rw [if_pos (by omega), ← Option.some.inj b1, ← Option.some.inj b2, SM.new_st]
      unfold relS phaF perF
      rw [if_neg h1, if_neg (by rw [hq]; exact hne), hq]
    · refine ⟨z, by rw [List.getElem?_set_ne (Ne.symm e)]; exact c1, c2, ?_⟩
      by_cases hik : i < k
      · rw [if_pos hik] at c3
        rw [if_pos (by omega)]; exact c3
      · rw [if_neg hik] at c3
        rw [if_neg (by omega)]; exact c3
  by_cases h2 : q = x'.frame
  · skip
    repeat' (first | ((first | apply Ya YbH | apply Yb YbH); exact za; exact rfl; exact fun _ hw => (p1 hw)) | refine zgd ?_ | (refine zge ?_ ?_ <;> intro _ <;> try (exfalso; omega)) | (refine zgh ?_; intro _) | fail)
    apply hK2 ⟨sk, hstay (by unfold relS phaF perF; rw [if_neg h1, if_pos (by rw [hq, h2]; rfl)])⟩
    · exact zu
    · exact zk
  · skip
    repeat' (first | ((first | apply Ya YbH | apply Yb YbH); exact za; exact rfl; exact fun _ hw => (p1 hw)) | refine zgd ?_ | (refine zge ?_ ?_ <;> intro _ <;> try (exfalso; omega)) | (refine zgh ?_; intro _) | fail)
    rename_i gf
    have hnew := hnew h2
    refine Uq (e := 224) (size := 5) (A := sA) (k := c.l.length) (cap := sc) (xs := sk.flatMap smF) zm (by omega) ?_
    intro gA eA
    subst eA
    apply Wa (.n1 0 (.n1 1 (.n1 2 (.n1 3 (.n1 4 (.n1 5 (.n1 7 (.n1 8 (.n1 9 (.n3 6 (.n3 10 (.n1 11 (.n2 12 (.n1 13 (.n1 14 (.n1 15 .done))) 13 (.n1 12 (.n1 14 (.n1 15 .done))))) 12 (.n2 10 (.n1 11 (.n1 13 (.n1 14 (.n1 15 .done)))) 13 (.n1 10 (.n1 11 (.n1 14 (.n1 15 .done))))) 13 (.n2 10 (.n1 11 (.n1 12 (.n1 14 (.n1 15 .done)))) 12 (.n1 10 (.n1 11 (.n1 14 (.n1 15 .done)))))) 12 (.n2 6 (.n2 10 (.n1 11 (.n1 13 (.n1 14 (.n1 15 .done)))) 13 (.n1 10 (.n1 11 (.n1 14 (.n1 15 .done))))) 13 (.n1 6 (.n1 10 (.n1 11 (.n1 14 (.n1 15 .done)))))) 13 (.n2 6 (.n2 10 (.n1 11 (.n1 12 (.n1 14 (.n1 15 .done)))) 12 (.n1 10 (.n1 11 (.n1 14 (.n1 15 .done))))) 12 (.n1 6 (.n1 10 (.n1 11 (.n1 14 (.n1 15 .done)))))))))))))))) [16] [true, true]
    kernel_rfl
    kernel_rfl
    exact zy
    (simp only [Yl, nthO]; rfl)
    repeat' (first | (apply Ya3 T; exact rfl; exact rfl; exact rfl; exact rfl; omega) | (apply UH T (f := smF) (a := SM.new f n q _ _ _); exact rfl; exact rfl; exact rfl; exact zd; exact (fun _ => rfl); exact rfl; exact rfl; exact rfl; omega) | (apply Yfb; exact rfl; intro gs) | (apply YgU (kt := 3) (et := 3); exact rfl; exact rfl; exact rfl; kernel_rfl; exact zd; exact rfl) | (apply YkL; (simp only [nthO]; rfl); (simp only [nthO]; rfl); (simp only [nthO]; rfl)) | (apply Yge; (simp only [nthO]; rfl); (simp only [nthO]; rfl)) | (apply Ygd; (simp only [nthO]; rfl)) | (apply Wg; (repeat (first | with_reducible exact Yh | (with_reducible apply Yd; (repeat (first | with_reducible exact Ye | with_reducible apply Yc)))))) | (apply Yi; (repeat (first | with_reducible exact Yh | (with_reducible apply Yd; (repeat (first | with_reducible exact Ye | with_reducible apply Yc)))))) | refine zgd ?_ | fail)
    all_goals (
      rw [Int.toNat_natCast]
      apply hK2 ⟨sk.set k (SM.new f n q _ _ _), hnew _ _ _⟩
      rotate_left
      · intro w hw
        apply Ykz hx' w
        revert w
        exact zk
      · exact zu)
end Go.Proofs.YtmalhidldgfeoaaGreatDoor
namespace Go.Eng
open Go.RowKit
theorem Yv {P : Program} {m : Mode} {n : Shp} {B d : Nat} {w0 : World} {ops : Array Oper} {Q : Exit → Act → World → Prop} {rest : List Oper} {env : Env} {H : List HP} {ty : TypeId} {pos : String} {after : Array Edge} {x : Operand} {a : Addr} {j : Nat} (hx : evo env x = some (sptr (some a) j)) (hn : Nat.ble (d + 1) n.k = true) (h : VL P m n B w0 ops Q rest ((d, sptr (some a) j) :: env) H) :
    VL P m n B w0 ops Q (⟨some d, .nilCheck x, ty, pos, after, none⟩ :: rest) env H := VS hx hn h
end Go.Eng
namespace Go.Proofs.YtmalhidldgfeoaaGreatDoor
open Go.RowKit Go.Eng Go.Nw Go.Rt
theorem Yha (l : List Flw) (id : Int) : (Z2 l id = -1 ∧ ∀ f ∈ l, f.1 ≠ id) ∨ ∃ (i : Nat) (f : Flw), Z2 l id = (i : Int) ∧ l[i]? = some f ∧ f.1 = id := by
  have key : ∀ (l : List Flw) (a : Int), 0 ≤ a → (Yq (fun f : Flw => decide (f.1 = id)) l a = -1 ∧ ∀ f ∈ l, f.1 ≠ id) ∨ ∃ (i : Nat) (f : Flw), Yq (fun f : Flw => decide (f.1 = id)) l a = a + (i : Int) ∧ l[i]? = some f ∧ f.1 = id := by
    intro l
    induction l with
    | nil => exact fun a _ => .inl ⟨rfl, fun f h => by cases h⟩
    | cons x l ih =>
      intro a ha
      unfold Yq
      by_cases h : x.1 = id
      · exact .inr ⟨0, x, by simp [h], rfl, h⟩
      · rcases ih (a + 1) (by omega) with ⟨h1, h2⟩ | ⟨i, f, h1, h2, h3⟩
        · refine .inl ⟨by simp [h, h1], fun f hf => ?_⟩
          rcases List.mem_cons.1 hf with rfl | hf
          · exact h
          · exact h2 f hf
        · exact .inr ⟨i + 1, f, by simp [h, h1]; omega, h2, h3⟩
  rcases key l 0 (Int.le_refl _) with h | ⟨i, f, h1, h2⟩
  · exact .inl h
  · exact .inr ⟨i, f, by unfold Z2; rw [h1]; omega, h2⟩
set_option maxRecDepth 10000 in
set_option maxHeartbeats 2000000 in
theorem YcZ (c : PlC) (id k u v t : Int) (ht : 0 ≤ t) (hxl : c.xs.length ≤ 1000000) {g : Nat} {sA : Option Addr} {ns sc : Nat} {tA : Option Addr} {nt tc : Nat} {dA : Option Addr} {nd dc : Nat} {B : Nat} {w0 : World} {Z : HP} {w : World} (hx : XIn B w0 [Z] c.xA c.xs) (hw : St B w0 (plB c g sA ns sc tA nt tc dA nd dc :: [Z]) w) :
    Calls Tryz.prog 212 [.pointer (some ⟨g, 0, none⟩), .int .i64 id, .int .i64 k, .agg #[.int .i64 u, .int .i64 v], .int .i64 t].toArray w (Post B w0 fun v K => (∃ o : Int, v = .int .i64 o) ∧ K = plB c g sA ns sc tA nt tc dA nd dc :: [Z]) := by
  refine Yf Tryz.func212 Tryz.ntmps212 rfl rfl hw ?_
  have p1 := fun {H' : List HP} {w : World} (hr : Rd B w0 H' c.xA (c.xs.flatMap ruF)) (hw : St B w0 H' w) => Yc7 c.xs ⟨id, u, v, k, none, 0, []⟩ (by omega) (cap := c.xc) hr hw
  unfold ruV at p1
  have hrx := hx.rd
  repeat' (first | refine zga ?_ | (refine zgh ?_; intro _) | fail)
  rename_i gl
  apply Y0 [0, 1, 2, 3, 4, 5, 6, 7, 8, 9, 10, 11, 12, 13, 14, 15, 16] [] [true, true, true]
  kernel_rfl
  kernel_rfl
  exact zy
  (simp only [Yl, nthO]; rfl)
  exact rfl
  repeat' (first | refine zgd ?_ | fail)
  have hx1 : Rd B w0 [Z] c.xA (c.xs.flatMap ruF) := hrx
  apply Yr _ Ymu
  exact za
  exact rfl
  exact fun _ hw => (p1 (hrx.mono zk) (hw))
  rintro _ _ ⟨⟨i, b, rfl, hb⟩, hK0⟩
  rw [hK0]
  cases b with
  | false =>
    repeat' (first | (apply Yi; (repeat (first | with_reducible exact Yh | (with_reducible apply Yd; (repeat (first | with_reducible exact Ye | with_reducible apply Yc)))))) | refine zgd ?_ | fail)
    apply Yk (plB c g sA ns sc tA nt tc dA nd dc :: [Z])
    · exact zk
    apply Yg; exact rfl; exact rfl; exact ⟨⟨_, rfl⟩, rfl⟩
  | true =>
  have hi := hb rfl
  obtain ⟨r, hr⟩ : ∃ r, c.xs[i]? = some r := ⟨_, List.getElem?_eq_getElem hi⟩
  have hri := hx.x r (List.mem_of_getElem? hr)
  have hrl := hri.ln
  have hrr := hri.rd
  by_cases hlt : t < r.os.length
  · obtain ⟨o, ho⟩ : ∃ o, r.os[t.toNat]? = some o := ⟨_, List.getElem?_eq_getElem (by omega)⟩
    repeat' (first | (apply Yi; (repeat (first | with_reducible exact Yh | (with_reducible apply Yd; (repeat (first | with_reducible exact Ye | with_reducible apply Yc)))))) | refine zgd ?_ | (refine zgf ?_ ?_ <;> intro _ <;> try (exfalso; omega)) | fail)
    apply Yk (plB c g sA ns sc tA nt tc dA nd dc :: [Z])
    · exact zk
    apply Yg; exact rfl; exact rfl; exact ⟨⟨_, rfl⟩, rfl⟩
  · repeat' (first | (apply Yi; (repeat (first | with_reducible exact Yh | (with_reducible apply Yd; (repeat (first | with_reducible exact Ye | with_reducible apply Yc)))))) | refine zgd ?_ | (refine zgf ?_ ?_ <;> intro _ <;> try (exfalso; omega)) | fail)
    apply Yk (plB c g sA ns sc tA nt tc dA nd dc :: [Z])
    · exact zk
    apply Yg; exact rfl; exact rfl; exact ⟨⟨_, rfl⟩, rfl⟩
theorem YfK (c : PlC) (id k u v t : Int) (ht : 0 ≤ t) (hxl : c.xs.length ≤ 1000000) {g : Nat} {sA : Option Addr} {ns sc : Nat} {tA : Option Addr} {nt tc : Nat} {dA : Option Addr} {nd dc : Nat} {B : Nat} {w0 : World} {Z : HP} {w : World} {H : List HP} (R : List HP) (hR : ∀ w, St B w0 R w → St B w0 [Z] w)
    (hin : ∀ w, St B w0 H w → St B w0 (plB c g sA ns sc tA nt tc dA nd dc :: R) w) (hout : ∀ w, St B w0 (plB c g sA ns sc tA nt tc dA nd dc :: R) w → St B w0 H w) (hx : XIn B w0 [Z] c.xA c.xs) (hw : St B w0 H w) :
    Calls Tryz.prog 212 [.pointer (some ⟨g, 0, none⟩), .int .i64 id, .int .i64 k, .agg #[.int .i64 u, .int .i64 v], .int .i64 t].toArray w (Post B w0 fun v K => (∃ o : Int, v = .int .i64 o) ∧ K = H) := by
  refine (YcZ (Z := many R) c id k u v t ht hxl (hx.mono fun w hw => hR w (hw.perm (.openT R))) ((hin w hw).perm (.cons _ (.closeT R)))).mono ?_
  rintro e w' ⟨v, K, h1, hst, ho, rfl⟩
  exact ⟨v, H, h1, hout _ (hst.perm (.cons _ (.openT R))), ho, rfl⟩
open Go.RowKit Go.Eng Go.Nw Go.Rt
def AttR (l : List Flw) (n b : Int) (q : Cel) (ss : List SM) (atts : List AttM) (dels : List (Int × Int × Int)) (ss' : List SM) (atts' : List AttM) (dels' : List (Int × Int × Int)) : Prop :=
  (ss' = ss ∧ atts' = atts ∧ dels' = dels ∧ ∀ (i : Nat) f x, l[i]? = some f → ss[i]? = some x → f.1 = Xo q → ¬ canT f x.st q n) ∨
  ∃ (i : Nat) (f : Flw) (x : SM) (o : Int) (x' : SM), l[i]? = some f ∧ ss[i]? = some x ∧ f.1 = Xo q ∧ canT f x.st q n ∧ ss' = ss.set i x' ∧ x'.st = ZS f x.st q n o ∧ x'.Ok (b + 1) ∧ atts' = atts ++ [⟨n, x.frame, q, o⟩] ∧ dels' = dels ++ delS f x.st q n o
theorem flat_set {α : Type} {F : α → List Value} {l : List α} {i : Nat} {x y : α} (h : l[i]? = some x) (e : F y = F x) : (l.set i y).flatMap F = l.flatMap F := by
  obtain ⟨hi, hx⟩ := List.getElem?_eq_some_iff.1 h
  rw [List.set_eq_take_append_cons_drop, if_pos hi, List.flatMap_append, List.flatMap_cons, e, ← hx, ← List.flatMap_cons, ← List.flatMap_append, List.getElem_cons_drop, List.take_append_drop]
theorem YiJ (A : Option Addr) (cap nd : Nat) (l : List (Int × Int × Int)) (a b c : Int) : sl 181 3 A nd cap (l.flatMap delF ++ #[Value.int .i64 a, .int .i64 b, .int .i64 c].toList) = sl 181 3 A nd cap ((l ++ [(a, b, c)]).flatMap delF) := by simp [List.flatMap_append, delF]
theorem YiD (A : Option Addr) (cap nt : Nat) (l : List AttM) (n k : Int) (q : Cel) (o : Int) : sl 167 8 A nt cap (l.flatMap attF ++ #[Value.int .i64 n, .int .i64 k, .int .i64 q.1, .int .i64 q.2.1, .int .i64 q.2.2.1, .int .i64 q.2.2.2.1, .int .i64 q.2.2.2.2, .int .i64 o].toList) = sl 167 8 A nt cap ((l ++ [(⟨n, k, q, o⟩ : AttM)]).flatMap attF) := by simp [List.flatMap_append, attF]
theorem Wj {c : PlC} {g : Nat} {sA : Option Addr} {sc : Nat} {ss : List SM} {i : Nat} {x x' : SM} {tA : Option Addr} {tc : Nat} {atts : List AttM} {dA : Option Addr} {dc : Nat} {dels : List (Int × Int × Int)} {a1 a2 a3 : Nat} {B : Nat} {w0 : World} {Z : HP} (h : ss[i]? = some x) (hx : x'.g = some (a1, a2, a3)) {e : List SM} (he : e.flatMap smF = (ss.set i x').flatMap smF) {nt nd : Nat} (hnt : nt = atts.length) (hnd : nd = dels.length) : ∀ w,
    St B w0 (plB c g sA c.l.length sc tA nt tc dA nd dc :: plS sA c.l.length sc e :: sl 167 8 tA nt tc (atts.flatMap attF) :: sl 181 3 dA nd dc (dels.flatMap delF) :: blk a1 (mobj (iE x'.es) x'.ce) :: blk a2 (vobj x'.ts x'.ct) :: blk a3 (vobj (wE x'.ak) x'.ca) :: many ((ss.take i).map smQ ++ (ss.drop (i + 1)).map smQ) :: [Z]) w →
    St B w0 (plL c g sA sc (ss.set i x') tA tc atts dA dc dels [Z]) w := by
  intro w hw
  subst hnt hnd
  unfold plS at hw
  rw [he] at hw
  have hP : smQ x' = many [blk a1 (mobj (iE x'.es) x'.ce), blk a2 (vobj x'.ts x'.ct), blk a3 (vobj (wE x'.ak) x'.ca)] := by
    unfold smQ smP; rw [hx]
  have h1 := hw.perm (.cons _ (.cons _ (.cons _ (.cons _ (.close [_, _, _] _)))))
  rw [← hP] at h1
  exact h1.perm (.cons _ (.cons _ (.cons _ (.cons _ (Yer smQ (List.getElem?_eq_some_iff.1 h).1 x' _)))))
theorem Qc {l : List Flw} {n b : Int} {q : Cel} {ss : List SM} {i : Nat} {f : Flw} {xf : Int} {a1 a2 a3 : Nat} {xes : List (Int × Int × Nat)} {xce : Nat} {xts : YM} {xct : Nat} {xak : List (KL × Int × Nat)} {xca : Nat} {xd : Bool} {atts : List AttM} {dels dels' : List (Int × Int × Int)} {o : Int} {es : List (Int × Int × Nat)} {ce : Nat} {ts : YM} {ct : Nat} {ak : List (KL × Int × Nat)} {ca : Nat} {dn : Bool}
    (hf : l[i]? = some f) (hxs : ss[i]? = some (SM.mk xf (some (a1, a2, a3)) xes xce xts xct xak xca xd)) (hfi : f.1 = Xo q) (hc : canT f (SM.mk xf (some (a1, a2, a3)) xes xce xts xct xak xca xd).st q n) (hxa : ∀ e ∈ xak, e.1.length = 2) (hts : TOk ts ct (b + 1))
    (hak : ak = if o = 1 ∧ Zp xak [Yz q, toC q] = none then xak ++ [([Yz q, toC q], n, xca)] else xak)
    (hes : es = if o = 3 ∨ (X8 xes (toC q)).isSome = true then xes else xes ++ [(toC q, n + 1, xce)])
    (hdn : dn = (xd || (decide (o ≠ 3) && decide (toC q = dstF f))))
    (hdl : dels' = dels ++ delS f (SM.mk xf (some (a1, a2, a3)) xes xce xts xct xak xca xd).st q n o) :
    AttR l n b q ss atts dels (ss.set i (SM.mk xf (some (a1, a2, a3)) es ce ts ct ak ca dn)) (atts ++ [⟨n, xf, q, o⟩]) dels' := by
  refine .inr ⟨i, f, _, o, _, hf, hxs, hfi, hc, rfl, ?_, ⟨fun _ => rfl, hts, fun e he => ?_⟩, rfl, hdl⟩
  · unfold ZS SM.st
    dsimp only
    congr 1
    · rw [hes]
      by_cases h : o = 3 ∨ (X8 xes (toC q)).isSome = true
      · rw [if_pos h, if_pos h]
      · rw [if_neg h, if_neg h]
        funext v
        have h2 : X8 xes (toC q) = none := by
          cases h3 : X8 xes (toC q) with
          | none => rfl
          | some z => exact absurd (.inr (by rw [h3]; rfl)) h
        exact Yhi h2 v
    · rw [hak]
      by_cases h : o = 1 ∧ Zp xak [Yz q, toC q] = none
      · rw [if_pos h, if_pos h]
        funext u v
        rw [Yh2 h.2]
        by_cases e : u = Yz q ∧ v = toC q
        · rw [if_pos e, if_pos (by rw [e.1, e.2])]
        · rw [if_neg e, if_neg (fun h => e (by injection h with h1 h2; injection h2 with h2; exact ⟨h1, h2⟩))]
      · rw [if_neg h, if_neg h]
  · have he : e ∈ ak := he
    rw [hak] at he
    split at he
    · rcases List.mem_append.1 he with he | he
      · exact hxa e he
      · rw [List.mem_singleton.1 he]; rfl
    · exact hxa e he
theorem Yhd {α : Type} {F : α → List Value} {l : List α} {i : Nat} (hi : i < l.length) {y z : α} (e : F y = F z) : (l.set i y).flatMap F = (l.set i z).flatMap F := by
  rw [← flat_set (l := l.set i z) (y := y) (List.getElem?_set_self hi) e, List.set_set]
theorem J8 (w : World) : (zeroValue 3).run Tryz.prog w = .ok (.int .i64 0) w := by kernel_rfl
theorem Yfi (q : Cel) : celV q = .agg #[.int .i64 q.1, .int .i64 q.2.1, .int .i64 q.2.2.1, .int .i64 q.2.2.2.1, .int .i64 q.2.2.2.2] := rfl
set_option maxRecDepth 10000 in
set_option maxHeartbeats 8000000 in
theorem YcD (c : PlC) (q : Cel) (n b : Int) (hn : 0 ≤ n ∧ n ≤ 1000000) (hb : 0 ≤ b ∧ b ≤ 100000000) (hl : c.l.length ≤ 1000) (hid : c.l.Pairwise fun a b => a.1 ≠ b.1) (hxl : c.xs.length ≤ 1000000) {g : Nat} {sA : Option Addr} {sc : Nat} {ss : List SM} (hss : ss.length = c.l.length) (hok : ∀ x ∈ ss, x.Ok b)
    {tA : Option Addr} {tc : Nat} {atts : List AttM} {dA : Option Addr} {dc : Nat} {dels : List (Int × Int × Int)} (hat : atts.length ≤ 100000000) (hdl : dels.length ≤ 100000000) {B : Nat} {w0 : World} {Z : HP} {w : World} (hr : Rd B w0 [Z] c.fA (c.l.flatMap flwF)) (hx : XIn B w0 [Z] c.xA c.xs) (hw : St B w0 (plL c g sA sc ss tA tc atts dA dc dels [Z]) w) :
    Calls Tryz.prog 152 [.pointer (some ⟨g, 0, none⟩), celV q, .int .i64 n].toArray w (Post B w0 fun v K => ∃ ss' tA' tc' atts' dA' dc' dels', v = .tuple #[] ∧ AttR c.l n b q ss atts dels ss' atts' dels' ∧ K = plL c g sA sc ss' tA' tc' atts' dA' dc' dels' [Z]) := by
  refine Yf Tryz.func152 Tryz.ntmps152 rfl rfl hw ?_
  rw [Yfi]
  have leaf : (∀ (i : Nat) f x, c.l[i]? = some f → ss[i]? = some x → f.1 = Xo q → ¬ canT f x.st q n) → AttR c.l n b q ss atts dels ss atts dels := fun h => .inl ⟨rfl, rfl, rfl, h⟩
  have p1 := fun {H' : List HP} {w : World} (hr : Rd B w0 H' c.fA (c.l.flatMap flwF)) (hw : St B w0 H' w) => Q0 c.l q.2.2.2.2 (by omega) (cap := c.fc) hr hw
  rcases Yha c.l q.2.2.2.2 with ⟨h1, h2⟩ | ⟨i, f, h1, hf, hfi⟩
  · rw [h1] at p1
    repeat' (first | refine zga ?_ | (refine zgh ?_; intro _) | fail)
    apply Y0 [0, 1, 2, 3, 4, 5, 6, 7] [] [true, true]
    kernel_rfl
    kernel_rfl
    exact zy
    (simp only [Yl, nthO]; rfl)
    exact rfl
    repeat' (first | refine zgd ?_ | fail)
    first | apply Ya JD | apply Yb JD
    exact za
    exact rfl
    exact fun _ hw => (p1 (hr.mono zk) hw)
    repeat' (first | (apply Yi; (repeat (first | with_reducible exact Yh | (with_reducible apply Yd; (repeat (first | with_reducible exact Ye | with_reducible apply Yc)))))) | refine zgd ?_ | (refine zge ?_ ?_ <;> intro _ <;> try (exfalso; omega)) | fail)
    apply Yk (plL c g sA sc ss tA tc atts dA dc dels [Z])
    · exact zk
    apply XU; exact rfl
    exact ⟨_, _, _, _, _, _, _, rfl, leaf fun i f x a1 _ a3 => absurd a3 (h2 f (List.mem_of_getElem? a1)), rfl⟩
  rw [h1] at p1
  obtain ⟨x, hxs⟩ : ∃ x, ss[i]? = some x := ⟨_, List.getElem?_eq_getElem (by have := (List.getElem?_eq_some_iff.1 hf).1; omega)⟩
  have hil : i < c.l.length := (List.getElem?_eq_some_iff.1 hf).1
  have hxo := hok x (List.mem_of_getElem? hxs)
  have honly : ¬ canT f x.st q n → ∀ (j : Nat) f' x', c.l[j]? = some f' → ss[j]? = some x' → f'.1 = Xo q → ¬ canT f' x'.st q n := fun h j f' x' a1 a2 a3 => by
    have : j = i := by
      obtain ⟨j1, j2⟩ := List.getElem?_eq_some_iff.1 a1
      obtain ⟨i1, i2⟩ := List.getElem?_eq_some_iff.1 hf
      rcases Nat.lt_trichotomy j i with e | e | e
      · have := List.pairwise_iff_getElem.1 hid j i j1 i1 e
        rw [j2, i2] at this
        exact absurd (a3.trans hfi.symm) this
      · exact e
      · have := List.pairwise_iff_getElem.1 hid i j i1 j1 e
        rw [j2, i2] at this
        exact absurd (hfi.trans a3.symm) this
    subst this
    rw [hf] at a1
    rw [hxs] at a2
    rw [← Option.some.inj a1, ← Option.some.inj a2]
    exact h
  by_cases hfr : x.frame < 0
  · repeat' (first | refine zga ?_ | (refine zgh ?_; intro _) | fail)
    apply Y0 [0, 1, 2, 3, 4, 5, 6, 7] [] [true, true]
    kernel_rfl
    kernel_rfl
    exact zy
    (simp only [Yl, nthO]; rfl)
    exact rfl
    repeat' (first | refine zgd ?_ | fail)
    first | apply Ya JD | apply Yb JD
    exact za
    exact rfl
    exact fun _ hw => (p1 (hr.mono zk) hw)
    repeat' (first | (apply Yi; (repeat (first | with_reducible exact Yh | (with_reducible apply Yd; (repeat (first | with_reducible exact Ye | with_reducible apply Yc)))))) | refine zgd ?_ | (refine zge ?_ ?_ <;> intro _ <;> try (exfalso; omega)) | fail)
    apply Yk (plL c g sA sc ss tA tc atts dA dc dels [Z])
    · exact zk
    apply XU; exact rfl
    exact ⟨_, _, _, _, _, _, _, rfl, leaf (honly fun h => absurd h.1 (by show ¬ 0 ≤ x.frame; omega)), rfl⟩
  obtain ⟨⟨a1, a2, a3⟩, hg⟩ := Option.isSome_iff_exists.1 (hxo.g (by omega))
  obtain ⟨xf, xg, xes, xce, xts, xct, xak, xca, xd⟩ := x
  have hg : xg = some (a1, a2, a3) := hg
  subst hg
  have hg : (SM.mk xf (some (a1, a2, a3)) xes xce xts xct xak xca xd).g = some (a1, a2, a3) := rfl
  have hfr : ¬ xf < 0 := hfr
  refine VP (plB c g sA c.l.length sc tA atts.length tc dA dels.length dc :: plS sA c.l.length sc ss :: plT tA tc atts :: plD dA dc dels :: blk a1 (mobj (iE xes) xce) :: blk a2 (vobj xts xct) :: blk a3 (vobj (wE xak) xca) :: many ((ss.take i).map smQ ++ (ss.drop (i + 1)).map smQ) :: [Z]) (fun w hw => ?_) ?_
  · have h2 := hw.perm (.cons _ (.cons _ (.cons _ (.cons _ (YgD smQ hxs _)))))
    have hP : smQ (SM.mk xf (some (a1, a2, a3)) xes xce xts xct xak xca xd) = many [blk a1 (mobj (iE xes) xce), blk a2 (vobj xts xct), blk a3 (vobj (wE xak) xca)] := by
      rfl
    rw [hP] at h2
    exact h2.perm (.cons _ (.cons _ (.cons _ (.cons _ (.open_ [_, _, _] _)))))
  refine Uq (e := 224) (size := 5) (A := sA) (k := c.l.length) (cap := sc) (xs := ss.flatMap smF) zm (by omega) ?_
  intro gA eA
  subst eA
  have hback : ∀ w, St B w0 (plB c g (some ⟨gA, 0, none⟩) c.l.length sc tA atts.length tc dA dels.length dc :: plS (some ⟨gA, 0, none⟩) c.l.length sc ss :: plT tA tc atts :: plD dA dc dels :: blk a1 (mobj (iE xes) xce) :: blk a2 (vobj xts xct) :: blk a3 (vobj (wE xak) xca) :: many ((ss.take i).map smQ ++ (ss.drop (i + 1)).map smQ) :: [Z]) w → St B w0 (plL c g (some ⟨gA, 0, none⟩) sc ss tA tc atts dA dc dels [Z]) w := fun w hw => by
    have h3 := Wj (x' := (SM.mk xf (some (a1, a2, a3)) xes xce xts xct xak xca xd)) hxs hg (e := ss) (by rw [flat_set hxs rfl]) rfl rfl w hw
    have h4 : ss.set i (SM.mk xf (some (a1, a2, a3)) xes xce xts xct xak xca xd) = ss := by
      obtain ⟨i1, i2⟩ := List.getElem?_eq_some_iff.1 hxs
      rw [← i2, List.set_getElem_self]
    rw [h4] at h3
    exact h3
  have hsmf : smF (SM.mk xf (some (a1, a2, a3)) xes xce xts xct xak xca xd) = [.int .i64 xf, .map (some a1), .map (some a2), .map (some a3), .bool xd] := by rfl
  repeat' (first | refine zga ?_ | (refine zgh ?_; intro _) | fail)
  rename_i gc
  apply Y0 [0, 1, 2, 3, 4, 5, 6, 7] [] [true, true]
  kernel_rfl
  kernel_rfl
  exact zy
  (simp only [Yl, nthO]; rfl)
  exact rfl
  repeat' (first | refine zgd ?_ | fail)
  first | apply Ya JD | apply Yb JD
  exact za
  exact rfl
  exact fun _ hw => (p1 (hr.mono zk) hw)
  repeat' (first | (apply Yi; (repeat (first | with_reducible exact Yh | (with_reducible apply Yd; (repeat (first | with_reducible exact Ye | with_reducible apply Yc)))))) | refine zgd ?_ | (refine zge ?_ ?_ <;> intro _ <;> try (exfalso; omega)) | fail)
  have hrf : Rd B w0 (blk gc (.cells #[.int .i64 q.1, .int .i64 q.2.1, .int .i64 q.2.2.1, .int .i64 q.2.2.2.1, .int .i64 q.2.2.2.2] 40 (0, 0)) :: plB c g (some ⟨gA, 0, none⟩) c.l.length sc tA atts.length tc dA dels.length dc :: plS (some ⟨gA, 0, none⟩) c.l.length sc ss :: plT tA tc atts :: plD dA dc dels :: blk a1 (mobj (iE xes) xce) :: blk a2 (vobj xts xct) :: blk a3 (vobj (wE xak) xca) :: many ((ss.take i).map smQ ++ (ss.drop (i + 1)).map smQ) :: [Z]) c.fA (c.l.flatMap flwF) := hr.mono zk
  refine Zb (fun (z : Nat × Nat) => [(0, .pointer (some ⟨g, 0, none⟩)), (2, .int .i64 n), (4, .pointer (some ⟨gc, 0, none⟩)), (7, .pointer (some ⟨z.1, 0, none⟩)), (8, sptr (some ⟨gA, 0, none⟩) (i * 5)), (9, .pointer (some ⟨z.2, 0, none⟩))]) (fun z => blk z.1 (.cells #[.int .i64 f.1, .int .i64 f.2.1, .int .i64 f.2.2.1, .int .i64 f.2.2.2.1, .int .i64 f.2.2.2.2.1, .int .i64 f.2.2.2.2.2] 68 (0, 0)) :: blk z.2 (.cells #[.int .i64 q.2.2.1, .int .i64 q.2.2.2.1] 263 (0, 0)) :: blk gc (.cells #[.int .i64 q.1, .int .i64 q.2.1, .int .i64 q.2.2.1, .int .i64 q.2.2.2.1, .int .i64 q.2.2.2.2] 40 (0, 0)) :: plB c g (some ⟨gA, 0, none⟩) c.l.length sc tA atts.length tc dA dels.length dc :: plS (some ⟨gA, 0, none⟩) c.l.length sc ss :: plT tA tc atts :: plD dA dc dels :: blk a1 (mobj (iE xes) xce) :: blk a2 (vobj xts xct) :: blk a3 (vobj (wE xak) xca) :: many ((ss.take i).map smQ ++ (ss.drop (i + 1)).map smQ) :: [Z]) ?_ ?_
  · intro K2 hK2
    apply Ur (.n1 0 (.n1 1 (.n1 2 (.n1 3 (.n1 4 (.n1 5 (.n1 6 (.n1 7 (.n1 8 (.n1 9 (.n1 10 (.n1 11 (.n1 12 (.n1 13 (.n1 14 (.n1 15 (.n1 16 (.n1 17 (.n2 18 (.n1 19 (.n1 20 (.n1 21 .done))) 19 (.n1 18 (.n1 20 (.n1 21 .done)))))))))))))))))))))) [22] [true, true, true, false, false, false, false, false, false, true]
    kernel_rfl
    kernel_rfl
    exact zy
    (simp only [Yl, nthO]; rfl)
    repeat' (first | (apply Yi; (repeat (first | with_reducible exact Yh | (with_reducible apply Yd; (repeat (first | with_reducible exact Ye | with_reducible apply Yc)))))) | apply (zs91 ?_ ?_) | (apply Yo; (repeat (first | with_reducible exact Yh | (with_reducible apply Yd; (repeat (first | with_reducible exact Ye | with_reducible apply Yc)))))) | refine zgd ?_ | (refine zgh ?_; intro _) | fail)
    all_goals (
      apply hK2 ⟨_, _⟩
      rotate_left
      · exact zk
      · exact zu)
  rintro ⟨gf, gl⟩
  dsimp only
  have hakL : ∀ e ∈ wE xak, e.1.length = 2 := fun e he => by
    obtain ⟨y, hy, rfl⟩ := List.mem_map.1 he
    exact hxo.ak y hy
  have hkA : ∀ t, Zp xak [Yz q, toC q] = t → vget (wE xak) [q.2.2.1, q.2.2.2.1] = t.map (Value.int .i64) := fun t h => by rw [YkH, ← h]; rfl
  have hkS : ∀ t, X8 xes (Yz q) = t → mget (iE xes) q.2.2.1 = t.map (Value.int .i64) := fun t h => by rw [YgE, ← h]; rfl
  have hdone : ¬ canT f (SM.mk xf (some (a1, a2, a3)) xes xce xts xct xak xca xd).st q n → AttR c.l n b q ss atts dels ss atts dels := fun h => leaf (honly h)
  have hcan : canT f (SM.mk xf (some (a1, a2, a3)) xes xce xts xct xak xca xd).st q n ↔ ∃ a, X8 xes (Yz q) = some a ∧ a ≤ n ∧ Yz q ≠ dstF f ∧ ∀ t, Zp xak [Yz q, toC q] = some t → n ≤ t := by
    unfold canT
    constructor
    · rintro ⟨-, ⟨a, h1, h2⟩, h3, h4⟩
      exact ⟨a, h1, h2, h3, h4⟩
    · rintro ⟨a, h1, h2, h3, h4⟩
      exact ⟨by show 0 ≤ xf; omega, ⟨a, h1, h2⟩, h3, h4⟩
  by_cases hc : canT f (SM.mk xf (some (a1, a2, a3)) xes xce xts xct xak xca xd).st q n
  rotate_left
  · have hno := hdone hc
    rw [hcan] at hc
    have hkF : ∀ {a}, X8 xes (Yz q) = some a → a ≤ n → q.2.2.1 ≠ f.2.2.1 → (∀ t, Zp xak [Yz q, toC q] = some t → n ≤ t) → False := fun h1 h2 h3 h4 => hc ⟨_, h1, h2, h3, h4⟩
    cases hfrom : X8 xes (Yz q) with
    | none =>
      have hk1 : mget (iE xes) q.2.2.1 = none := hkS _ hfrom
      cases hak : Zp xak [Yz q, toC q] with
      | none =>
        have hk2 : vget (wE xak) [q.2.2.1, q.2.2.2.1] = none := hkA _ hak
        repeat' (first | (apply Yv; exact rfl; exact rfl) | (apply XK (kt := 3) (et := 3); exact rfl; exact rfl; exact zm; kernel_rfl; exact rfl; exact hk1) | (apply Zc (kt := 3) (et := 3); exact rfl; exact rfl; exact zm; kernel_rfl; exact rfl; exact hk1; exact J8) | (apply XT (kt := 263) (et := 3) [q.2.2.1, q.2.2.2.1]; exact rfl; exact rfl; exact zm; kernel_rfl; exact rfl; exact hakL; exact rfl; exact hk2) | (apply XS (kt := 263) (et := 3) [q.2.2.1, q.2.2.2.1]; exact rfl; exact rfl; exact zm; kernel_rfl; exact rfl; exact hakL; exact rfl; exact hk2; exact J8) | refine zgd ?_ | fail)
        apply Yk (plL c g (some ⟨gA, 0, none⟩) sc ss tA tc atts dA dc dels [Z])
        · intro w hw
          refine hback w ?_
          revert w
          exact zk
        apply XU; exact rfl
        exact ⟨_, _, _, _, _, _, _, rfl, hno, rfl⟩
      | some t =>
        have hk2 : vget (wE xak) [q.2.2.1, q.2.2.2.1] = some (.int .i64 t) := hkA _ hak
        repeat' (first | (apply Yv; exact rfl; exact rfl) | (apply XK (kt := 3) (et := 3); exact rfl; exact rfl; exact zm; kernel_rfl; exact rfl; exact hk1) | (apply Zc (kt := 3) (et := 3); exact rfl; exact rfl; exact zm; kernel_rfl; exact rfl; exact hk1; exact J8) | (apply XT (kt := 263) (et := 3) [q.2.2.1, q.2.2.2.1]; exact rfl; exact rfl; exact zm; kernel_rfl; exact rfl; exact hakL; exact rfl; exact hk2) | (apply XS (kt := 263) (et := 3) [q.2.2.1, q.2.2.2.1]; exact rfl; exact rfl; exact zm; kernel_rfl; exact rfl; exact hakL; exact rfl; exact hk2; exact J8) | refine zgd ?_ | fail)
        apply Yk (plL c g (some ⟨gA, 0, none⟩) sc ss tA tc atts dA dc dels [Z])
        · intro w hw
          refine hback w ?_
          revert w
          exact zk
        apply XU; exact rfl
        exact ⟨_, _, _, _, _, _, _, rfl, hno, rfl⟩
    | some a =>
      have hk1 : mget (iE xes) q.2.2.1 = some (.int .i64 a) := hkS _ hfrom
      cases hak : Zp xak [Yz q, toC q] with
      | none =>
        have hk2 : vget (wE xak) [q.2.2.1, q.2.2.2.1] = none := hkA _ hak
        by_cases hgo : a ≤ n ∧ q.2.2.1 ≠ f.2.2.1
        · exact absurd (hkF hfrom hgo.1 hgo.2 (fun t h => by rw [hak] at h; cases h)) id
        repeat' (first | (apply Yv; exact rfl; exact rfl) | (apply XK (kt := 3) (et := 3); exact rfl; exact rfl; exact zm; kernel_rfl; exact rfl; exact hk1) | (apply Zc (kt := 3) (et := 3); exact rfl; exact rfl; exact zm; kernel_rfl; exact rfl; exact hk1; exact J8) | (apply XT (kt := 263) (et := 3) [q.2.2.1, q.2.2.2.1]; exact rfl; exact rfl; exact zm; kernel_rfl; exact rfl; exact hakL; exact rfl; exact hk2) | (apply XS (kt := 263) (et := 3) [q.2.2.1, q.2.2.2.1]; exact rfl; exact rfl; exact zm; kernel_rfl; exact rfl; exact hakL; exact rfl; exact hk2; exact J8) | refine zgd ?_ | (refine zgf ?_ ?_ <;> intro _ <;> try (exfalso; omega)) | fail)
        all_goals (
          apply Yk (plL c g (some ⟨gA, 0, none⟩) sc ss tA tc atts dA dc dels [Z])
          · intro w hw
            refine hback w ?_
            revert w
            exact zk
          apply XU; exact rfl
          exact ⟨_, _, _, _, _, _, _, rfl, hno, rfl⟩
          skip)
      | some t =>
        have hk2 : vget (wE xak) [q.2.2.1, q.2.2.2.1] = some (.int .i64 t) := hkA _ hak
        by_cases hgo : a ≤ n ∧ q.2.2.1 ≠ f.2.2.1 ∧ n ≤ t
        · exact absurd (hkF hfrom hgo.1 hgo.2.1 (fun t' h => by rw [hak] at h; rw [← Option.some.inj h]; exact hgo.2.2)) id
        repeat' (first | (apply Yv; exact rfl; exact rfl) | (apply XK (kt := 3) (et := 3); exact rfl; exact rfl; exact zm; kernel_rfl; exact rfl; exact hk1) | (apply Zc (kt := 3) (et := 3); exact rfl; exact rfl; exact zm; kernel_rfl; exact rfl; exact hk1; exact J8) | (apply XT (kt := 263) (et := 3) [q.2.2.1, q.2.2.2.1]; exact rfl; exact rfl; exact zm; kernel_rfl; exact rfl; exact hakL; exact rfl; exact hk2) | (apply XS (kt := 263) (et := 3) [q.2.2.1, q.2.2.2.1]; exact rfl; exact rfl; exact zm; kernel_rfl; exact rfl; exact hakL; exact rfl; exact hk2; exact J8) | refine zgd ?_ | (refine zgf ?_ ?_ <;> intro _ <;> try (exfalso; omega)) | fail)
        all_goals (
          apply Yk (plL c g (some ⟨gA, 0, none⟩) sc ss tA tc atts dA dc dels [Z])
          · intro w hw
            refine hback w ?_
            revert w
            exact zk
          apply XU; exact rfl
          exact ⟨_, _, _, _, _, _, _, rfl, hno, rfl⟩
          skip)
  obtain ⟨a, hfrom, hcn, hcd, hck⟩ := hcan.1 hc
  have hk1 : mget (iE xes) q.2.2.1 = some (.int .i64 a) := hkS _ hfrom
  have hcd : q.2.2.1 ≠ f.2.2.1 := hcd
  obtain ⟨tz, htz0, htzb, htz⟩ : ∃ tz : Int, 0 ≤ tz ∧ tz ≤ b ∧ ((vget xts [q.2.2.1, q.2.2.2.1] = none ∧ tz = 0) ∨ vget xts [q.2.2.1, q.2.2.2.1] = some (.int .i64 tz)) := by
    cases h : vget xts [q.2.2.1, q.2.2.2.1] with
    | none => exact ⟨0, Int.le_refl _, hb.1, .inl ⟨rfl, rfl⟩⟩
    | some v =>
      obtain ⟨l1, bb, l2, e, -⟩ := Jv h
      obtain ⟨z, h1, h2, h3⟩ := hxo.ts.z ([q.2.2.1, q.2.2.2.1], v, bb) (by show _ ∈ xts; rw [e]; simp)
      exact ⟨z, h2, h3, .inr (by rw [← h1])⟩
  have htL : ∀ e ∈ xts, e.1.length = 2 := hxo.ts.ok.len
  have hRZ : ∀ w, St B w0 (blk gf (.cells #[.int .i64 f.1, .int .i64 f.2.1, .int .i64 f.2.2.1, .int .i64 f.2.2.2.1, .int .i64 f.2.2.2.2.1, .int .i64 f.2.2.2.2.2] 68 (0, 0)) :: blk gl (.cells #[.int .i64 q.2.2.1, .int .i64 q.2.2.2.1] 263 (0, 0)) :: blk gc (.cells #[.int .i64 q.1, .int .i64 q.2.1, .int .i64 q.2.2.1, .int .i64 q.2.2.2.1, .int .i64 q.2.2.2.2] 40 (0, 0)) :: plS (some ⟨gA, 0, none⟩) c.l.length sc ss :: plT tA tc atts :: plD dA dc dels :: blk a1 (mobj (iE xes) xce) :: blk a2 (vobj xts xct) :: blk a3 (vobj (wE xak) xca) :: many ((ss.take i).map smQ ++ (ss.drop (i + 1)).map smQ) :: [Z]) w → St B w0 [Z] w := by
    exact zk
  obtain ⟨ab, hab⟩ : ∃ ab : Bool, (Zp xak [Yz q, toC q]).isSome = ab := ⟨_, rfl⟩
  obtain ⟨tv, htv⟩ : ∃ tv : Int, (vget (wE xak) [q.2.2.1, q.2.2.2.1] = some (.int .i64 tv) ∧ ab = true) ∨ (vget (wE xak) [q.2.2.1, q.2.2.2.1] = none ∧ ab = false ∧ ∀ w, (zeroValue 3).run Tryz.prog w = .ok (.int .i64 tv) w) := by
    cases hopt : Zp xak [Yz q, toC q] with
    | none => exact ⟨0, .inr ⟨hkA _ hopt, by rw [← hab, hopt]; rfl, J8⟩⟩
    | some t => exact ⟨t, .inl ⟨hkA _ hopt, by rw [← hab, hopt]; rfl⟩⟩
  have htn : ab = true → n ≤ tv := fun h => by
    rcases htv with ⟨h1, _⟩ | ⟨_, h1, _⟩
    · cases hopt : Zp xak [Yz q, toC q] with
      | none => rw [hkA _ hopt] at h1; cases h1
      | some t =>
        rw [hkA _ hopt] at h1
        injection h1 with h1
        injection h1 with _ h1
        rw [← h1]
        exact hck t hopt
    · rw [h] at h1; cases h1
  have htz2 : vget xts [q.2.2.1, q.2.2.2.1] = some (.int .i64 tz) ∨ (vget xts [q.2.2.1, q.2.2.2.1] = none ∧ ∀ w, (zeroValue 3).run Tryz.prog w = .ok (.int .i64 tz) w) := by
    rcases htz with ⟨h1, h2⟩ | h1
    · exact .inr ⟨h1, fun w => by rw [h2]; exact J8 w⟩
    · exact .inl h1
  iterate 32 (first | (apply Yv; exact rfl; exact rfl) | (apply XK (kt := 3) (et := 3); exact rfl; exact rfl; exact zm; kernel_rfl; exact rfl; exact hk1) | (apply YdB (kt := 263) (et := 3) [q.2.2.1, q.2.2.2.1]; exact rfl; exact rfl; exact zm; kernel_rfl; exact rfl; exact hakL; exact rfl; exact htv) | refine zgd ?_ | fail)
  refine Zb (fun _ : Unit => [(0, .pointer (some ⟨g, 0, none⟩)), (2, .int .i64 n), (4, .pointer (some ⟨gc, 0, none⟩)), (7, .pointer (some ⟨gf, 0, none⟩)), (8, sptr (some ⟨gA, 0, none⟩) (i * 5)), (9, .pointer (some ⟨gl, 0, none⟩)), (13, .bool ab)]) (fun _ => blk gf (.cells #[.int .i64 f.1, .int .i64 f.2.1, .int .i64 f.2.2.1, .int .i64 f.2.2.2.1, .int .i64 f.2.2.2.2.1, .int .i64 f.2.2.2.2.2] 68 (0, 0)) :: blk gl (.cells #[.int .i64 q.2.2.1, .int .i64 q.2.2.2.1] 263 (0, 0)) :: blk gc (.cells #[.int .i64 q.1, .int .i64 q.2.1, .int .i64 q.2.2.1, .int .i64 q.2.2.2.1, .int .i64 q.2.2.2.2] 40 (0, 0)) :: plB c g (some ⟨gA, 0, none⟩) c.l.length sc tA atts.length tc dA dels.length dc :: plS (some ⟨gA, 0, none⟩) c.l.length sc ss :: plT tA tc atts :: plD dA dc dels :: blk a1 (mobj (iE xes) xce) :: blk a2 (vobj xts xct) :: blk a3 (vobj (wE xak) xca) :: many ((ss.take i).map smQ ++ (ss.drop (i + 1)).map smQ) :: [Z]) ?_ ?_
  · intro K2 hK2
    cases ab with
    | false =>
      repeat' (first | refine zgc ?_ | (refine zgf ?_ ?_ <;> intro _ <;> try (exfalso; omega)) | fail)
      apply hK2 ()
      · exact zu
      · exact zk
    | true =>
      have h9 := htn rfl
      repeat' (first | refine zgc ?_ | (refine zgf ?_ ?_ <;> intro _ <;> try (exfalso; omega)) | fail)
      apply hK2 ()
      · exact zu
      · exact zk
  rintro ⟨⟩
  repeat' (first | refine zga ?_ | fail)
  apply Y0 [0, 1, 2, 3, 4, 5, 6, 7, 8, 9, 10, 11, 12, 13, 14, 15] [] [true, true, true, true, true, true, true, true, true, true, true, true]
  kernel_rfl
  kernel_rfl
  exact zy
  (simp only [Yl, nthO]; rfl)
  exact rfl
  repeat' (first | (apply Yv; exact rfl; exact rfl) | (apply YdC (kt := 263) (et := 3) [q.2.2.1, q.2.2.2.1]; exact rfl; exact rfl; exact zm; kernel_rfl; exact rfl; exact htL; exact rfl; exact htz2) | refine zgd ?_ | fail)
  apply Yr _ Ymm
  exact za
  exact rfl
  exact fun _ hw => (YfK c _ _ _ _ _ htz0 hxl (blk gf (.cells #[.int .i64 f.1, .int .i64 f.2.1, .int .i64 f.2.2.1, .int .i64 f.2.2.2.1, .int .i64 f.2.2.2.2.1, .int .i64 f.2.2.2.2.2] 68 (0, 0)) :: blk gl (.cells #[.int .i64 q.2.2.1, .int .i64 q.2.2.2.1] 263 (0, 0)) :: blk gc (.cells #[.int .i64 q.1, .int .i64 q.2.1, .int .i64 q.2.2.1, .int .i64 q.2.2.2.1, .int .i64 q.2.2.2.2] 40 (0, 0)) :: plS (some ⟨gA, 0, none⟩) c.l.length sc ss :: plT tA tc atts :: plD dA dc dels :: blk a1 (mobj (iE xes) xce) :: blk a2 (vobj xts xct) :: blk a3 (vobj (wE xak) xca) :: many ((ss.take i).map smQ ++ (ss.drop (i + 1)).map smQ) :: [Z]) hRZ zk zk hx (hw))
  rintro _ _ ⟨⟨o, rfl⟩, hK0⟩
  rw [hK0]
  repeat' (first | (apply Yi; (repeat (first | with_reducible exact Yh | (with_reducible apply Yd; (repeat (first | with_reducible exact Ye | with_reducible apply Yc)))))) | refine zgd ?_ | fail)
  have hts : TOk xts xct b := hxo.ts
  refine Zb (fun (_ : { z : YM × Nat // TOk z.1 z.2 (b + 1) }) => [(0, .pointer (some ⟨g, 0, none⟩)), (2, .int .i64 n), (4, .pointer (some ⟨gc, 0, none⟩)), (7, .pointer (some ⟨gf, 0, none⟩)), (8, sptr (some ⟨gA, 0, none⟩) (i * 5)), (9, .pointer (some ⟨gl, 0, none⟩)), (13, .bool ab), (14, .int .i64 o)]) (fun z => blk gf (.cells #[.int .i64 f.1, .int .i64 f.2.1, .int .i64 f.2.2.1, .int .i64 f.2.2.2.1, .int .i64 f.2.2.2.2.1, .int .i64 f.2.2.2.2.2] 68 (0, 0)) :: blk gl (.cells #[.int .i64 q.2.2.1, .int .i64 q.2.2.2.1] 263 (0, 0)) :: blk gc (.cells #[.int .i64 q.1, .int .i64 q.2.1, .int .i64 q.2.2.1, .int .i64 q.2.2.2.1, .int .i64 q.2.2.2.2] 40 (0, 0)) :: plB c g (some ⟨gA, 0, none⟩) c.l.length sc tA atts.length tc dA dels.length dc :: plS (some ⟨gA, 0, none⟩) c.l.length sc ss :: plT tA tc atts :: plD dA dc dels :: blk a1 (mobj (iE xes) xce) :: blk a2 (vobj z.1.1 z.1.2) :: blk a3 (vobj (wE xak) xca) :: many ((ss.take i).map smQ ++ (ss.drop (i + 1)).map smQ) :: [Z]) ?_ ?_
  · intro K2 hK2
    rcases htz with ⟨htz, rfl⟩ | htz
    · have hg2 : vget (xts ++ [([q.2.2.1, q.2.2.2.1], Value.int .i64 0, xct)]) [q.2.2.1, q.2.2.2.1] = some (.int .i64 0) := by
        unfold vget at htz ⊢
        rw [Option.map_eq_none_iff] at htz
        rw [List.find?_append, htz]
        simp
      have hL2 : ∀ e ∈ xts ++ [([q.2.2.1, q.2.2.2.1], Value.int .i64 0, xct)], e.1.length = 2 := (hts.ok.snoc rfl _).len
      have hbir : ∀ e ∈ xts, e.2.2 ≠ xct := fun e he => Nat.ne_of_lt (hts.ok.lt e he)
      have hnew : TOk (xts ++ ([q.2.2.1, q.2.2.2.1], Value.int .i64 (0 + 1), xct) :: []) (xct + 1) (b + 1) := ⟨hts.ok.snoc rfl _, fun e he => by
        rcases List.mem_append.1 he with he | he
        · obtain ⟨z, h1, h2, h3⟩ := hts.z e he
          exact ⟨z, h1, h2, by omega⟩
        · rw [List.mem_singleton.1 he]
          exact ⟨0 + 1, rfl, by omega, by omega⟩⟩
      apply Ydl (.p1 0 (.p1 1 (.p1 2 (.p1 3 (.p1 4 (.d2 5 (.p1 6 (.d1 7 (.p1 8 .done))) 7 (.p1 8 (.d1 5 (.p1 6 .done))))))))) [9] [false, true, false, false, true]
      kernel_rfl
      kernel_rfl
      exact zy
      (simp only [Yl, nthO]; rfl)
      repeat' (first | (apply Yv; exact rfl; exact rfl) | (apply ZM (kt := 263) (et := 3) [q.2.2.1, q.2.2.2.1]; exact rfl; exact rfl; exact zm; kernel_rfl; exact rfl; exact htL; exact rfl; exact htz; exact J8) | (apply Xy (kt := 263) (et := 3) [q.2.2.1, q.2.2.2.1]; exact rfl; exact rfl; exact zm; kernel_rfl; exact rfl; exact hL2; exact rfl; exact hg2) | (apply Qx (kt := 263) (et := 3) [q.2.2.1, q.2.2.2.1]; exact rfl; exact rfl; kernel_rfl; exact rfl; exact htL; exact rfl; exact zd; exact htz; exact J8) | (apply Ze (l1 := xts) (l2 := []) (k := [q.2.2.1, q.2.2.2.1]); exact rfl; exact rfl; exact rfl; exact zd; exact hbir) | (apply YkO; (simp only [nthO]; rfl)) | (apply YkM; (simp only [nthO]; rfl); exact zp) | (apply YkN; (simp only [nthO]; rfl); (simp only [nthO]; rfl); exact zp) | (apply YdG; (repeat (first | with_reducible exact Yh | (with_reducible apply Yd; (repeat (first | with_reducible exact Ye | with_reducible apply Yc)))))) | refine zgd ?_ | fail)
      all_goals (
        apply hK2 ⟨(_, _), hnew⟩
        · exact zu
        · exact zk)
    · obtain ⟨l1, bb, l2, e, hne⟩ := Jv htz
      subst e
      have hbir := hts.ok.births
      have hL0 : ∀ e ∈ l1, e.1.length = 2 := fun e he => htL e (List.mem_append.2 (.inl he))
      have hnew : TOk (l1 ++ ([q.2.2.1, q.2.2.2.1], Value.int .i64 (tz + 1), bb) :: l2) xct (b + 1) := ⟨hts.ok.set _, fun e he => by
        rcases List.mem_append.1 he with he | he
        · obtain ⟨z, h1, h2, h3⟩ := hts.z e (List.mem_append.2 (.inl he))
          exact ⟨z, h1, h2, by omega⟩
        · rcases List.mem_cons.1 he with rfl | he
          · exact ⟨tz + 1, rfl, by omega, by omega⟩
          · obtain ⟨z, h1, h2, h3⟩ := hts.z e (List.mem_append.2 (.inr (List.mem_cons_of_mem _ he)))
            exact ⟨z, h1, h2, by omega⟩⟩
      apply Ydl (.p1 0 (.p1 1 (.p1 2 (.p1 3 (.p1 4 (.d2 5 (.p1 6 (.d1 7 (.p1 8 .done))) 7 (.p1 8 (.d1 5 (.p1 6 .done))))))))) [9] [false, true, false, false, true]
      kernel_rfl
      kernel_rfl
      exact zy
      (simp only [Yl, nthO]; rfl)
      repeat' (first | (apply Yv; exact rfl; exact rfl) | (apply Xy (kt := 263) (et := 3) [q.2.2.1, q.2.2.2.1]; exact rfl; exact rfl; exact zm; kernel_rfl; exact rfl; exact htL; exact rfl; exact htz) | (apply Qy (kt := 263) (et := 3) (l1 := l1) (l2 := l2) [q.2.2.1, q.2.2.2.1]; exact rfl; exact rfl; kernel_rfl; exact rfl; exact hL0; exact rfl; exact zd; exact hne) | (apply Ze (l1 := l1) (l2 := l2) (k := [q.2.2.1, q.2.2.2.1]); exact rfl; exact rfl; exact rfl; exact zd; exact hbir) | (apply YkO; (simp only [nthO]; rfl)) | (apply YkM; (simp only [nthO]; rfl); exact zp) | (apply YkN; (simp only [nthO]; rfl); (simp only [nthO]; rfl); exact zp) | (apply YdG; (repeat (first | with_reducible exact Yh | (with_reducible apply Yd; (repeat (first | with_reducible exact Ye | with_reducible apply Yc)))))) | refine zgd ?_ | fail)
      all_goals (
        apply hK2 ⟨(_, _), hnew⟩
        · exact zu
        · exact zk)
  rintro ⟨⟨ts, ct⟩, hts2⟩
  dsimp only at hts2 ⊢
  repeat' (first | refine zga ?_ | fail)
  refine Zb (fun (_ : Option Addr × Nat) => [(0, .pointer (some ⟨g, 0, none⟩)), (2, .int .i64 n), (4, .pointer (some ⟨gc, 0, none⟩)), (7, .pointer (some ⟨gf, 0, none⟩)), (8, sptr (some ⟨gA, 0, none⟩) (i * 5)), (9, .pointer (some ⟨gl, 0, none⟩)), (13, .bool ab), (14, .int .i64 o)]) (fun z => blk gf (.cells #[.int .i64 f.1, .int .i64 f.2.1, .int .i64 f.2.2.1, .int .i64 f.2.2.2.1, .int .i64 f.2.2.2.2.1, .int .i64 f.2.2.2.2.2] 68 (0, 0)) :: blk gl (.cells #[.int .i64 q.2.2.1, .int .i64 q.2.2.2.1] 263 (0, 0)) :: blk gc (.cells #[.int .i64 q.1, .int .i64 q.2.1, .int .i64 q.2.2.1, .int .i64 q.2.2.2.1, .int .i64 q.2.2.2.2] 40 (0, 0)) :: plB c g (some ⟨gA, 0, none⟩) c.l.length sc z.1 (atts.length + 1) z.2 dA dels.length dc :: plS (some ⟨gA, 0, none⟩) c.l.length sc ss :: sl 167 8 z.1 (atts.length + 1) z.2 ((atts ++ [(⟨n, xf, q, o⟩ : AttM)]).flatMap attF) :: plD dA dc dels :: blk a1 (mobj (iE xes) xce) :: blk a2 (vobj ts ct) :: blk a3 (vobj (wE xak) xca) :: many ((ss.take i).map smQ ++ (ss.drop (i + 1)).map smQ) :: [Z]) ?_ ?_
  · intro K2 hK2
    apply Y0 [0, 1, 2, 3, 4, 5, 6, 7, 8, 9, 10, 11, 12, 13, 14, 15, 16, 17, 18] [19] [true, true, true, true, true]
    kernel_rfl
    kernel_rfl
    exact zy
    (simp only [Yl, nthO]; rfl)
    (simp only [Yl, nthO]; rfl)
    repeat' (first | (apply Yv; exact rfl; exact rfl) | (apply Yi; (repeat (first | with_reducible exact Yh | (with_reducible apply Yd; (repeat (first | with_reducible exact Ye | with_reducible apply Yc)))))) | refine zgd ?_ | (refine zgh ?_; intro _) | (refine zgi ?_; intro _ _) | fail)
    rename_i tA' tc'
    have e5 := YiD tA' tc' (atts.length + 1) atts n xf q o
    apply hK2 (tA', tc')
    · exact zu
    · dsimp only
      rw [← e5]
      exact zk
  rintro ⟨uA, uc⟩
  dsimp only
  apply Zx
  refine Zb (fun (_ : { z : List (KL × Int × Nat) × Nat // z.1 = if o = 1 ∧ Zp xak [Yz q, toC q] = none then xak ++ [([Yz q, toC q], n, xca)] else xak }) => [(0, .pointer (some ⟨g, 0, none⟩)), (2, .int .i64 n), (4, .pointer (some ⟨gc, 0, none⟩)), (7, .pointer (some ⟨gf, 0, none⟩)), (8, sptr (some ⟨gA, 0, none⟩) (i * 5)), (9, .pointer (some ⟨gl, 0, none⟩)), (13, .bool ab), (14, .int .i64 o)]) (fun z => blk gf (.cells #[.int .i64 f.1, .int .i64 f.2.1, .int .i64 f.2.2.1, .int .i64 f.2.2.2.1, .int .i64 f.2.2.2.2.1, .int .i64 f.2.2.2.2.2] 68 (0, 0)) :: blk gl (.cells #[.int .i64 q.2.2.1, .int .i64 q.2.2.2.1] 263 (0, 0)) :: blk gc (.cells #[.int .i64 q.1, .int .i64 q.2.1, .int .i64 q.2.2.1, .int .i64 q.2.2.2.1, .int .i64 q.2.2.2.2] 40 (0, 0)) :: plB c g (some ⟨gA, 0, none⟩) c.l.length sc uA (atts.length + 1) uc dA dels.length dc :: plS (some ⟨gA, 0, none⟩) c.l.length sc ss :: sl 167 8 uA (atts.length + 1) uc ((atts ++ [(⟨n, xf, q, o⟩ : AttM)]).flatMap attF) :: plD dA dc dels :: blk a1 (mobj (iE xes) xce) :: blk a2 (vobj ts ct) :: blk a3 (vobj (wE z.1.1) z.1.2) :: many ((ss.take i).map smQ ++ (ss.drop (i + 1)).map smQ) :: [Z]) ?_ ?_
  · intro K2 hK2
    have e9 : wE (xak ++ [([Yz q, toC q], n, xca)]) = wE xak ++ [([q.2.2.1, q.2.2.2.1], Value.int .i64 n, xca)] := by unfold wE; rw [List.map_append]; rfl
    by_cases ho : o = 1
    · cases hopt : Zp xak [Yz q, toC q] with
      | none =>
        have hb0 : ab = false := by rw [← hab, hopt]; rfl
        have hk2 := hkA _ hopt
        subst hb0
        repeat' (first | refine zgd ?_ | (refine zgf ?_ ?_ <;> intro _ <;> try (exfalso; omega)) | fail)
        apply Y0 [0, 1, 2, 3, 4, 5] [6] [false, true, false, false, true]
        kernel_rfl
        kernel_rfl
        exact zy
        (simp only [Yl, nthO]; rfl)
        (simp only [Yl, nthO]; rfl)
        repeat' (first | (apply Yv; exact rfl; exact rfl) | (apply UT (kt := 263) (et := 3) [q.2.2.1, q.2.2.2.1]; exact rfl; exact rfl; exact rfl; kernel_rfl; exact rfl; exact hakL; exact zd; exact hk2) | refine zgd ?_ | fail)
        apply hK2 ⟨(xak ++ [([Yz q, toC q], n, xca)], xca + 1), by rw [if_pos ⟨ho, hopt⟩]⟩
        · exact zu
        · dsimp only
          rw [e9]
          exact zk
      | some t =>
        have hb0 : ab = true := by rw [← hab, hopt]; rfl
        subst hb0
        repeat' (first | (apply Yv; exact rfl; exact rfl) | refine zgc ?_ | (refine zgf ?_ ?_ <;> intro _ <;> try (exfalso; omega)) | fail)
        apply hK2 ⟨(xak, xca), by rw [if_neg (fun h => by rw [hopt] at h; cases h.2)]⟩
        · exact zu
        · exact zk
    · skip
      repeat' (first | (apply Yv; exact rfl; exact rfl) | refine zgc ?_ | (refine zgf ?_ ?_ <;> intro _ <;> try (exfalso; omega)) | fail)
      apply hK2 ⟨(xak, xca), by rw [if_neg (fun h => ho h.1)]⟩
      · exact zu
      · exact zk
  rintro ⟨⟨ak, ca⟩, hak⟩
  dsimp only at hak ⊢
  by_cases ho3 : o = 3
  · repeat' (first | refine zgb ?_ | (refine zgf ?_ ?_ <;> intro _ <;> try (exfalso; omega)) | fail)
    apply Yk (plL c g (some ⟨gA, 0, none⟩) sc (ss.set i (SM.mk xf (some (a1, a2, a3)) xes xce ts ct ak ca xd)) uA uc (atts ++ [(⟨n, xf, q, o⟩ : AttM)]) dA dc dels [Z])
    · intro w hw
      refine Wj (x' := SM.mk xf (some (a1, a2, a3)) xes xce ts ct ak ca xd) hxs rfl (e := ss) (nt := atts.length + 1) (nd := dels.length) (Eq.symm (flat_set hxs rfl)) (by simp) rfl w ?_
      revert w
      exact zk
    apply XU; exact rfl
    exact ⟨_, _, _, _, _, _, _, rfl, Qc hf hxs hfi hc hxo.ak hts2 hak (if_pos (Or.inl ho3)).symm (by rw [ho3]; simp) (by unfold delS; rw [if_neg (fun h => h.1 ho3), List.append_nil]), rfl⟩
  iterate 11 (first | refine zgb ?_ | (refine zgf ?_ ?_ <;> intro _ <;> try (exfalso; omega)) | fail)
  refine Zb (fun (_ : { z : List (Int × Int × Nat) × Nat // z.1 = if o = 3 ∨ (X8 xes (toC q)).isSome = true then xes else xes ++ [(toC q, n + 1, xce)] }) => [(0, .pointer (some ⟨g, 0, none⟩)), (2, .int .i64 n), (4, .pointer (some ⟨gc, 0, none⟩)), (7, .pointer (some ⟨gf, 0, none⟩)), (8, sptr (some ⟨gA, 0, none⟩) (i * 5)), (9, .pointer (some ⟨gl, 0, none⟩)), (13, .bool ab), (14, .int .i64 o)]) (fun z => blk gf (.cells #[.int .i64 f.1, .int .i64 f.2.1, .int .i64 f.2.2.1, .int .i64 f.2.2.2.1, .int .i64 f.2.2.2.2.1, .int .i64 f.2.2.2.2.2] 68 (0, 0)) :: blk gl (.cells #[.int .i64 q.2.2.1, .int .i64 q.2.2.2.1] 263 (0, 0)) :: blk gc (.cells #[.int .i64 q.1, .int .i64 q.2.1, .int .i64 q.2.2.1, .int .i64 q.2.2.2.1, .int .i64 q.2.2.2.2] 40 (0, 0)) :: plB c g (some ⟨gA, 0, none⟩) c.l.length sc uA (atts.length + 1) uc dA dels.length dc :: plS (some ⟨gA, 0, none⟩) c.l.length sc ss :: sl 167 8 uA (atts.length + 1) uc ((atts ++ [(⟨n, xf, q, o⟩ : AttM)]).flatMap attF) :: plD dA dc dels :: blk a1 (mobj (iE z.1.1) z.1.2) :: blk a2 (vobj ts ct) :: blk a3 (vobj (wE ak) ca) :: many ((ss.take i).map smQ ++ (ss.drop (i + 1)).map smQ) :: [Z]) ?_ ?_
  · intro K2 hK2
    have e9 : iE (xes ++ [(toC q, n + 1, xce)]) = iE xes ++ [(q.2.2.2.1, Value.int .i64 (n + 1), xce)] := by unfold iE; rw [List.map_append]; rfl
    have hkT : ∀ t, X8 xes (toC q) = t → mget (iE xes) q.2.2.2.1 = t.map (Value.int .i64) := fun t h => by rw [YgE, ← h]; rfl
    cases hto : X8 xes (toC q) with
    | none =>
      have hk3 := hkT _ hto
      repeat' (first | (apply Yv; exact rfl; exact rfl) | (apply Zc (kt := 3) (et := 3); exact rfl; exact rfl; exact zm; kernel_rfl; exact rfl; exact hk3; exact J8) | refine zgd ?_ | fail)
      apply Y0 [0, 1, 2, 3, 4, 5, 6, 7] [8] [false, false, true, false, true]
      kernel_rfl
      kernel_rfl
      exact zy
      (simp only [Yl, nthO]; rfl)
      (simp only [Yl, nthO]; rfl)
      repeat' (first | (apply Yv; exact rfl; exact rfl) | (apply YgV (kt := 3) (et := 3); exact rfl; exact rfl; exact rfl; kernel_rfl; exact zd; exact hk3) | refine zgd ?_ | fail)
      apply hK2 ⟨(xes ++ [(toC q, n + 1, xce)], xce + 1), by rw [if_neg (fun h => by rw [hto] at h; rcases h with h | h; exact ho3 h; cases h)]⟩
      · exact zu
      · dsimp only
        rw [e9]
        exact zk
    | some t =>
      have hk3 := hkT _ hto
      repeat' (first | (apply Yv; exact rfl; exact rfl) | (apply XK (kt := 3) (et := 3); exact rfl; exact rfl; exact zm; kernel_rfl; exact rfl; exact hk3) | refine zgd ?_ | fail)
      apply hK2 ⟨(xes, xce), by rw [if_pos (.inr (by rw [hto]; rfl))]⟩
      · exact zu
      · exact zk
  rintro ⟨⟨es, ce⟩, hes⟩
  dsimp only at hes ⊢
  have hdq : (toC q = dstF f) = (q.2.2.2.1 = f.2.2.1) := rfl
  by_cases hds : q.2.2.2.1 = f.2.2.1
  rotate_left
  · skip
    repeat' (first | (apply Yv; exact rfl; exact rfl) | refine zgc ?_ | (refine zgf ?_ ?_ <;> intro _ <;> try (exfalso; omega)) | fail)
    apply Yk (plL c g (some ⟨gA, 0, none⟩) sc (ss.set i (SM.mk xf (some (a1, a2, a3)) es ce ts ct ak ca xd)) uA uc (atts ++ [(⟨n, xf, q, o⟩ : AttM)]) dA dc dels [Z])
    · intro w hw
      refine Wj (x' := SM.mk xf (some (a1, a2, a3)) es ce ts ct ak ca xd) hxs rfl (e := ss) (nt := atts.length + 1) (nd := dels.length) (Eq.symm (flat_set hxs rfl)) (by simp) (rfl) w ?_
      revert w
      exact zk
    apply Xq; exact rfl
    exact ⟨_, _, _, _, _, _, _, rfl, Qc hf hxs hfi hc hxo.ak hts2 hak hes (by rw [show decide (toC q = dstF f) = false from decide_eq_false hds, Bool.and_false, Bool.or_false]) (by unfold delS; rw [if_neg (fun h => hds h.2.1), List.append_nil]), rfl⟩
  cases xd with
  | true =>
    repeat' (first | (apply Yv; exact rfl; exact rfl) | refine zgd ?_ | (refine zgf ?_ ?_ <;> intro _ <;> try (exfalso; omega)) | fail)
    apply Yk (plL c g (some ⟨gA, 0, none⟩) sc (ss.set i (SM.mk xf (some (a1, a2, a3)) es ce ts ct ak ca true)) uA uc (atts ++ [(⟨n, xf, q, o⟩ : AttM)]) dA dc dels [Z])
    · intro w hw
      refine Wj (x' := SM.mk xf (some (a1, a2, a3)) es ce ts ct ak ca true) hxs rfl (e := ss) (nt := atts.length + 1) (nd := dels.length) (Eq.symm (flat_set hxs rfl)) (by simp) (rfl) w ?_
      revert w
      exact zk
    apply Xq; exact rfl
    exact ⟨_, _, _, _, _, _, _, rfl, Qc hf hxs hfi hc hxo.ak hts2 hak hes (by rw [Bool.true_or]) (by unfold delS; rw [if_neg (fun h => by cases h.2.2), List.append_nil]), rfl⟩
  | false =>
  repeat' (first | (apply Yv; exact rfl; exact rfl) | refine zgd ?_ | (refine zgf ?_ ?_ <;> intro _ <;> try (exfalso; omega)) | fail)
  apply Xx T (f := smF) (l := ss) (i := i) (q := 5) (o := 4) (b := (SM.mk xf (some (a1, a2, a3)) xes xce xts xct xak xca false)) (b' := (SM.mk xf (some (a1, a2, a3)) xes xce xts xct xak xca true)); exact rfl; exact rfl; exact rfl; exact zd; exact hxs; (simp [smF]); exact fun _ => rfl; exact rfl; exact rfl
  have hil2 := (List.getElem?_eq_some_iff.1 hxs).1
  have hsl2 : (ss.set i (SM.mk xf (some (a1, a2, a3)) xes xce xts xct xak xca true)).length = c.l.length := by rw [List.length_set]; exact hss
  have hset : (ss.set i (SM.mk xf (some (a1, a2, a3)) xes xce xts xct xak xca true))[i]? = some (SM.mk xf (some (a1, a2, a3)) xes xce xts xct xak xca true) := List.getElem?_set_self hil2
  repeat' (first | (apply Yv; exact rfl; exact rfl) | refine zga ?_ | fail)
  apply Y0 [0, 1, 2, 3, 4, 5, 6, 7, 8, 9, 10, 11, 12, 13, 14, 15, 16, 17, 18] [19] [true, true, true, true, true]
  kernel_rfl
  kernel_rfl
  exact zy
  (simp only [Yl, nthO]; rfl)
  (simp only [Yl, nthO]; rfl)
  repeat' (first | (apply Yv; exact rfl; exact rfl) | (apply Yi; (repeat (first | with_reducible exact Yh | (with_reducible apply Yd; (repeat (first | with_reducible exact Ye | with_reducible apply Yc)))))) | refine zgd ?_ | (refine zgh ?_; intro _) | (refine zgi ?_; intro _ _) | fail)
  rename_i dA' dc'
  have e6 := YiJ dA' dc' (dels.length + 1) dels f.1 xf n
  apply Yk (plL c g (some ⟨gA, 0, none⟩) sc (ss.set i (SM.mk xf (some (a1, a2, a3)) es ce ts ct ak ca true)) uA uc (atts ++ [(⟨n, xf, q, o⟩ : AttM)]) dA' dc' (dels ++ [(f.1, xf, n)]) [Z])
  · intro w hw
    refine Wj (x' := SM.mk xf (some (a1, a2, a3)) es ce ts ct ak ca true) hxs rfl (e := ss.set i (SM.mk xf (some (a1, a2, a3)) xes xce xts xct xak xca true)) (nt := atts.length + 1) (nd := dels.length + 1) (Yhd hil2 rfl) (by simp) (by simp) w ?_
    rw [← e6]
    revert w
    exact zk
  apply Xq; exact rfl
  exact ⟨_, _, _, _, _, _, _, rfl, Qc hf hxs hfi hc hxo.ak hts2 hak hes (by rw [decide_eq_true ho3, decide_eq_true (by rw [hdq]; exact hds)]; rfl) (by unfold delS; rw [if_pos ⟨ho3, hds, rfl⟩]; rfl), rfl⟩
open Go.RowKit Go.Eng Go.Nw Go.Rt
structure PInv (c : PlC) (n : Int) (J : Nat) (ss : List SM) (atts : List AttM) (dels : List (Int × Int × Int)) : Prop where
  pl : Pl c.l c.s.sch n J ⟨ss.map SM.st, atts, dels⟩
  len : ss.length = c.l.length
  ok : ∀ x ∈ ss, x.Ok (atts.length : Nat)
  dl : dels.length ≤ atts.length
theorem Yls (s : Sch) (n : Int) : (atE s n).length ≤ s.cells.length := by
  unfold atE
  split
  · exact Nat.zero_le _
  · exact List.length_filter_le _ _
theorem PInv.start (c : PlC) : PInv c 0 0 (List.replicate c.l.length Xc) [] [] := by
  refine ⟨?_, List.length_replicate, fun x hx => ?_, Nat.le_refl _⟩
  · have h : (List.replicate c.l.length Xc).map SM.st = c.l.map fun _ => Yf4 := by
      rw [List.map_replicate, List.map_const']
      rfl
    rw [h]
    exact .start
  · rw [List.eq_of_mem_replicate hx]
    exact ⟨fun h => absurd h (by decide), ⟨VOk.nil, fun e (h : e ∈ ([] : YM)) => absurd h (List.not_mem_nil)⟩, fun e (h : e ∈ ([] : List (KL × Int × Nat))) => absurd h (List.not_mem_nil)⟩
theorem PInv.rel {c : PlC} {n : Int} {ss ss' : List SM} {atts : List AttM} {dels : List (Int × Int × Int)} (h : PInv c n 0 ss atts dels) (hr : RelS c.l n (atts.length : Nat) ss ss' c.l.length) : PInv c n 1 ss' atts dels := by
  obtain ⟨h1, h2⟩ := hr
  refine ⟨.rel (ss'.map SM.st) h.pl (by rw [List.length_map]; exact h1) fun i f x a1 a2 => ?_, h1, fun y hy => ?_, h.dl⟩
  · rw [List.getElem?_map] at a2
    cases hx : ss[i]? with
    | none => rw [hx] at a2; cases a2
    | some z =>
      rw [hx] at a2
      obtain ⟨x', b1, _, b3⟩ := h2 i f z a1 hx
      rw [if_pos (List.getElem?_eq_some_iff.1 a1).1] at b3
      rw [List.getElem?_map, b1, ← Option.some.inj a2]
      exact congrArg some b3
  · obtain ⟨i, hi⟩ := List.mem_iff_getElem?.1 hy
    have hil := (List.getElem?_eq_some_iff.1 hi).1
    obtain ⟨f, hf⟩ : ∃ f, c.l[i]? = some f := ⟨_, List.getElem?_eq_getElem (by omega)⟩
    obtain ⟨z, hz⟩ : ∃ z, ss[i]? = some z := ⟨_, List.getElem?_eq_getElem (by rw [h.len]; omega)⟩
    obtain ⟨x', b1, b2, _⟩ := h2 i f z hf hz
    rw [hi] at b1
    rw [Option.some.inj b1]
    exact b2
theorem PInv.att {c : PlC} {n : Int} {j : Nat} {q : Cel} {ss ss' : List SM} {atts atts' : List AttM} {dels dels' : List (Int × Int × Int)} (h : PInv c n (j + 1) ss atts dels) (hq : (atE c.s.sch n)[j]? = some q) (ha : AttR c.l n (atts.length : Nat) q ss atts dels ss' atts' dels') :
    PInv c n (j + 2) ss' atts' dels' ∧ atts'.length ≤ atts.length + 1 ∧ dels.length ≤ dels'.length := by
  rcases ha with ⟨rfl, rfl, rfl, hn⟩ | ⟨i, f, x, o, x', hf, hx, hfi, hc, rfl, hst, hxo, rfl, rfl⟩
  · refine ⟨⟨.skip h.pl hq fun i f x a1 a2 a3 => ?_, h.len, h.ok, h.dl⟩, Nat.le_succ _, Nat.le_refl _⟩
    have a2 : (ss'.map SM.st)[i]? = some x := a2
    rw [List.getElem?_map] at a2
    cases hx : ss'[i]? with
    | none => rw [hx] at a2; cases a2
    | some z =>
      rw [hx] at a2
      rw [← Option.some.inj a2]
      exact hn i f z a1 hx a3
  · have hm : (ss.set i x').map SM.st = (ss.map SM.st).set i (ZS f x.st q n o) := by rw [List.map_set, hst]
    have hd : (delS f x.st q n o).length ≤ 1 := by unfold delS; split <;> simp
    refine ⟨⟨?_, by rw [List.length_set]; exact h.len, fun y hy => ?_, ?_⟩, by simp, by simp⟩
    · rw [hm]
      exact .att o h.pl hq hf (by show (ss.map SM.st)[i]? = _; rw [List.getElem?_map, hx]; rfl) hfi hc
    · rw [List.length_append, List.length_singleton]
      rcases List.mem_or_eq_of_mem_set hy with hy | rfl
      · exact (h.ok y hy).mono (by omega)
      · exact hxo.mono (by omega)
    · rw [List.length_append, List.length_append, List.length_singleton]
      have := h.dl
      omega
theorem PInv.next {c : PlC} {n : Int} {ss : List SM} {atts : List AttM} {dels ds : List (Int × Int × Int)} (h : PInv c n ((atE c.s.sch n).length + 1) ss atts dels) (hp : ds.Perm dels) : PInv c (n + 1) 0 ss atts ds :=
  ⟨.next ds h.pl hp, h.len, h.ok, by rw [hp.length_eq]; exact h.dl⟩
theorem YeD (c : PlC) (n b : Int) (hn : 0 ≤ n ∧ n ≤ 1000000) (hl : c.l.length ≤ 1000) (hf : ∀ f ∈ c.l, YX 32 f = 0) {g : Nat} {sA : Option Addr} {sc : Nat} {ss : List SM} (hss : ss.length = c.l.length) (hok : ∀ x ∈ ss, x.Ok b) {tA : Option Addr} {tc : Nat} {atts : List AttM} {dA : Option Addr} {dc : Nat} {dels : List (Int × Int × Int)}
    {B : Nat} {w0 : World} {Z : HP} {w : World} (hr : Rd B w0 [Z] c.fA (c.l.flatMap flwF)) (hw : St B w0 (plL c g sA sc ss tA tc atts dA dc dels [Z]) w) :
    Calls Tryz.prog 151 [.pointer (some ⟨g, 0, none⟩), .int .i64 n].toArray w (Post B w0 fun v K => ∃ ss', v = .tuple #[] ∧ RelS c.l n b ss ss' c.l.length ∧ K = plL c g sA sc ss' tA tc atts dA dc dels [Z]) := by
  have hZ : ∀ w, St B w0 [many (plT tA tc atts :: plD dA dc dels :: [Z])] w → St B w0 [Z] w := fun w h => ((h.perm (.openT _)).tail).tail
  have h1 : St B w0 (plB c g sA c.l.length sc tA atts.length tc dA dels.length dc :: plS sA c.l.length sc ss :: many (ss.map smQ) :: plT tA tc atts :: plD dA dc dels :: [Z]) w := by
    revert w
    exact zk
  refine (Ybf (Z := many (plT tA tc atts :: plD dA dc dels :: [Z])) c n b hn hl hf hss hok (hr.mono hZ) (h1.perm (.cons _ (.cons _ (.cons _ (.closeT _)))))).mono ?_
  rintro e w' ⟨v, K, h1, hst, ss', h2, h3, rfl⟩
  refine ⟨v, _, h1, ?_, ss', h2, h3, rfl⟩
  have h4 : St B w0 (plB c g sA c.l.length sc tA atts.length tc dA dels.length dc :: plS sA c.l.length sc ss' :: many (ss'.map smQ) :: plT tA tc atts :: plD dA dc dels :: [Z]) w' := hst.perm (.cons _ (.cons _ (.cons _ (.openT _))))
  clear hst h1
  revert w'
  exact zk
theorem Yfg (c : PlC) (q : Cel) (n b : Int) (hn : 0 ≤ n ∧ n ≤ 1000000) (hb : 0 ≤ b ∧ b ≤ 100000000) (hl : c.l.length ≤ 1000) (hid : c.l.Pairwise fun a b => a.1 ≠ b.1) (hxl : c.xs.length ≤ 1000000) {g : Nat} {sA : Option Addr} {sc : Nat} {ss : List SM} (hss : ss.length = c.l.length) (hok : ∀ x ∈ ss, x.Ok b)
    {tA : Option Addr} {tc : Nat} {atts : List AttM} {dA : Option Addr} {dc : Nat} {dels : List (Int × Int × Int)} (hat : atts.length ≤ 100000000) (hdl : dels.length ≤ 100000000) {B : Nat} {w0 : World} {Z : HP} {w : World} (hr : Rd B w0 [Z] c.fA (c.l.flatMap flwF)) (hx : XIn B w0 [Z] c.xA c.xs) {H : List HP} (R : List HP) (hR : ∀ w, St B w0 R w → St B w0 [Z] w) (hin : ∀ w, St B w0 H w → St B w0 (plL c g sA sc ss tA tc atts dA dc dels R) w) (hw : St B w0 H w) :
    Calls Tryz.prog 152 [.pointer (some ⟨g, 0, none⟩), celV q, .int .i64 n].toArray w (Post B w0 fun v K => ∃ ss' tA' tc' atts' dA' dc' dels', v = .tuple #[] ∧ AttR c.l n b q ss atts dels ss' atts' dels' ∧ K = plL c g sA sc ss' tA' tc' atts' dA' dc' dels' R) := by
  have hZ : ∀ w, St B w0 [many R] w → St B w0 [Z] w := fun w h => hR w (h.perm (.openT R))
  refine (YcD (Z := many R) c q n b hn hb hl hid hxl hss hok hat hdl (hr.mono hZ) (hx.mono hZ) ((hin w hw).perm (.cons _ (.cons _ (.cons _ (.cons _ (.cons _ (.closeT R)))))))).mono ?_
  rintro e w' ⟨v, K, h1, hst, ss', tA', tc', atts', dA', dc', dels', h2, h3, rfl⟩
  exact ⟨v, _, h1, hst.perm (.cons _ (.cons _ (.cons _ (.cons _ (.cons _ (.openT R)))))), ss', tA', tc', atts', dA', dc', dels', h2, h3, rfl⟩
open Go.RowKit Go.Eng Go.Nw Go.Rt
set_option maxRecDepth 10000 in
set_option maxHeartbeats 4000000 in
theorem YhQ (c : PlC) (n : Int) (hn : 0 ≤ n ∧ n ≤ 1000000) (hl : c.l.length ≤ 1000) (hid : c.l.Pairwise fun a b => a.1 ≠ b.1) (hf : ∀ f ∈ c.l, YX 32 f = 0) (hxl : c.xs.length ≤ 1000000) (hsl : c.s.cells.length ≤ 1000) {g : Nat} {sA : Option Addr} {sc : Nat} {ss : List SM}
    {tA : Option Addr} {tc : Nat} {atts : List AttM} {dA : Option Addr} {dc : Nat} {dels : List (Int × Int × Int)} (hp : PInv c n 0 ss atts dels) (hat : atts.length ≤ 50000000) {B : Nat} {w0 : World} {Z : HP} {w : World} (hr : Rd B w0 [Z] c.fA (c.l.flatMap flwF)) (hs : Rd B w0 [Z] c.s.A (c.s.cells.flatMap celF)) (hx : XIn B w0 [Z] c.xA c.xs) (hw : St B w0 (plL c g sA sc ss tA tc atts dA dc dels [Z]) w) :
    Calls Tryz.prog 94 [.pointer (some ⟨g, 0, none⟩), .int .i64 n].toArray w (Post B w0 fun v K => ∃ ss' tA' tc' atts' dA' dc' dels', v = .tuple #[] ∧ PInv c (n + 1) 0 ss' atts' dels' ∧ atts'.length ≤ atts.length + 1000 ∧ K = plL c g sA sc ss' tA' tc' atts' dA' dc' dels' [Z]) := by
  refine Yf Tryz.func94 Tryz.ntmps94 rfl rfl hw ?_
  have hdl := hp.dl
  have hcl := Yls c.s.sch n
  have hcs : c.s.sch.cells = c.s.cells := rfl
  rw [hcs] at hcl
  repeat' (first | refine zga ?_ | fail)
  apply Yr _ Yl7
  exact za
  exact rfl
  exact fun _ hw => (YeD c n (atts.length : Nat) hn hl hf hp.len hp.ok hr (hw))
  rintro _ _ ⟨s1, rfl, hR1, rfl⟩
  have hp1 := hp.rel hR1
  have p2 := fun {H' : List HP} {w : World} (hr : Rd B w0 H' c.s.A (c.s.cells.flatMap celF)) (hw : St B w0 H' w) => Yj7 c.s n hr (by omega) hw
  unfold SchM.val at p2
  repeat' (first | (apply YW T; exact rfl; exact zm; exact rfl; exact zv; exact rfl; exact rfl) | refine zgd ?_ | fail)
  apply Yr _ en14
  exact za
  exact rfl
  exact fun _ hw => (p2 (hs.mono zk) (hw))
  rintro _ _ ⟨lA, lcap, rfl, rfl⟩
  obtain ⟨L, hL⟩ : ∃ L, atE c.s.sch n = L := ⟨_, rfl⟩
  rw [hL] at hcl ⊢
  repeat' (first | refine zgb ?_ | fail)
  refine Yn (fun (z : Nat × List SM × Option Addr × Nat × List AttM × Option Addr × Nat × List (Int × Int × Int)) => [(23, .int .i64 (z.1 : Nat)), (22, .int .i64 L.length), (21, .slice lA L.length lcap), (4, .int .i64 dels.length), (0, .pointer (some ⟨g, 0, none⟩)), (1, .int .i64 n)])
    (fun (j, s, uA, uc, u, vA, vc, v) => cels lA lcap L :: plL c g sA sc s uA uc u vA vc v [Z]) (fun (j, s, uA, uc, u, vA, vc, v) => j ≤ L.length ∧ PInv c n (j + 1) s u v ∧ u.length ≤ atts.length + j ∧ dels.length ≤ v.length) (fun z => L.length - z.1) (0, s1, tA, tc, atts, dA, dc, dels) ⟨Nat.zero_le _, hp1, Nat.le_refl _, Nat.le_refl _⟩ ?_ ?_ ?_
  · exact zu
  · intro w hw; exact hw
  rintro ⟨j, s2, uA, uc, u, vA, vc, v⟩ ⟨hj, hpj, hu, hv⟩ K hK
  dsimp only at hj hpj hu hv ⊢
  have hud := hpj.dl
  by_cases hlt : j < L.length
  rotate_left
  · obtain rfl : j = L.length := by omega
    clear hK
    have hsub : v.length - (dels.length : Int).toNat = v.length - dels.length := by rw [Int.toNat_natCast]
    repeat' (first | (apply Jz T; exact rfl; exact rfl; exact rfl; exact rfl; omega; exact rfl) | refine zgd ?_ | (refine zge ?_ ?_ <;> intro _ <;> try (exfalso; omega)) | fail)
    apply Yr _ Yl9
    exact za
    exact rfl
    exact fun _ hw => (Yc9 v dels.length hv (by omega) (A := vA) (cap := vc) (H := cels lA lcap L :: plB c g sA c.l.length sc uA u.length uc vA v.length vc :: plS sA c.l.length sc s2 :: plT uA uc u :: many (s2.map smQ) :: [Z]) zk (hw))
    rintro _ _ ⟨rfl, v', hv', rfl⟩
    repeat' (first | refine zga ?_ | fail)
    apply Yk (plL c g sA sc s2 uA uc u vA vc v' [Z])
    · intro w hw
      have hvl := hv'.length_eq
      unfold plL
      rw [hvl]
      revert w
      clear hvl
      exact zk
    apply Xq; exact rfl
    subst hL
    exact ⟨_, _, _, _, _, _, _, rfl, hpj.next hv', by omega, rfl⟩
  obtain ⟨q, hq⟩ : ∃ q, L[j]? = some q := ⟨_, List.getElem?_eq_getElem hlt⟩
  have p3 := fun {H' : List HP} {w : World} (hin : ∀ w, St B w0 H' w → St B w0 (plL c g sA sc s2 uA uc u vA vc v (cels lA lcap L :: [Z])) w) (hw : St B w0 H' w) => Yfg c q n (u.length : Nat) hn (by omega) hl hid hxl hpj.len hpj.ok (by omega) (by omega) hr hx (cels lA lcap L :: [Z]) (fun w hw => hw.tail) hin hw
  unfold celV at p3
  have hrL : Rd B w0 (cels lA lcap L :: plL c g sA sc s2 uA uc u vA vc v [Z]) lA (L.flatMap celF) := Rd.sl List.mem_cons_self
  repeat' (first | refine zgd ?_ | (refine zge ?_ ?_ <;> intro _ <;> try (exfalso; omega)) | (refine zgh ?_; intro _) | fail)
  apply Yr _ Yl8
  exact za
  exact rfl
  exact fun _ hw => (p3 zk (hw))
  rintro _ _ ⟨s3, uA', uc', u', vA', vc', v', rfl, ha, rfl⟩
  obtain ⟨hp3, hu3, hv3⟩ := hpj.att (by rw [hL]; exact hq) ha
  repeat' (first | refine zgd ?_ | fail)
  apply hK (j + 1, s3, uA', uc', u', vA', vc', v')
  · exact ⟨by omega, hp3, by omega, by omega⟩
  · dsimp only; omega
  · exact zu
  · exact zk
open Go.RowKit Go.Eng Go.Nw Go.Rt
theorem Yjd {s : Sch} : (ZY s).2 = if Y7 s = true then 0 else 1 := by
  unfold ZY
  cases h : Y7 s <;> simp
set_option maxRecDepth 10000 in
set_option maxHeartbeats 2000000 in
theorem YfN (c : PlC) (slots : Int) (hl : c.l.length ≤ 1000000) (hsl : c.s.cells.length ≤ 1000000) (hxl : c.xs.length ≤ 1000000) {B : Nat} {w0 : World} {H : List HP} {w : World} (ht : TabsB B w0) (hr : Rd B w0 H c.fA (c.l.flatMap flwF)) (hs : Rd B w0 H c.s.A (c.s.cells.flatMap celF)) (hx : XIn B w0 H c.xA c.xs) (hw : St B w0 H w) :
    Calls Tryz.prog 92 [.slice c.fA c.l.length c.fc, c.s.val, .slice c.xA c.xs.length c.xc, .int .i64 slots].toArray w (Post B w0 fun v K => (∃ e : Int, v = .int .i64 e ∧ (e = 0 → (YR 32 c.l).2 = 0 ∧ Y7 c.s.sch = true ∧ 0 ≤ slots ∧ slots ≤ 4096)) ∧ K = H) := by
  refine Yf Tryz.func92 Tryz.ntmps92 rfl rfl hw ?_
  obtain ⟨⟨f1, f2⟩, hfe⟩ : ∃ z, YR 32 c.l = z := ⟨_, rfl⟩
  have hfe2 : (YR 32 c.l).2 = f2 := by rw [hfe]
  have p1 := fun {H' : List HP} {w : World} (hr : Rd B w0 H' c.fA (c.l.flatMap flwF)) (hw : St B w0 H' w) => YU 32 c.l (by omega) (cap := c.fc) hr hw
  rw [hfe] at p1
  dsimp only at p1
  have p2 := fun {H' : List HP} {w : World} (hr : Rd B w0 H' c.s.A (c.s.cells.flatMap celF)) (hw : St B w0 H' w) => Yaz c.s ht hr (by omega) hw
  obtain ⟨⟨t1, t2⟩, hte⟩ : ∃ z, ZY c.s.sch = z := ⟨_, rfl⟩
  have hte2 : t2 = if Y7 c.s.sch = true then 0 else 1 := by have := @Yjd c.s.sch; rw [hte] at this; exact this
  rw [hte] at p2
  dsimp only at p2
  have p3 := fun {H' : List HP} {w : World} (hx : XIn B w0 H' c.xA c.xs) (hw : St B w0 H' w) => Ye4 c.xs hxl (cap := c.xc) hx hw
  unfold SchM.val at p2 ⊢
  repeat' (first | refine zga ?_ | (refine zgh ?_; intro _) | fail)
  first | apply Ya en51 | apply Yb en51
  exact za
  exact rfl
  exact fun _ hw => (p1 (hr.mono zk) hw)
  by_cases h1 : f2 = 0
  rotate_left
  · repeat' (first | refine zgc ?_ | (refine zge ?_ ?_ <;> intro _ <;> try (exfalso; omega)) | fail)
    apply Yk H
    · exact zk
    apply Yg; exact rfl; exact rfl; exact ⟨⟨1, rfl, fun h => absurd h (by decide)⟩, rfl⟩
  repeat' (first | refine zgc ?_ | (refine zge ?_ ?_ <;> intro _ <;> try (exfalso; omega)) | fail)
  first | apply Ya en47 | apply Yb en47
  exact za
  exact rfl
  exact fun _ hw => (p2 (hs.mono zk) hw)
  cases hfm : Y7 c.s.sch with
  | false =>
    rw [hfm, if_neg (by decide)] at hte2
    subst hte2
    repeat' (first | refine zgc ?_ | (refine zge ?_ ?_ <;> intro _ <;> try (exfalso; omega)) | fail)
    apply Yk H
    · exact zk
    apply Yg; exact rfl; exact rfl; exact ⟨⟨1, rfl, fun h => absurd h (by decide)⟩, rfl⟩
  | true =>
  rw [hfm, if_pos rfl] at hte2
  subst hte2
  repeat' (first | refine zgc ?_ | (refine zge ?_ ?_ <;> intro _ <;> try (exfalso; omega)) | fail)
  apply Yr _ Yl6
  exact za
  exact rfl
  exact fun _ hw => (p3 (hx.mono zk) (hw))
  rintro _ _ ⟨⟨xi, xe, rfl⟩, hK0⟩
  rw [hK0]
  by_cases h3 : xe = 0
  rotate_left
  · repeat' (first | refine zgc ?_ | (refine zge ?_ ?_ <;> intro _ <;> try (exfalso; omega)) | fail)
    apply Yk H
    · exact zk
    apply Yg; exact rfl; exact rfl; exact ⟨⟨1, rfl, fun h => absurd h (by decide)⟩, rfl⟩
  repeat' (first | refine zgc ?_ | (refine zge ?_ ?_ <;> intro _ <;> try (exfalso; omega)) | fail)
  all_goals (
    apply Yk H
    · exact zk
    apply Yg; exact rfl; exact rfl
    refine ⟨⟨_, rfl, fun h => ?_⟩, rfl⟩
    first
      | exact absurd h (by decide)
      | exact ⟨by rw [hfe2]; exact h1, rfl, by omega, by omega⟩)
theorem UX {nodes : Int} {l : List Flw} (h : (YR nodes l).2 = 0) : (∀ f ∈ l, YX nodes f = 0) ∧ l.Pairwise fun a b => a.1 ≠ b.1 := by
  have hstep : ∀ j, j < l.length → YX nodes (XA l j) = 0 ∧ (0 < j → (XA l (j - 1)).1 < (XA l j).1) := fun j hj => by
    unfold YR at h
    split at h
    · cases h
    split at h
    · cases h
    have := Y3.1 h j (Nat.zero_le _) (by omega)
    unfold Y4 at this
    split at this
    · contradiction
    rename_i h2
    refine ⟨Decidable.not_not.1 h2, fun h0 => ?_⟩
    split at this
    · cases this
    · omega
  have hlt : ∀ {i j : Nat}, i < j → j < l.length → (XA l i).1 < (XA l j).1 := by
    intro i j hij hj
    induction j with
    | zero => omega
    | succ j ih =>
      have h1 := (hstep (j + 1) hj).2 (by omega)
      rw [Nat.add_sub_cancel] at h1
      rcases Nat.lt_or_ge i j with h2 | h2
      · have := ih h2 (by omega); omega
      · obtain rfl : i = j := by omega
        exact h1
  have hat : ∀ {i : Nat} (hi : i < l.length), XA l i = l[i] := fun hi => by unfold XA; rw [List.getD_eq_getElem?_getD, List.getElem?_eq_getElem hi]; rfl
  refine ⟨fun f hf => ?_, List.pairwise_iff_getElem.2 fun i j hi hj hij e => ?_⟩
  · obtain ⟨i, hi, rfl⟩ := List.mem_iff_getElem.1 hf
    rw [← hat hi]
    exact (hstep i hi).1
  · have := hlt hij hj
    rw [hat hi, hat hj, e] at this
    omega
theorem YkB (c : PlC) (n : Int) (hn : 0 ≤ n ∧ n ≤ 1000000) (hl : c.l.length ≤ 1000) (hid : c.l.Pairwise fun a b => a.1 ≠ b.1) (hf : ∀ f ∈ c.l, YX 32 f = 0) (hxl : c.xs.length ≤ 1000000) (hsl : c.s.cells.length ≤ 1000) {g : Nat} {sA : Option Addr} {sc : Nat} {ss : List SM}
    {tA : Option Addr} {tc : Nat} {atts : List AttM} {dA : Option Addr} {dc : Nat} {dels : List (Int × Int × Int)} (hp : PInv c n 0 ss atts dels) (hat : atts.length ≤ 50000000) {B : Nat} {w0 : World} {Z : HP} {w : World} (hr : Rd B w0 [Z] c.fA (c.l.flatMap flwF)) (hs : Rd B w0 [Z] c.s.A (c.s.cells.flatMap celF)) (hx : XIn B w0 [Z] c.xA c.xs) {H : List HP} (R : List HP) (hR : ∀ w, St B w0 R w → St B w0 [Z] w) (hin : ∀ w, St B w0 H w → St B w0 (plL c g sA sc ss tA tc atts dA dc dels R) w) (hw : St B w0 H w) :
    Calls Tryz.prog 94 [.pointer (some ⟨g, 0, none⟩), .int .i64 n].toArray w (Post B w0 fun v K => ∃ ss' tA' tc' atts' dA' dc' dels', v = .tuple #[] ∧ PInv c (n + 1) 0 ss' atts' dels' ∧ atts'.length ≤ atts.length + 1000 ∧ K = plL c g sA sc ss' tA' tc' atts' dA' dc' dels' R) := by
  have hZ : ∀ w, St B w0 [many R] w → St B w0 [Z] w := fun w h => hR w (h.perm (.openT R))
  refine (YhQ (Z := many R) c n hn hl hid hf hxl hsl hp hat (hr.mono hZ) (hs.mono hZ) (hx.mono hZ) ((hin w hw).perm (.cons _ (.cons _ (.cons _ (.cons _ (.cons _ (.closeT R)))))))).mono ?_
  rintro e w' ⟨v, K, h1, hst, ss', tA', tc', atts', dA', dc', dels', h2, h3, h4, rfl⟩
  exact ⟨v, _, h1, hst.perm (.cons _ (.cons _ (.cons _ (.cons _ (.cons _ (.openT R)))))), ss', tA', tc', atts', dA', dc', dels', h2, h3, h4, rfl⟩
structure RunO (c : PlC) (slots : Int) (H : List HP) (v : Value) (K : List HP) : Prop where
  go : (∃ e : Int, e ≠ 0 ∧ v = .tuple #[.agg #[.slice none 0 0, .slice none 0 0], .int .i64 e] ∧ K = H) ∨
    ∃ ss tA tc atts dA dc dels, v = .tuple #[.agg #[.slice tA (atts : List AttM).length tc, .slice dA (dels : List (Int × Int × Int)).length dc], .int .i64 0] ∧ PInv c slots 0 ss atts dels ∧ atts.length ≤ 50000000 ∧ (YR 32 c.l).2 = 0 ∧ Y7 c.s.sch = true ∧ 0 ≤ slots ∧ K = plT tA tc atts :: plD dA dc dels :: H
set_option maxRecDepth 10000 in
set_option maxHeartbeats 4000000 in
theorem YhD (c : PlC) (slots : Int) (hl : c.l.length ≤ 1000) (hsl : c.s.cells.length ≤ 1000) (hxl : c.xs.length ≤ 1000000) {B : Nat} {w0 : World} {H : List HP} {w : World} (ht : TabsB B w0) (hr : Rd B w0 H c.fA (c.l.flatMap flwF)) (hs : Rd B w0 H c.s.A (c.s.cells.flatMap celF)) (hx : XIn B w0 H c.xA c.xs) (hw : St B w0 H w) :
    Calls Tryz.prog 38 [.slice c.fA c.l.length c.fc, c.s.val, .slice c.xA c.xs.length c.xc, .int .i64 slots].toArray w (Post B w0 (RunO c slots H)) := by
  refine Yf Tryz.func38 Tryz.ntmps38 rfl rfl hw ?_
  have hop : ∀ w, St B w0 [many H] w → St B w0 H w := fun w hw => hw.perm (.openT H)
  have hr := hr.mono hop
  have hs := hs.mono hop
  have hx := hx.mono hop
  refine VP [many H] (fun w hw => hw.perm (.closeT H)) ?_
  have p1 := fun {H' : List HP} {w : World} (hr : Rd B w0 H' c.fA (c.l.flatMap flwF)) (hs : Rd B w0 H' c.s.A (c.s.cells.flatMap celF)) (hx : XIn B w0 H' c.xA c.xs) (hw : St B w0 H' w) => YfN c slots (by omega) (by omega) hxl ht hr hs hx hw
  have p2 := fun {H' : List HP} {w : World} (hw : St B w0 H' w) => Yat c hl hw
  unfold SchM.val at p1 p2 ⊢
  repeat' (first | refine zgc ?_ | (refine zgh ?_; intro _) | fail)
  apply Yr _ en92
  exact za
  exact rfl
  exact fun _ hw => (p1 (hr.mono zk) (hs.mono zk) (hx.mono zk) (hw))
  rintro _ _ ⟨⟨e, rfl, he⟩, hK0⟩
  rw [hK0]
  by_cases he0 : e = 0
  rotate_left
  · repeat' (first | refine zgd ?_ | (refine zge ?_ ?_ <;> intro _ <;> try (exfalso; omega)) | fail)
    refine Wf T (H2 := H) rfl rfl rfl zm rfl rfl (fun w hw => hop w ?_) ⟨.inl ⟨e, he0, rfl, rfl⟩⟩
    revert w
    exact zk
  obtain ⟨hfe, hfm, hs0, hs1⟩ := he he0
  obtain ⟨hfl, hid⟩ := UX hfe
  rename Nat => gr
  repeat' (first | refine zgc ?_ | (refine zge ?_ ?_ <;> intro _ <;> try (exfalso; omega)) | fail)
  apply Yr _ en93
  exact za
  exact rfl
  exact fun _ hw => (p2 (hw))
  rintro _ _ ⟨g, sA, sc, rfl, rfl⟩
  repeat' (first | refine zgb ?_ | fail)
  refine Yn (fun (z : Nat × List SM × Option Addr × Nat × List AttM × Option Addr × Nat × List (Int × Int × Int)) => [(27, .int .i64 (z.1 : Nat)), (26, .int .i64 slots), (11, .pointer (some ⟨g, 0, none⟩)), (9, .int .i64 0), (8, .pointer (some ⟨gr, 0, none⟩))])
    (fun (j, s, uA, uc, u, vA, vc, v) => plL c g sA sc s uA uc u vA vc v [blk gr (.cells (Value.agg #[.slice none 0 0, .slice none 0 0]).cells 84 (0, 0)), many H]) (fun (j, s, uA, uc, u, vA, vc, v) => (j : Int) ≤ slots ∧ PInv c (j : Nat) 0 s u v ∧ u.length ≤ 1000 * j) (fun z => slots.toNat - z.1) (0, List.replicate c.l.length Xc, none, 0, [], none, 0, []) ⟨hs0, PInv.start c, Nat.le_refl _⟩ ?_ ?_ ?_
  · exact zu
  · exact zk
  rintro ⟨j, s, uA, uc, u, vA, vc, v⟩ ⟨hj, hp, hu⟩ K hK
  dsimp only at hj hp hu ⊢
  have hul : u.length ≤ 50000000 := by omega
  by_cases hlt : (j : Int) < slots
  rotate_left
  · obtain rfl : slots = (j : Nat) := by omega
    clear hK
    repeat' (first | (apply YW T; exact rfl; exact zm; exact rfl; exact zv; exact rfl; exact rfl) | refine zgd ?_ | (refine zge ?_ ?_ <;> intro _ <;> try (exfalso; omega)) | fail)
    refine Wf T (H2 := plT uA uc u :: plD vA vc v :: H) rfl rfl rfl zm rfl rfl (fun w hw => ?_) ⟨.inr ⟨s, uA, uc, u, vA, vc, v, rfl, hp, hul, hfe, hfm, hs0, rfl⟩⟩
    have h5 : St B w0 (plT uA uc u :: plD vA vc v :: [many H]) w := by
      revert w
      exact zk
    exact h5.perm (.cons _ (.cons _ (.openT H)))
  have p3 := fun {H' : List HP} {w : World} (hin : ∀ w, St B w0 H' w → St B w0 (plL c g sA sc s uA uc u vA vc v [blk gr (.cells (Value.agg #[.slice none 0 0, .slice none 0 0]).cells 84 (0, 0)), many H]) w) (hw : St B w0 H' w) => YkB c (j : Nat) (by omega) hl hid hfl hxl hsl hp hul hr hs hx [blk gr (.cells (Value.agg #[.slice none 0 0, .slice none 0 0]).cells 84 (0, 0)), many H] (fun w hw => hw.tail) hin hw
  repeat' (first | refine zgb ?_ | (refine zge ?_ ?_ <;> intro _ <;> try (exfalso; omega)) | fail)
  apply Yr _ en94
  exact za
  exact rfl
  exact fun _ hw => (p3 zk (hw))
  rintro _ _ ⟨s3, uA', uc', u', vA', vc', v', rfl, hp3, hu3, rfl⟩
  repeat' (first | refine zgd ?_ | fail)
  apply hK (j + 1, s3, uA', uc', u', vA', vc', v')
  · exact ⟨by push_cast; omega, by rw [show ((j + 1 : Nat) : Int) = (j : Int) + 1 by omega]; exact hp3, by omega⟩
  · dsimp only; omega
  · exact zu
  · exact zk
open Go.RowKit Go.Eng Go.Nw Go.Rt
def Yh7 (c : PlC) (slots : Int) (atts : List AttM) (dels : List (Int × Int × Int)) (e : Int) : Prop := e = 0 → (∃ ss, PInv c slots 0 ss atts dels) ∧ atts.length ≤ 50000000 ∧ (YR 32 c.l).2 = 0 ∧ Y7 c.s.sch = true ∧ 0 ≤ slots
theorem YfM (c : PlC) (slots : Int) (hl : c.l.length ≤ 1000) (hsl : c.s.cells.length ≤ 1000) (hxl : c.xs.length ≤ 1000000) {B : Nat} {w0 : World} {H : List HP} {w : World} (ht : TabsB B w0) (hr : Rd B w0 H c.fA (c.l.flatMap flwF)) (hs : Rd B w0 H c.s.A (c.s.cells.flatMap celF)) (hx : XIn B w0 H c.xA c.xs) (hw : St B w0 H w) :
    Calls Tryz.prog 38 [.slice c.fA c.l.length c.fc, c.s.val, .slice c.xA c.xs.length c.xc, .int .i64 slots].toArray w (Post B w0 fun v K => ∃ tA tc atts dA dc dels e, v = .tuple #[.agg #[.slice tA (atts : List AttM).length tc, .slice dA (dels : List (Int × Int × Int)).length dc], .int .i64 e] ∧ Yh7 c slots atts dels e ∧ K = plT tA tc atts :: plD dA dc dels :: H) := by
  refine (YhD c slots hl hsl hxl ht hr hs hx hw).mono ?_
  rintro e w' ⟨v, K, rfl, hst, ⟨h⟩⟩
  rcases h with ⟨e, he, rfl, rfl⟩ | ⟨ss, tA, tc, atts, dA, dc, dels, rfl, h1, h2, h3, h4, h5, rfl⟩
  · exact ⟨_, _, rfl, (hst.nilSlice 181 3).nilSlice 167 8, none, 0, [], none, 0, [], e, rfl, fun h => absurd h he, rfl⟩
  · exact ⟨_, _, rfl, hst, tA, tc, atts, dA, dc, dels, 0, rfl, fun _ => ⟨⟨ss, h1⟩, h2, h3, h4, h5⟩, rfl⟩
open Go.RowKit Go.Eng Go.Nw Go.Rt
def Wn (id k : Int) (d : Int × Int × Int) : Bool := decide (d.1 = id ∧ d.2.1 = k)
def delT (dels : List (Int × Int × Int)) (id k : Int) : Option Int := (dels.find? (Wn id k)).map (·.2.2)
set_option maxRecDepth 10000 in
set_option maxHeartbeats 2000000 in
theorem QT (dels : List (Int × Int × Int)) (id k : Int) (hlen : dels.length ≤ 1000000000) (tA : Option Addr) (nt tc : Nat) {dA : Option Addr} {dc B : Nat} {w0 : World} {H : List HP} {w : World} (hr : Rd B w0 H dA (dels.flatMap delF)) (hw : St B w0 H w) :
    Calls Tryz.prog 42 [.agg #[.slice tA nt tc, .slice dA dels.length dc], .int .i64 id, .int .i64 k].toArray w (Post B w0 fun v K => v = .tuple #[.int .i64 ((delT dels id k).getD 0), .bool (delT dels id k).isSome] ∧ K = H) := by
  refine Yf Tryz.func42 Tryz.ntmps42 rfl rfl hw ?_
  obtain ⟨r, hr0⟩ : ∃ r, delT dels id k = r := ⟨_, rfl⟩
  rw [hr0]
  unfold delT at hr0
  repeat' (first | refine zgb ?_ | (refine zgh ?_; intro _) | fail)
  refine Yn (fun j : Nat => [(13, .int .i64 (j : Nat)), (12, .int .i64 dels.length), (11, .slice dA dels.length dc), (1, .int .i64 id), (2, .int .i64 k)]) (fun _ => H) (fun j => j ≤ dels.length ∧ dels.find? (Wn id k) = (dels.drop j).find? (Wn id k)) (fun j => dels.length - j) 0 ⟨Nat.zero_le _, by rw [List.drop_zero]⟩ ?_ ?_ ?_
  · exact zu
  · exact zk
  rintro j ⟨hj, hf⟩ K hK
  by_cases hlt : j < dels.length
  rotate_left
  · rw [List.drop_eq_nil_of_le (by omega)] at hf
    rw [hf] at hr0
    subst hr0
    clear hK
    repeat' (first | refine zgc ?_ | (refine zge ?_ ?_ <;> intro _ <;> try (exfalso; omega)) | fail)
    apply Yt; exact rfl; exact rfl; exact rfl; exact ⟨rfl, rfl⟩
  obtain ⟨d, hd⟩ : ∃ d, dels[j]? = some d := ⟨_, List.getElem?_eq_getElem hlt⟩
  have hdr : dels.drop j = d :: dels.drop (j + 1) := by
    obtain ⟨h1, h2⟩ := List.getElem?_eq_some_iff.1 hd
    rw [List.drop_eq_getElem_cons h1, h2]
  rw [hdr, List.find?_cons] at hf
  by_cases h1 : d.1 = id
  · by_cases h2 : d.2.1 = k
    · have hy : Wn id k d = true := decide_eq_true ⟨h1, h2⟩
      rw [hy] at hf
      rw [hf] at hr0
      subst hr0
      clear hK
      repeat' (first | refine zgd ?_ | (refine zgf ?_ ?_ <;> intro _ <;> try (exfalso; omega)) | (refine zgh ?_; intro _) | fail)
      apply Yk H
      · exact zk
      apply Yt; exact rfl; exact rfl; exact rfl; exact ⟨rfl, rfl⟩
    · have hy : Wn id k d = false := decide_eq_false fun h => h2 h.2
      rw [hy] at hf
      repeat' (first | refine zgd ?_ | (refine zgf ?_ ?_ <;> intro _ <;> try (exfalso; omega)) | (refine zgh ?_; intro _) | fail)
      apply hK (j + 1)
      · exact ⟨by omega, hf⟩
      · omega
      · exact zu
      · exact zk
  · have hy : Wn id k d = false := decide_eq_false fun h => h1 h.1
    rw [hy] at hf
    repeat' (first | refine zgd ?_ | (refine zgf ?_ ?_ <;> intro _ <;> try (exfalso; omega)) | (refine zgh ?_; intro _) | fail)
    apply hK (j + 1)
    · exact ⟨by omega, hf⟩
    · omega
    · exact zu
    · exact zk
def frIx (f : Flw) (t : Int) : Int := (max (t - phaF f) 0 + perF f - 1) / perF f
theorem YcS (f : Flw) (t : Int) (g : Nat) (hf : YX 32 f = 0) (ht : 0 ≤ t ∧ t ≤ 1000000) {B : Nat} {w0 : World} {H : List HP} {w : World} (hm : blk g (.cells #[.int .i64 f.1, .int .i64 f.2.1, .int .i64 f.2.2.1, .int .i64 f.2.2.2.1, .int .i64 f.2.2.2.2.1, .int .i64 f.2.2.2.2.2] 68 (0, 0)) ∈ H) (hw : St B w0 H w) :
    Calls Tryz.prog 101 [.int .i64 t, .pointer (some ⟨g, 0, none⟩)].toArray w (Post B w0 fun v K => v = .int .i64 (frIx f t) ∧ K = H) := by
  refine Yf Tryz.func101 Tryz.ntmps101 rfl rfl hw ?_
  obtain ⟨h1, h2, -, -⟩ := Xm hf
  unfold frIx phaF perF
  by_cases hlt : t - f.2.2.2.2.1 ≤ 0
  · rw [show max (t - f.2.2.2.2.1) 0 = 0 by omega]
    repeat' (first | refine zgd ?_ | (refine zgf ?_ ?_ <;> intro _ <;> try (exfalso; omega)) | fail)
    all_goals (
      apply Yg; exact rfl; exact rfl; refine ⟨congrArg (Value.int .i64) ?_, rfl⟩
      first
        | rfl
        | (congr 1; omega))
  · rw [show max (t - f.2.2.2.2.1) 0 = t - f.2.2.2.2.1 by omega]
    repeat' (first | refine zgd ?_ | (refine zgf ?_ ?_ <;> intro _ <;> try (exfalso; omega)) | fail)
    all_goals (apply Yg; exact rfl; exact rfl; exact ⟨rfl, rfl⟩)
def frsL (f : Flw) (a b : Int) : List Int := (List.range (frIx f b - frIx f a).toNat).map fun i : Nat => frIx f a + i
theorem Vi {f : Flw} (hf : YX 32 f = 0) {t : Int} (ht : 0 ≤ t) : 0 ≤ frIx f t ∧ frIx f t ≤ t := by
  obtain ⟨h1, h2, -, -⟩ := Xm hf
  unfold frIx phaF perF
  generalize f.2.2.2.1 = p at *
  generalize f.2.2.2.2.1 = a at *
  have h3 : 0 ≤ max (t - a) 0 ∧ max (t - a) 0 ≤ t := by omega
  generalize max (t - a) 0 = z at *
  refine ⟨Int.ediv_nonneg (by omega) (by omega), Int.le_trans ?_ h3.2⟩
  apply Int.le_of_lt_add_one
  apply Int.ediv_lt_of_lt_mul (by omega)
  have := Int.mul_le_mul_of_nonneg_left h1.1 h3.1
  rw [Int.add_mul]
  omega
theorem Ygy {f : Flw} (hf : YX 32 f = 0) {b k : Int} (hb : 0 ≤ b) (hk : k ∈ frsL f 0 b) : 0 ≤ k ∧ Yy f k < b := by
  obtain ⟨h1, h2, -, -⟩ := Xm hf
  unfold frsL at hk
  obtain ⟨i, hi, rfl⟩ := List.mem_map.1 hk
  have hi := List.mem_range.1 hi
  have h0 := Vi hf (t := 0) (Int.le_refl _)
  have h00 : frIx f 0 = 0 := by omega
  rw [h00] at hi ⊢
  refine ⟨by omega, ?_⟩
  have hlt : (i : Int) + 1 ≤ frIx f b := by omega
  unfold frIx phaF perF at hlt
  unfold Yy phaF perF
  generalize f.2.2.2.1 = p at *
  generalize f.2.2.2.2.1 = a at *
  have h5 := Int.mul_le_of_le_ediv (show 0 < p by omega) hlt
  rw [Int.add_mul] at h5
  rw [show (0 : Int) + i = i by omega]
  have h6 : (0 : Int) ≤ (i : Int) * p := Int.mul_nonneg (by omega) (by omega)
  omega
set_option maxRecDepth 10000 in
set_option maxHeartbeats 2000000 in
theorem Yef (f : Flw) (a b : Int) (hf : YX 32 f = 0) (ha : 0 ≤ a ∧ a ≤ b) (hb : b ≤ 1000) (hab : frIx f a ≤ frIx f b) {B : Nat} {w0 : World} {H : List HP} {w : World} (hw : St B w0 H w) :
    Calls Tryz.prog 40 [flwV f, .int .i64 a, .int .i64 b].toArray w (Post B w0 fun v K => ∃ A cap, v = .tuple #[.slice A (frsL f a b).length cap, .int .i64 0] ∧ K = nrs A cap (frsL f a b) :: H) := by
  refine Yf Tryz.func40 Tryz.ntmps40 rfl rfl hw ?_
  have p1 := fun {H' : List HP} {w : World} (hw : St B w0 H' w) => V4 f hf hw
  have h1 := Vi hf (t := a) (by omega)
  have h2 := Vi hf (t := b) (by omega)
  unfold flwV at p1 ⊢
  have p2 := fun (t : Int) (ht : 0 ≤ t ∧ t ≤ 1000000) (g : Nat) {H' : List HP} {w : World} (hm : blk g (.cells #[.int .i64 f.1, .int .i64 f.2.1, .int .i64 f.2.2.1, .int .i64 f.2.2.2.1, .int .i64 f.2.2.2.2.1, .int .i64 f.2.2.2.2.2] 68 (0, 0)) ∈ H') (hw : St B w0 H' w) => YcS f t g hf ht hm hw
  repeat' (first | ((first | apply Ya Ox | apply Yb Ox); exact za; exact rfl; exact fun _ hw => (p1 hw)) | (apply zg29; (apply Yj; exact za ; exact rfl)) | refine zgc ?_ | (refine zge ?_ ?_ <;> intro _ <;> try (exfalso; omega)) | (refine zgh ?_; intro _) | fail)
  rename Nat => gf
  repeat' (first | ((first | apply YD (cs := [.pointer (some ⟨gf, 0, none⟩)]) | apply Y2 (cs := [.pointer (some ⟨gf, 0, none⟩)])); exact rfl; exact Yl1; exact za; exact rfl; exact fun _ hw => (p2 _ (by omega) gf zm hw)) | refine zgd ?_ | (refine zge ?_ ?_ <;> intro _ <;> try (exfalso; omega)) | fail)
  have hm : frIx f b - frIx f a ≤ 1000 := by omega
  obtain ⟨u, hu⟩ : ∃ u, frIx f a = u := ⟨_, rfl⟩
  obtain ⟨v, hv⟩ : ∃ v, frIx f b = v := ⟨_, rfl⟩
  rw [hu] at h1 hab hm ⊢
  rw [hv] at h2 hab hm ⊢
  refine Yn (fun (z : Nat × Option Addr × Nat) => [(39, .int .i64 (z.1 : Nat)), (38, .int .i64 (v - u)), (11, .slice z.2.1 z.1 z.2.2), (9, .int .i64 u)]) (fun z => sl 3 1 z.2.1 z.1 z.2.2 (((List.range z.1).map fun i : Nat => u + i).flatMap numF) :: H) (fun z => z.1 ≤ (v - u).toNat) (fun z => (v - u).toNat - z.1) (0, none, 0) (Nat.zero_le _) ?_ ?_ ?_
  · exact zu
  · intro w hw
    have h5 : St B w0 H w := by
      revert w
      exact zk
    exact h5.nilSlice _ _
  rintro ⟨k, A, cap⟩ hk K hK
  dsimp only at hk ⊢
  by_cases hlt : (k : Int) < v - u
  rotate_left
  · obtain rfl : k = (v - u).toNat := by omega
    clear hK
    have hL : frsL f a b = (List.range (v - u).toNat).map fun i : Nat => u + i := by unfold frsL; rw [hu, hv]
    have hl : (frsL f a b).length = (v - u).toNat := by rw [hL]; simp
    repeat' (first | refine zgc ?_ | (refine zge ?_ ?_ <;> intro _ <;> try (exfalso; omega)) | fail)
    apply Yk (nrs A cap (frsL f a b) :: H)
    · unfold nrs
      rw [hl, hL]
      exact zk
    apply Yt; exact rfl; exact rfl; exact rfl
    exact ⟨A, cap, by rw [hl], rfl⟩
  repeat' (first | refine zgd ?_ | (refine zge ?_ ?_ <;> intro _ <;> try (exfalso; omega)) | (refine zgh ?_; intro _) | (refine zgi ?_; intro _ _) | fail)
  rename_i A' cap'
  have e5 : sl 3 1 A' (k + 1) cap' (((List.range k).map fun i : Nat => u + i).flatMap numF ++ #[Value.int .i64 (u + k)].toList) = sl 3 1 A' (k + 1) cap' (((List.range (k + 1)).map fun i : Nat => u + i).flatMap numF) := by
    rw [List.range_succ, List.map_append, List.flatMap_append]; rfl
  rw [e5]
  apply hK (k + 1, A', cap')
  · show k + 1 ≤ _; omega
  · dsimp only; omega
  · exact zu
  · exact zk
open Go.RowKit Go.Eng Go.Nw Go.Rt
theorem V3 (l m : List Int) (hlen : l.length ≤ 9223372036854775807) (_hlen2 : m.length ≤ 9223372036854775807) {A A2 : Option Addr} {cap cap2 B : Nat} {w0 : World} {H : List HP} {w : World} (hr : Rd B w0 H A (l.flatMap numF)) (hr2 : Rd B w0 H A2 (m.flatMap numF)) (hw : St B w0 H w) :
    Calls Tryz.prog 132 [.slice A l.length cap, .slice A2 m.length cap2].toArray w (Post B w0 fun u K => u = .bool (decide (l = m)) ∧ K = H) := by
  refine Yf Tryz.func132 Tryz.ntmps132 rfl rfl hw ?_
  by_cases hll : l.length = m.length
  rotate_left
  · repeat' (first | refine zgb ?_ | (refine zge ?_ ?_ <;> intro _ <;> try (exfalso; omega)) | fail)
    apply Yg; exact rfl; exact rfl
    exact ⟨by rw [decide_eq_false fun e => hll (by rw [e])], rfl⟩
  repeat' (first | refine zgb ?_ | (refine zge ?_ ?_ <;> intro _ <;> try (exfalso; omega)) | fail)
  refine Yn (fun (k : Nat) => [(13, .int .i64 k), (12, .int .i64 l.length), (0, .slice A l.length cap), (1, .slice A2 m.length cap2)]) (fun _ => H) (fun k => k ≤ l.length ∧ l.take k = m.take k) (fun k => l.length - k) 0 ⟨Nat.zero_le _, by simp⟩ ?_ (fun w hw => hw) ?_
  · exact zu
  rintro k ⟨hk, hi⟩ K hK
  by_cases hlt : k < l.length
  · obtain ⟨a, ha⟩ : ∃ a, l[k]? = some a := ⟨_, List.getElem?_eq_getElem hlt⟩
    obtain ⟨b, hb⟩ : ∃ b, m[k]? = some b := ⟨_, List.getElem?_eq_getElem (by omega)⟩
    repeat' (first | refine zgd ?_ | (refine zge ?_ ?_ <;> intro _ <;> try (exfalso; omega)) | fail)
    · rename_i h
      apply Yg; exact rfl; exact rfl
      exact ⟨by rw [decide_eq_false fun e => by rw [e, hb] at ha; exact h (Option.some.inj ha).symm], rfl⟩
    · rename_i h
      apply hK (k + 1)
      · exact ⟨by omega, by rw [Jd ha, Jd hb, hi, h]⟩
      · omega
      · exact zu
      · exact fun w hw => hw
  · repeat' (first | refine zgc ?_ | (refine zge ?_ ?_ <;> intro _ <;> try (exfalso; omega)) | fail)
    apply Yg; exact rfl; exact rfl
    rw [List.take_of_length_le (by omega), List.take_of_length_le (by omega)] at hi
    exact ⟨by rw [decide_eq_true hi], rfl⟩
theorem YaK (a b : RowM) {B : Nat} {w0 : World} {H : List HP} {w : World} (hl : a.xs.length ≤ 1000000000000 ∧ b.xs.length ≤ 1000000000000) (hr : Rd B w0 H a.A (a.xs.flatMap numF)) (hr2 : Rd B w0 H b.A (b.xs.flatMap numF)) (hw : St B w0 H w) :
    Calls Tryz.prog 130 [.slice a.A a.xs.length a.cap, .slice b.A b.xs.length b.cap].toArray w (Post B w0 fun u K => u = .bool (decide (a.xs = b.xs)) ∧ K = H) := by
  refine Yf Tryz.func130 Tryz.ntmps130 rfl rfl hw ?_
  repeat' (first | ((first | apply Ya en33 | apply Yb en33); exact za; exact rfl; exact fun _ hw => (OB a.xs b.xs (by omega) (by omega) hr hr2 hw)) | refine zga ?_ | fail)
  apply Yg; exact rfl; exact rfl; exact ⟨rfl, rfl⟩
set_option maxHeartbeats 1000000 in
theorem WT (l m : List RowM) (hlen : l.length ≤ 1000000000000) (_hlen2 : m.length ≤ 1000000000000) (hl2 : ∀ r ∈ l, r.xs.length ≤ 1000000000000) (hm2 : ∀ r ∈ m, r.xs.length ≤ 1000000000000) {A A2 : Option Addr} {cap cap2 B : Nat} {w0 : World} {H : List HP} {w : World} (hr : Rd B w0 H A (l.flatMap rowF)) (hr2 : Rd B w0 H A2 (m.flatMap rowF)) (hrl : ∀ r ∈ l, Rd B w0 H r.A (r.xs.flatMap numF)) (hrm : ∀ r ∈ m, Rd B w0 H r.A (r.xs.flatMap numF)) (hw : St B w0 H w) :
    Calls Tryz.prog 133 [.slice A l.length cap, .slice A2 m.length cap2, .func (.func 130) #[] #[]].toArray w (Post B w0 fun u K => u = .bool (decide (l.map (·.xs) = m.map (·.xs))) ∧ K = H) := by
  refine Yf Tryz.func133 Tryz.ntmps133 rfl rfl hw ?_
  by_cases hll : l.length = m.length
  rotate_left
  · repeat' (first | refine zgb ?_ | (refine zge ?_ ?_ <;> intro _ <;> try (exfalso; omega)) | fail)
    apply Yg; exact rfl; exact rfl
    exact ⟨by rw [decide_eq_false fun e => hll (by have := congrArg List.length e; simpa using this)], rfl⟩
  repeat' (first | refine zgb ?_ | (refine zge ?_ ?_ <;> intro _ <;> try (exfalso; omega)) | fail)
  refine Yn (fun (k : Nat) => [(17, .int .i64 k), (16, .int .i64 l.length), (15, .slice A l.length cap), (0, .slice A l.length cap), (1, .slice A2 m.length cap2), (2, .func (.func 130) #[] #[])]) (fun _ => H) (fun k => k ≤ l.length ∧ (l.take k).map (·.xs) = (m.take k).map (·.xs)) (fun k => l.length - k) 0 ⟨Nat.zero_le _, by simp⟩ ?_ (fun w hw => hw) ?_
  · exact zu
  rintro k ⟨hk, hi⟩ K hK
  by_cases hlt : k < l.length
  · obtain ⟨a, ha⟩ : ∃ a, l[k]? = some a := ⟨_, List.getElem?_eq_getElem hlt⟩
    obtain ⟨b, hb⟩ : ∃ b, m[k]? = some b := ⟨_, List.getElem?_eq_getElem (by omega)⟩
    have ham := List.mem_of_getElem? ha
    have hbm := List.mem_of_getElem? hb
    have hss := fun {w : World} (hw : St B w0 H w) => YaK a b ⟨hl2 a ham, hm2 b hbm⟩ (hrl a ham) (hrm b hbm) hw
    by_cases hab : a.xs = b.xs
    · rw [decide_eq_true hab] at hss
      repeat' (first | ((first | apply YD (cs := []) | apply Y2 (cs := [])); exact rfl; exact YkU; exact za; exact rfl; exact fun _ hw => (hss hw)) | refine zgd ?_ | (refine zge ?_ ?_ <;> intro _ <;> try (exfalso; omega)) | fail)
      apply hK (k + 1)
      · exact ⟨by omega, by rw [List.take_add_one, List.take_add_one, ha, hb, List.map_append, List.map_append, hi]; simp [hab]⟩
      · omega
      · exact zu
      · exact fun w hw => hw
    · rw [decide_eq_false hab] at hss
      repeat' (first | ((first | apply YD (cs := []) | apply Y2 (cs := [])); exact rfl; exact YkU; exact za; exact rfl; exact fun _ hw => (hss hw)) | refine zgd ?_ | (refine zge ?_ ?_ <;> intro _ <;> try (exfalso; omega)) | fail)
      apply Yg; exact rfl; exact rfl
      have hne : ¬ (l.map (·.xs) = m.map (·.xs)) := fun e => by
        have h1 : (l.map (·.xs))[k]? = (m.map (·.xs))[k]? := by rw [e]
        rw [List.getElem?_map, List.getElem?_map, ha, hb] at h1
        exact hab (Option.some.inj h1)
      exact ⟨by rw [decide_eq_false hne], rfl⟩
  · repeat' (first | refine zgc ?_ | (refine zge ?_ ?_ <;> intro _ <;> try (exfalso; omega)) | fail)
    apply Yg; exact rfl; exact rfl
    rw [List.take_of_length_le (by omega), List.take_of_length_le (by omega)] at hi
    exact ⟨by rw [decide_eq_true hi], rfl⟩
theorem Ybi (a b : RowM) {B : Nat} {w0 : World} {H : List HP} {w : World} (hl : a.xs.length ≤ 1000000000000 ∧ b.xs.length ≤ 1000000000000) (hr : Rd B w0 H a.A (a.xs.flatMap numF)) (hr2 : Rd B w0 H b.A (b.xs.flatMap numF)) (hw : St B w0 H w) :
    Calls Tryz.prog 131 [.slice a.A a.xs.length a.cap, .slice b.A b.xs.length b.cap].toArray w (Post B w0 fun u K => u = .bool (decide (a.xs = b.xs)) ∧ K = H) := by
  refine Yf Tryz.func131 Tryz.ntmps131 rfl rfl hw ?_
  repeat' (first | ((first | apply Ya VI | apply Yb VI); exact za; exact rfl; exact fun _ hw => (V3 a.xs b.xs (by omega) (by omega) hr hr2 hw)) | refine zga ?_ | fail)
  apply Yg; exact rfl; exact rfl; exact ⟨rfl, rfl⟩
set_option maxHeartbeats 1000000 in
theorem O7 (l m : List RowM) (hlen : l.length ≤ 1000000000000) (_hlen2 : m.length ≤ 1000000000000) (hl2 : ∀ r ∈ l, r.xs.length ≤ 1000000000000) (hm2 : ∀ r ∈ m, r.xs.length ≤ 1000000000000) {A A2 : Option Addr} {cap cap2 B : Nat} {w0 : World} {H : List HP} {w : World} (hr : Rd B w0 H A (l.flatMap rowF)) (hr2 : Rd B w0 H A2 (m.flatMap rowF)) (hrl : ∀ r ∈ l, Rd B w0 H r.A (r.xs.flatMap numF)) (hrm : ∀ r ∈ m, Rd B w0 H r.A (r.xs.flatMap numF)) (hw : St B w0 H w) :
    Calls Tryz.prog 134 [.slice A l.length cap, .slice A2 m.length cap2, .func (.func 131) #[] #[]].toArray w (Post B w0 fun u K => u = .bool (decide (l.map (·.xs) = m.map (·.xs))) ∧ K = H) := by
  refine Yf Tryz.func134 Tryz.ntmps134 rfl rfl hw ?_
  by_cases hll : l.length = m.length
  rotate_left
  · repeat' (first | refine zgb ?_ | (refine zge ?_ ?_ <;> intro _ <;> try (exfalso; omega)) | fail)
    apply Yg; exact rfl; exact rfl
    exact ⟨by rw [decide_eq_false fun e => hll (by have := congrArg List.length e; simpa using this)], rfl⟩
  repeat' (first | refine zgb ?_ | (refine zge ?_ ?_ <;> intro _ <;> try (exfalso; omega)) | fail)
  refine Yn (fun (k : Nat) => [(17, .int .i64 k), (16, .int .i64 l.length), (15, .slice A l.length cap), (0, .slice A l.length cap), (1, .slice A2 m.length cap2), (2, .func (.func 131) #[] #[])]) (fun _ => H) (fun k => k ≤ l.length ∧ (l.take k).map (·.xs) = (m.take k).map (·.xs)) (fun k => l.length - k) 0 ⟨Nat.zero_le _, by simp⟩ ?_ (fun w hw => hw) ?_
  · exact zu
  rintro k ⟨hk, hi⟩ K hK
  by_cases hlt : k < l.length
  · obtain ⟨a, ha⟩ : ∃ a, l[k]? = some a := ⟨_, List.getElem?_eq_getElem hlt⟩
    obtain ⟨b, hb⟩ : ∃ b, m[k]? = some b := ⟨_, List.getElem?_eq_getElem (by omega)⟩
    have ham := List.mem_of_getElem? ha
    have hbm := List.mem_of_getElem? hb
    have hss := fun {w : World} (hw : St B w0 H w) => Ybi a b ⟨hl2 a ham, hm2 b hbm⟩ (hrl a ham) (hrm b hbm) hw
    by_cases hab : a.xs = b.xs
    · rw [decide_eq_true hab] at hss
      repeat' (first | ((first | apply YD (cs := []) | apply Y2 (cs := [])); exact rfl; exact YkV; exact za; exact rfl; exact fun _ hw => (hss hw)) | refine zgd ?_ | (refine zge ?_ ?_ <;> intro _ <;> try (exfalso; omega)) | fail)
      apply hK (k + 1)
      · exact ⟨by omega, by rw [List.take_add_one, List.take_add_one, ha, hb, List.map_append, List.map_append, hi]; simp [hab]⟩
      · omega
      · exact zu
      · exact fun w hw => hw
    · rw [decide_eq_false hab] at hss
      repeat' (first | ((first | apply YD (cs := []) | apply Y2 (cs := [])); exact rfl; exact YkV; exact za; exact rfl; exact fun _ hw => (hss hw)) | refine zgd ?_ | (refine zge ?_ ?_ <;> intro _ <;> try (exfalso; omega)) | fail)
      apply Yg; exact rfl; exact rfl
      have hne : ¬ (l.map (·.xs) = m.map (·.xs)) := fun e => by
        have h1 : (l.map (·.xs))[k]? = (m.map (·.xs))[k]? := by rw [e]
        rw [List.getElem?_map, List.getElem?_map, ha, hb] at h1
        exact hab (Option.some.inj h1)
      exact ⟨by rw [decide_eq_false hne], rfl⟩
  · repeat' (first | refine zgc ?_ | (refine zge ?_ ?_ <;> intro _ <;> try (exfalso; omega)) | fail)
    apply Yg; exact rfl; exact rfl
    rw [List.take_of_length_le (by omega), List.take_of_length_le (by omega)] at hi
    exact ⟨by rw [decide_eq_true hi], rfl⟩
theorem YiF {c d : ClM} : c.clm = d.clm ↔ c.flow = d.flow ∧ c.rs.map (·.xs) = d.rs.map (·.xs) ∧ c.bs = d.bs ∧ c.ws = d.ws ∧ c.ss.map (·.xs) = d.ss.map (·.xs) := by
  unfold ClM.clm
  constructor
  · intro h
    injection h with h1 h2 h3 h4 h5
    exact ⟨h1, h2, h3, h4, h5⟩
  · rintro ⟨h1, h2, h3, h4, h5⟩
    rw [h1, h2, h3, h4, h5]
set_option maxRecDepth 10000 in
set_option maxHeartbeats 4000000 in
theorem YfU (c d : ClM) {B : Nat} {w0 : World} {H : List HP} {w : World} (hc : c.In B w0 H) (hd : d.In B w0 H) (hw : St B w0 H w) :
    Calls Tryz.prog 74 [clV c, clV d].toArray w (Post B w0 fun u K => u = .bool (decide (c.clm = d.clm)) ∧ K = H) := by
  refine Yf Tryz.func74 Tryz.ntmps74 rfl rfl hw ?_
  have hcl := hc.ln
  have hdl := hd.ln
  have p1 := fun {H' : List HP} {w : World} (hc : c.In B w0 H') (hd : d.In B w0 H') (hw : St B w0 H' w) => WT c.rs d.rs (cap := c.rcap) (cap2 := d.rcap) hcl.1 hdl.1 hc.rl hd.rl hc.rt hd.rt hc.rw_ hd.rw_ hw
  have p2 := fun {H' : List HP} {w : World} (hc : c.In B w0 H') (hd : d.In B w0 H') (hw : St B w0 H' w) => V3 c.bs d.bs (cap := c.bcap) (cap2 := d.bcap) (by omega) (by omega) hc.bd hd.bd hw
  have p3 := fun {H' : List HP} {w : World} (hc : c.In B w0 H') (hd : d.In B w0 H') (hw : St B w0 H' w) => V3 c.ws d.ws (cap := c.wcap) (cap2 := d.wcap) (by omega) (by omega) hc.ws hd.ws hw
  have p4 := fun {H' : List HP} {w : World} (hc : c.In B w0 H') (hd : d.In B w0 H') (hw : St B w0 H' w) => O7 c.ss d.ss (cap := c.scap) (cap2 := d.scap) hcl.2.2.2 hdl.2.2.2 hc.sl hd.sl hc.st hd.st hc.sw hd.sw hw
  have hce := @YiF c d
  unfold clV
  by_cases h1 : c.flow = d.flow
  rotate_left
  · rw [decide_eq_false (fun h => h1 (hce.1 h).1)]
    repeat' (first | refine zgc ?_ | (refine zgf ?_ ?_ <;> intro _ <;> try (exfalso; omega)) | (refine zgh ?_; intro _) | fail)
    apply Yk H
    · exact zk
    apply Yg; exact rfl; exact rfl; exact ⟨rfl, rfl⟩
  by_cases h2 : c.rs.map (·.xs) = d.rs.map (·.xs)
  rotate_left
  · rw [decide_eq_false (fun h => h2 (hce.1 h).2.1)]
    rw [decide_eq_false h2] at p1
    repeat' (first | refine zgb ?_ | (refine zgf ?_ ?_ <;> intro _ <;> try (exfalso; omega)) | (refine zgh ?_; intro _) | fail)
    first | apply Ya Oy | apply Yb Oy
    exact za
    exact rfl
    exact fun _ hw => (p1 (hc.mono zk) (hd.mono zk) hw)
    repeat' (first | refine zgc ?_ | fail)
    apply Yk H
    · exact zk
    apply Yg; exact rfl; exact rfl; exact ⟨rfl, rfl⟩
  rw [decide_eq_true h2] at p1
  by_cases h3 : c.bs = d.bs
  rotate_left
  · rw [decide_eq_false (fun h => h3 (hce.1 h).2.2.1)]
    rw [decide_eq_false h3] at p2
    repeat' (first | refine zgb ?_ | (refine zgf ?_ ?_ <;> intro _ <;> try (exfalso; omega)) | (refine zgh ?_; intro _) | fail)
    first | apply Ya Oy | apply Yb Oy
    exact za
    exact rfl
    exact fun _ hw => (p1 (hc.mono zk) (hd.mono zk) hw)
    repeat' (first | refine zgc ?_ | fail)
    first | apply Ya VI | apply Yb VI
    exact za
    exact rfl
    exact fun _ hw => (p2 (hc.mono zk) (hd.mono zk) hw)
    repeat' (first | refine zgc ?_ | fail)
    apply Yk H
    · exact zk
    apply Yg; exact rfl; exact rfl; exact ⟨rfl, rfl⟩
  rw [decide_eq_true h3] at p2
  by_cases h4 : c.ws = d.ws
  rotate_left
  · rw [decide_eq_false (fun h => h4 (hce.1 h).2.2.2.1)]
    rw [decide_eq_false h4] at p3
    repeat' (first | refine zgb ?_ | (refine zgf ?_ ?_ <;> intro _ <;> try (exfalso; omega)) | (refine zgh ?_; intro _) | fail)
    first | apply Ya Oy | apply Yb Oy
    exact za
    exact rfl
    exact fun _ hw => (p1 (hc.mono zk) (hd.mono zk) hw)
    repeat' (first | refine zgc ?_ | fail)
    first | apply Ya VI | apply Yb VI
    exact za
    exact rfl
    exact fun _ hw => (p2 (hc.mono zk) (hd.mono zk) hw)
    repeat' (first | refine zgc ?_ | fail)
    first | apply Ya VI | apply Yb VI
    exact za
    exact rfl
    exact fun _ hw => (p3 (hc.mono zk) (hd.mono zk) hw)
    repeat' (first | refine zgc ?_ | fail)
    apply Yk H
    · exact zk
    apply Yg; exact rfl; exact rfl; exact ⟨rfl, rfl⟩
  rw [decide_eq_true h4] at p3
  have h5 : decide (c.clm = d.clm) = decide (c.ss.map (·.xs) = d.ss.map (·.xs)) := decide_eq_decide.2 ⟨fun h => (hce.1 h).2.2.2.2, fun h => hce.2 ⟨h1, h2, h3, h4, h⟩⟩
  rw [h5]
  repeat' (first | refine zgb ?_ | (refine zgf ?_ ?_ <;> intro _ <;> try (exfalso; omega)) | (refine zgh ?_; intro _) | fail)
  first | apply Ya Oy | apply Yb Oy
  exact za
  exact rfl
  exact fun _ hw => (p1 (hc.mono zk) (hd.mono zk) hw)
  repeat' (first | refine zgc ?_ | fail)
  first | apply Ya VI | apply Yb VI
  exact za
  exact rfl
  exact fun _ hw => (p2 (hc.mono zk) (hd.mono zk) hw)
  repeat' (first | refine zgc ?_ | fail)
  first | apply Ya VI | apply Yb VI
  exact za
  exact rfl
  exact fun _ hw => (p3 (hc.mono zk) (hd.mono zk) hw)
  repeat' (first | refine zgc ?_ | fail)
  first | apply Ya YkW | apply Yb YkW
  exact za
  exact rfl
  exact fun _ hw => (p4 (hc.mono zk) (hd.mono zk) hw)
  repeat' (first | refine zgc ?_ | fail)
  apply Yk H
  · exact zk
  apply Yg; exact rfl; exact rfl; exact ⟨rfl, rfl⟩
open Go.RowKit Go.Eng Go.Nw Go.Rt
theorem Jb {c : List ClM} {i : Nat} {x : ClM} (h : c[i]? = some x) : Jj (c.map ClM.clm) i = x.clm := by
  have h2 : (c.map ClM.clm)[i]? = some x.clm := by rw [List.getElem?_map, h]; rfl
  unfold Jj
  rw [List.getD_eq_getElem?_getD, h2]; rfl
theorem W7 {C : List ClM} {c : ClM} {B : Nat} {w0 : World} {H : List HP} (hm : many (C.map clQ) ∈ H) (hc : c ∈ C) (hl : c.lens) : c.In B w0 H := by
  have hb : ∀ w, St B w0 H w → St B w0 (C.map clQ) w := fun w hw => hw.inM hm
  refine ClM.In.mono (H := C.map clQ) (Ylu (List.mem_map_of_mem hc) ⟨⟨?_, ?_, ?_, ?_⟩, ?_, ?_⟩) hb
  · have := hl.1.1; omega
  · have := hl.1.2.1; omega
  · have := hl.1.2.2.1; omega
  · have := hl.1.2.2.2; omega
  · exact fun r hr => Nat.le_trans (hl.2.1 r hr) (by decide)
  · exact fun r hr => Nat.le_trans (hl.2.2 r hr) (by decide)
set_option maxRecDepth 10000 in
set_option maxHeartbeats 8000000 in
theorem YcG (n : NetM) (q : List RqM) (s : SchM) (c : List ClM) {A A1 : Option Addr} {cap cap1 B : Nat} {w0 : World} {H : List HP} {w : World} (ht : TabsB B w0) (hin : n.In B w0 H) (hq : QIn B w0 H A q) (hrs : Rd B w0 H s.A (s.cells.flatMap celF)) (hsl : s.cells.length ≤ 1000000000000) (hc : CIn B w0 H A1 c) (hw : St B w0 H w) :
    Calls Tryz.prog 23 [n.val, .slice A q.length cap, s.val, .slice A1 c.length cap1].toArray w (Post B w0 fun v K => v = .tuple #[.int .i64 (chkE n.net (q.map RqM.rq) s.sch (c.map ClM.clm)).1, .int .i64 (chkE n.net (q.map RqM.rq) s.sch (c.map ClM.clm)).2] ∧ K = H) := by
  refine Yf Tryz.func23 Tryz.ntmps23 rfl rfl hw ?_
  have hcl := hc.ln
  have hcr := hc.rd
  have p1 := fun {H' : List HP} {w : World} (hin : n.In B w0 H') (hq : QIn B w0 H' A q) (hrs : Rd B w0 H' s.A (s.cells.flatMap celF)) (hw : St B w0 H' w) => W5 n q s (cap := cap) ht hin hq hrs hsl hw
  obtain ⟨⟨RC, ri, re⟩, hR⟩ : ∃ R, Zt n.net (q.map RqM.rq) s.sch = R := ⟨_, rfl⟩
  unfold chkE
  rw [List.length_map]
  rw [hR] at p1 ⊢
  unfold OutC at p1
  dsimp only at p1 ⊢
  unfold NetM.val SchM.val
  by_cases h0 : re = 0
  rotate_left
  · rw [if_pos h0]
    repeat' (first | refine zgc ?_ | (refine zgh ?_; intro _) | fail)
    apply Yr _ en19
    exact za
    exact rfl
    exact fun _ hw => (p1 (hin.mono zk) (hq.mono zk) (hrs.mono zk) (hw))
    rintro _ _ ⟨A2, cap2, C, rfl, hC, hCl, rfl⟩
    repeat' (first | refine zgc ?_ | (refine zge ?_ ?_ <;> intro _ <;> try (exfalso; omega)) | fail)
    apply Yk H
    · exact zk
    apply Yt; exact rfl; exact rfl; exact rfl; exact ⟨rfl, rfl⟩
  subst h0
  rw [if_neg (fun e => e rfl)]
  repeat' (first | refine zgc ?_ | (refine zgh ?_; intro _) | fail)
  apply Yr _ en19
  exact za
  exact rfl
  exact fun _ hw => (p1 (hin.mono zk) (hq.mono zk) (hrs.mono zk) (hw))
  rintro _ _ ⟨A2, cap2, C, rfl, hC, hCl, rfl⟩
  subst hC
  rw [List.length_map]
  by_cases h1 : c.length = C.length
  rotate_left
  · rw [if_pos h1]
    repeat' (first | refine zgc ?_ | (refine zge ?_ ?_ <;> intro _ <;> try (exfalso; omega)) | fail)
    apply Yk H
    · exact zk
    apply Yt; exact rfl; exact rfl; exact rfl; exact ⟨rfl, rfl⟩
  rw [if_neg (fun e => e h1)]
  obtain ⟨F, hF⟩ : ∃ F : Nat → Int, (fun i => if Jj (c.map ClM.clm) i = Jj (C.map ClM.clm) i then (0 : Int) else 20) = F := ⟨_, rfl⟩
  rw [hF]
  have hFv : ∀ {k : Nat} {x y : ClM}, c[k]? = some x → C[k]? = some y → F k = if x.clm = y.clm then 0 else 20 := fun hx hy => by rw [← hF]; show (if _ = _ then _ else _) = _; rw [Jb hx, Jb hy]
  repeat' (first | refine zgc ?_ | (refine zge ?_ ?_ <;> intro _ <;> try (exfalso; omega)) | fail)
  refine Yn (fun k : Nat => [(33, .int .i64 (k : Nat)), (32, .int .i64 C.length), (10, .slice A2 C.length cap2), (3, .slice A1 c.length cap1)]) (fun _ => clsP A2 cap2 C :: many (C.map clQ) :: H) (fun k => k ≤ C.length ∧ ∀ j, 0 ≤ j → j < k → F j = 0) (fun k => C.length - k) 0 ⟨Nat.zero_le _, fun j _ h => absurd h (Nat.not_lt_zero _)⟩ ?_ ?_ ?_
  · exact zu
  · exact zk
  rintro k ⟨hk, hz⟩ K hK
  have hcr' : Rd B w0 (clsP A2 cap2 C :: many (C.map clQ) :: H) A1 (c.flatMap clF) := hcr.cons.cons
  have hCr' : Rd B w0 (clsP A2 cap2 C :: many (C.map clQ) :: H) A2 (C.flatMap clF) := .sl (.head _)
  by_cases hlt : k < C.length
  · obtain ⟨x, hx⟩ : ∃ x, c[k]? = some x := ⟨_, List.getElem?_eq_getElem (by omega)⟩
    obtain ⟨y, hy⟩ : ∃ y, C[k]? = some y := ⟨_, List.getElem?_eq_getElem hlt⟩
    have hym := List.mem_of_getElem? hy
    have hFk := hFv hx hy
    have hxi := hc.x x (List.mem_of_getElem? hx)
    have p2 := fun {H' : List HP} {w : World} (hx : x.In B w0 H') (hy : y.In B w0 H') (hw : St B w0 H' w) => YfU x y hx hy hw
    by_cases he : x.clm = y.clm
    · rw [if_pos he] at hFk
      rw [decide_eq_true he] at p2
      repeat' (first | refine zgb ?_ | (refine zge ?_ ?_ <;> intro _ <;> try (exfalso; omega)) | fail)
      apply YN [0, 1, 2, 3, 4, 5, 6, 7, 8, 9] []
      kernel_rfl
      kernel_rfl
      (simp only [Yl, nthO]; rfl)
      exact rfl
      repeat' (first | refine zgd ?_ | fail)
      first | apply Ya en74 | apply Yb en74
      exact za
      exact rfl
      exact fun _ hw => (p2 (hxi.mono zk) (W7 zm hym (hCl y hym)) hw)
      repeat' (first | (apply Yi; (repeat (first | with_reducible exact Yh | (with_reducible apply Yd; (repeat (first | with_reducible exact Ye | with_reducible apply Yc)))))) | refine zgd ?_ | fail)
      · show Perm H (H ++ [])
        rw [List.append_nil]; exact Perm.refl _
      repeat' (first | fail)
      apply hK (k + 1)
      · exact ⟨by omega, fun j h1 h2 => by
          rcases Nat.lt_succ_iff_lt_or_eq.1 h2 with h | rfl
          · exact hz j h1 h
          · exact hFk⟩
      · omega
      · exact zu
      · exact zk
    · rw [if_neg he] at hFk
      rw [decide_eq_false he] at p2
      have hfe := Xu (f := F) (r := c.length) (i0 := 0) (i := k) (fun j h1 h2 => hz j h1 h2) (Nat.zero_le _) (by omega) (by rw [hFk]; decide)
      rw [hfe, hFk]
      clear hK
      repeat' (first | refine zgb ?_ | (refine zge ?_ ?_ <;> intro _ <;> try (exfalso; omega)) | fail)
      apply YN [0, 1, 2, 3, 4, 5, 6, 7, 8, 9] []
      kernel_rfl
      kernel_rfl
      (simp only [Yl, nthO]; rfl)
      exact rfl
      repeat' (first | refine zgd ?_ | fail)
      first | apply Ya en74 | apply Yb en74
      exact za
      exact rfl
      exact fun _ hw => (p2 (hxi.mono zk) (W7 zm hym (hCl y hym)) hw)
      repeat' (first | (apply Yi; (repeat (first | with_reducible exact Yh | (with_reducible apply Yd; (repeat (first | with_reducible exact Ye | with_reducible apply Yc)))))) | refine zgd ?_ | fail)
      · show Perm H (H ++ [])
        rw [List.append_nil]; exact Perm.refl _
      repeat' (first | fail)
      apply Yk H
      · exact zk
      apply Yt; exact rfl; exact rfl; exact rfl; exact ⟨rfl, rfl⟩
  · obtain rfl : k = C.length := by omega
    have hfe := X7 (f := F) (r := c.length) (i0 := 0) fun j h1 h2 => hz j h1 (by omega)
    rw [hfe]
    clear hK
    repeat' (first | refine zgc ?_ | (refine zge ?_ ?_ <;> intro _ <;> try (exfalso; omega)) | fail)
    apply Yk H
    · exact zk
    apply Yt; exact rfl; exact rfl; exact rfl; exact ⟨rfl, rfl⟩
end Go.Proofs.YtmalhidldgfeoaaGreatDoor
