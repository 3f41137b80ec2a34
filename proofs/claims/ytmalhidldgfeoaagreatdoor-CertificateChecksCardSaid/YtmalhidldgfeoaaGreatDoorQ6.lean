/- Lemmas for the claim, part 6. -/
import Derived.Test.YtmalhidldgfeoaaGreatDoorRows
import Derived.Lib.LaidU8
import Derived.LaidMore
import Derived.Deep.DeepLaidRun
import Derived.Stop.Joined
import Derived.Test.YtmalhidldgfeoaaGreatDoorQ5

namespace Go.Proofs.YtmalhidldgfeoaaGreatDoor
open Go.RowKit Go.Eng Go.Nw
theorem YdM {n : Net} {s : Sch} (hf : Fine n s) {i : Nat} (hi : i < s.cells.length) : ∀ k x, (YC s i)[k]? = some x → k ≠ Yy s i → YY (Yn s i) x = false := by
  intro k x hx hk
  have ha := Wz hi
  have hpw : (YC s i).Pairwise fun a b => a.1 = b.1 → YY a b = false := hf.once.sublist List.filter_sublist
  have hsx : x.1 = (Yn s i).1 := by
    have := (List.mem_filter.1 (List.mem_of_getElem? hx)).2
    unfold YK at this
    exact (of_decide_eq_true this).1
  obtain ⟨l1, l2⟩ := List.getElem?_eq_some_iff.1 hx
  obtain ⟨l3, l4⟩ := List.getElem?_eq_some_iff.1 ha
  rcases Nat.lt_or_gt_of_ne hk with h | h
  · have := List.pairwise_iff_getElem.1 hpw k (Yy s i) l1 l3 h
    rw [l2, l4] at this
    rw [UV]
    exact this hsx
  · have := List.pairwise_iff_getElem.1 hpw (Yy s i) k l3 l1 h
    rw [l2, l4] at this
    exact this hsx.symm
theorem YfS {n : Net} {l : List Cel} {i : Nat} {c : Cel} (hci : l[i]? = some c) (hg : YR n c.2.2.1 c.2.2.2.1 = true) (hto : ∀ k x, l[k]? = some x → k ≠ i → YY c x = false) :
    JE n l i = (!(Xd n (mar n (Yw n c.2.2.1 c.2.2.2.1).toNat) (YT n l i c.2.2.2.1 l.length)) || !(Xd n (mar n (Yw n c.2.2.2.1 c.2.2.1).toNat) (YT n l i c.2.2.1 l.length))) := by
  have hcl : celL l i = c := by unfold celL; rw [List.getD_eq_getElem?_getD, hci]; rfl
  have hany : ((List.range l.length).any fun k => decide (k ≠ i) && YY c (celL l k)) = false := by
    rw [List.any_eq_false]
    intro k hk
    have hk := List.mem_range.1 hk
    have hx : l[k]? = some (celL l k) := by unfold celL; rw [List.getD_eq_getElem?_getD, List.getElem?_eq_getElem hk]; rfl
    rw [Bool.and_eq_true, decide_eq_true_eq]
    rintro ⟨h1, h2⟩
    rw [hto k _ hx h1] at h2
    cases h2
  unfold JE
  rw [hcl, hany]
  show (!(YR n c.2.2.1 c.2.2.2.1) || false || _) = _
  rw [hg]
  rfl
theorem Yej {n : Net} {l : List Flw} {s : Sch} (h1 : ∀ k, k < s.cells.length → XI n l s k = 0) (h2 : ∀ k, k < s.cells.length → Xx s k = false) : Fine n s :=
  Ye6 (l := l) (by unfold Xv; exact Y2.2 fun k _ hk => h1 k (by omega)) (by unfold XQ; exact Y2.2 fun k _ hk => by simp only [h2 k (by omega)]; rfl)
set_option maxRecDepth 10000 in
set_option maxHeartbeats 8000000 in
theorem Yaf (n : NetM) (l : List Flw) (s : SchM) (hlf : l.length ≤ 9223372036854775807) (hl : s.cells.length ≤ 1000000000000) {A : Option Addr} {cap B : Nat} {w0 : World} {H : List HP} {w : World} (hin : n.In B w0 H) (hrf : Rd B w0 H A (l.flatMap flwF)) (hr : Rd B w0 H s.A (s.cells.flatMap celF)) (hw : St B w0 H w) :
    Calls Tryz.prog 127 [n.val, .slice A l.length cap, s.val].toArray w (Post B w0 fun v K => v = .tuple #[.int .i64 (schE n.net l s.sch).1, .int .i64 (schE n.net l s.sch).2] ∧ K = H) := by
  refine Yc Tryz.func127 Tryz.ntmps127 rfl rfl hw ?_
  have e4 : s.sch.cells.length = s.cells.length := rfl
  rw [Yio]
  have hinm : n.In B w0 [many H] := ⟨hin.pw.tail, fun r hr => (hin.rw_ r hr).tail, hin.lk.tail, hin.mg.tail, hin.s1, hin.s2, hin.s3, hin.s4⟩
  have hrm : Rd B w0 [many H] s.A (s.cells.flatMap celF) := hr.tail
  have hrfm : Rd B w0 [many H] A (l.flatMap flwF) := hrf.tail
  clear hr hrf hin
  refine UZ [many H] (fun w hw => hw.perm (.closeT H)) ?_
  have hwl := fun {H' : List HP} {w : World} (hin : n.In B w0 H') (hrf : Rd B w0 H' A (l.flatMap flwF)) (hw : St B w0 H' w) => YdJ n l s hlf hl (cap := cap) hin hrf hw
  obtain ⟨wh, hwh⟩ : ∃ z, Xq n.net l s.sch = z := ⟨_, rfl⟩
  rw [hwh] at hwl
  by_cases h0 : wh ≠ 0
  · have hS : YbE n.net l s.sch = (-1, wh) := by unfold YbE; rw [hwh]; exact if_pos h0
    rw [hS]
    repeat' (first | ((first | apply Ya Ye0 | apply Yb Ye0); exact za; exact rfl; exact fun _ hw => (hwl hinm.cons.cons hrfm.cons.cons hw)) | apply (zs1 ?_) | apply (zs2 ?_) | (apply zg3; refine zs8 ?_) | (apply zg8; (refine zs16 ?_ ?_ <;> intro _ <;> try (exfalso; omega))) | (apply zg23; (refine zs52 ?_; intro _)) | apply (zs65 ?_) | apply (zs68 ?_) | apply (zs69 ?_) | apply (zs70 ?_) | (apply zg27; refine zs71 ?_) | apply (zs74 ?_) | apply (zs77 ?_) | fail)
    apply Yi H
    · intro w hw
      have h5 : St B w0 [many H] w := by
        revert w
        exact zk
      exact h5.perm (.openT H)
    apply Yp; exact rfl; exact rfl; exact rfl; exact ⟨rfl, rfl⟩
  obtain rfl : wh = 0 := Decidable.not_not.1 h0
  obtain ⟨hck, hfl, hsd, _, hle⟩ := YdW hwh
  have hle : s.cells.length ≤ 512 := hle
  have hl16 := Ybo hfl
  have hok := YZ hck
  have hsz : 1 ≤ s.len ∧ s.len ≤ 512 ∧ 1 ≤ s.off ∧ s.off ≤ 16 := of_decide_eq_true hsd
  have hS : YbE n.net l s.sch = if (Xv n.net l s.sch).2 ≠ 0 then Xv n.net l s.sch else if (XQ s.sch).2 ≠ 0 then XQ s.sch else Ycl n.net s.sch := by
    unfold YbE; rw [hwh]; rfl
  rw [hS]
  have hC : Xv n.net l s.sch = Yz (XI n.net l s.sch) s.cells.length 0 := rfl
  have hF : XQ s.sch = Yz (fun i => if Xx s.sch i = true then 6 else 0) s.cells.length 0 := rfl
  have hR : Ycl n.net s.sch = Yz (fun i => if JE n.net (YC s.sch i) (Yy s.sch i) = true then 16 else 0) s.cells.length 0 := rfl
  repeat' (first | ((first | apply Ya Ye0 | apply Yb Ye0); exact za; exact rfl; exact fun _ hw => (hwl hinm.cons.cons hrfm.cons.cons hw)) | apply (zs1 ?_) | apply (zs2 ?_) | (apply zg3; refine zs8 ?_) | (apply zg8; (refine zs16 ?_ ?_ <;> intro _ <;> try (exfalso; omega))) | (apply zg23; (refine zs52 ?_; intro _)) | apply (zs65 ?_) | apply (zs68 ?_) | apply (zs69 ?_) | apply (zs70 ?_) | (apply zg27; refine zs72 ?_) | apply (zs73 ?_) | apply (zs76 ?_) | fail)
  first | (rename_i gn gs; guard_hyp gn : Nat; guard_hyp gs : Nat) | (rename_i gn gs _; guard_hyp gn : Nat; guard_hyp gs : Nat) | (rename_i gn gs _ _; guard_hyp gn : Nat; guard_hyp gs : Nat) | (rename_i gn gs _ _ _; guard_hyp gn : Nat; guard_hyp gs : Nat) | (rename_i gn gs _ _ _ _; guard_hyp gn : Nat; guard_hyp gs : Nat) | (rename_i gn gs _ _ _ _ _; guard_hyp gn : Nat; guard_hyp gs : Nat)
  refine Yj (fun (k : Nat) => [(9, .int .i64 k), (3, .pointer (some ⟨gn, 0, none⟩)), (5, .pointer (some ⟨gs, 0, none⟩)), (1, .slice A l.length cap)]) (fun _ => blk gs (.cells #[.int .i64 s.len, .int .i64 s.off, .slice s.A s.cells.length s.cap] 30 (0, 0)) :: netN gn n :: [many H]) (fun k => k ≤ s.cells.length ∧ ∀ j, j < k → XI n.net l s.sch j = 0) (fun k => s.cells.length - k) 0 ⟨Nat.zero_le _, fun j hj => absurd hj (Nat.not_lt_zero _)⟩ ?_ (fun w hw => hw) ?_
  · exact zu
  rintro k ⟨hk, hall⟩ K hK
  unfold netN
  by_cases hlt : k < s.cells.length
  · have hget : s.cells[k]? = some (Yn s.sch k) := Yx (s := s.sch) hlt
    have hbad : XI n.net l s.sch k ≠ 0 → Xv n.net l s.sch = ((k : Int), XI n.net l s.sch k) := fun h => hC.trans (YV (fun j _ hj => hall j hj) (Nat.zero_le _) (by omega) h)
    have hstep : XI n.net l s.sch k = 0 → ∀ j, j < k + 1 → XI n.net l s.sch j = 0 := fun h j hj => by
      by_cases e : j = k
      · rw [e]; exact h
      · exact hall j (by omega)
    obtain ⟨c, hc⟩ : ∃ c, Yn s.sch k = c := ⟨_, rfl⟩
    have hce : XI n.net l s.sch k = if Xm s.sch c = false then 2 else if YR n.net c.2.2.1 c.2.2.2.1 = false ∨ Zx l c.2.2.2.2 < 0 then 7 else if 0 < k ∧ Za (Yn s.sch (k - 1)) c = false then 5 else 0 := by
      unfold XI
      rw [hc]; rfl
    rw [hc] at hget
    have hpl : Xm s.sch c = false ↔ ¬ ((0 ≤ c.1 ∧ c.1 ≤ s.len - 1) ∧ (0 ≤ c.2.1 ∧ c.2.1 ≤ s.off - 1)) := by
      unfold Xm insE
      rw [Bool.eq_false_iff]
      simp only [ne_eq, Bool.and_eq_true, decide_eq_true_eq]
      show ¬ ((0 ≤ c.1 ∧ c.1 < s.len) ∧ 0 ≤ c.2.1 ∧ c.2.1 < s.off) ↔ _
      omega
    by_cases hp : (0 ≤ c.1 ∧ c.1 ≤ s.len - 1) ∧ (0 ≤ c.2.1 ∧ c.2.1 ≤ s.off - 1)
    rotate_left
    · rw [if_pos (hpl.2 hp)] at hce
      rw [hbad (by rw [hce]; decide), hce, if_pos (show (2 : Int) ≠ 0 by decide)]
      clear hK
      repeat' (first | ((first | apply Yv XT | apply Yu XT); exact za; exact rfl; exact fun _ hw => (XN _ _ _ hw); all_goals (intro hB; (try simp only [decide_eq_true_eq, decide_eq_false_iff_not] at hB); try (exfalso; omega))) | apply (zs1 ?_) | apply (zs2 ?_) | (apply zg1; first | refine zs3 ?_ | refine zs4 ?_) | (apply zg2; refine zs6 ?_) | (apply zg3; first | refine zs7 ?_ | refine zs61 ?_) | (apply zg4; refine zs9 ?_) | (apply zg5; refine zs57 ?_) | (apply zg6; first | refine zs11 ?_ | refine zs12 ?_) | (apply (zs17 ?_ ?_) <;> intro _ <;> try (exfalso; omega)) | (apply zg14; refine zs31 ?_) | (apply zg20; first | refine zs47 ?_ | refine zs48 ?_) | (apply zg22; refine zs51 ?_) | (apply zg24; (refine zs54 ?_; intro _)) | apply (zs65 ?_) | apply (zs68 ?_) | apply (zs69 ?_) | apply (zs70 ?_) | (apply zg27; refine zs71 ?_) | apply (zs73 ?_) | apply (zs74 ?_) | apply (zs76 ?_) | apply (zs77 ?_) | apply (zs78 ?_) | fail)
      all_goals (
        apply Yi H
        · intro w hw
          have h5 : St B w0 [many H] w := by
            revert w
            exact zk
          exact h5.perm (.openT H)
        apply Yp; exact rfl; exact rfl; exact rfl; exact ⟨rfl, rfl⟩)
    rw [if_neg (fun h => hpl.1 h hp)] at hce
    have hgs := fun {H' : List HP} {w : World} (hin : n.In B w0 H') (hw : St B w0 H' w) => WS n c.2.2.1 c.2.2.2.1 hin hok hw
    have hfi := fun {H' : List HP} {w : World} (hr : Rd B w0 H' A (l.flatMap flwF)) (hw : St B w0 H' w) => YdA l c.2.2.2.2 (by omega) (cap := cap) hr hw
    obtain ⟨gd, hgd⟩ : ∃ b, YR n.net c.2.2.1 c.2.2.2.1 = b := ⟨_, rfl⟩
    rw [hgd] at hgs hce
    cases gd with
    | false =>
      rw [if_pos (.inl rfl)] at hce
      rw [hbad (by rw [hce]; decide), hce, if_pos (show (7 : Int) ≠ 0 by decide)]
      clear hK
      repeat' (first | ((first | apply Yv XT | apply Yu XT); exact za; exact rfl; exact fun _ hw => (XN _ _ _ hw); all_goals (intro hB; (try simp only [decide_eq_true_eq, decide_eq_false_iff_not] at hB); try (exfalso; omega))) | ((first | apply Ya Z8 | apply Yb Z8); exact za; exact rfl; exact fun _ hw => (hgs (by repeat (first | exact hinm | apply NetM.In.cons)) hw)) | apply (zs1 ?_) | apply (zs2 ?_) | (apply zg1; first | refine zs3 ?_ | refine zs4 ?_) | (apply zg2; refine zs6 ?_) | (apply zg3; first | refine zs7 ?_ | refine zs8 ?_ | refine zs61 ?_) | (apply zg4; refine zs9 ?_) | (apply zg5; refine zs57 ?_) | (apply zg6; first | refine zs11 ?_ | refine zs12 ?_) | (apply (zs17 ?_ ?_) <;> intro _ <;> try (exfalso; omega)) | (apply zg14; refine zs31 ?_) | (apply zg20; first | refine zs47 ?_ | refine zs48 ?_) | (apply zg22; refine zs51 ?_) | (apply zg24; (refine zs54 ?_; intro _)) | apply (zs65 ?_) | apply (zs68 ?_) | apply (zs69 ?_) | apply (zs70 ?_) | (apply zg27; first | refine zs71 ?_ | refine zs72 ?_) | apply (zs73 ?_) | apply (zs74 ?_) | apply (zs76 ?_) | apply (zs77 ?_) | apply (zs78 ?_) | fail)
      apply Yi H
      · intro w hw
        have h5 : St B w0 [many H] w := by
          revert w
          exact zk
        exact h5.perm (.openT H)
      apply Yp; exact rfl; exact rfl; exact rfl; exact ⟨rfl, rfl⟩
    | true =>
    by_cases hneg : Zx l c.2.2.2.2 < 0
    · rw [if_pos (.inr hneg)] at hce
      rw [hbad (by rw [hce]; decide), hce, if_pos (show (7 : Int) ≠ 0 by decide)]
      clear hK
      repeat' (first | ((first | apply Yv XT | apply Yu XT); exact za; exact rfl; exact fun _ hw => (XN _ _ _ hw); all_goals (intro hB; (try simp only [decide_eq_true_eq, decide_eq_false_iff_not] at hB); try (exfalso; omega))) | ((first | apply Ya Z8 | apply Yb Z8); exact za; exact rfl; exact fun _ hw => (hgs (by repeat (first | exact hinm | apply NetM.In.cons)) hw)) | ((first | apply Ya Oo | apply Yb Oo); exact za; exact rfl; exact fun _ hw => (hfi zr hw)) | apply (zs1 ?_) | apply (zs2 ?_) | (apply zg1; refine zs4 ?_) | (apply zg2; refine zs6 ?_) | (apply zg3; first | refine zs7 ?_ | refine zs8 ?_ | refine zs61 ?_) | (apply zg4; refine zs9 ?_) | (apply zg5; refine zs57 ?_) | (apply zg6; refine zs12 ?_) | (apply (zs17 ?_ ?_) <;> intro _ <;> try (exfalso; omega)) | (apply zg14; refine zs31 ?_) | (apply zg20; refine zs47 ?_) | (apply zg22; refine zs51 ?_) | (apply zg24; (refine zs54 ?_; intro _)) | apply (zs65 ?_) | apply (zs68 ?_) | apply (zs69 ?_) | apply (zs70 ?_) | (apply zg27; first | refine zs71 ?_ | refine zs72 ?_) | apply (zs73 ?_) | apply (zs74 ?_) | apply (zs76 ?_) | apply (zs77 ?_) | apply (zs78 ?_) | fail)
      apply Yi H
      · intro w hw
        have h5 : St B w0 [many H] w := by
          revert w
          exact zk
        exact h5.perm (.openT H)
      apply Yp; exact rfl; exact rfl; exact rfl; exact ⟨rfl, rfl⟩
    rw [if_neg (by rintro (h | h); cases h; exact hneg h)] at hce
    rcases Nat.eq_zero_or_pos k with h0 | h0
    · subst h0
      rw [if_neg (by omega)] at hce
      repeat' (first | ((first | apply Yv XT | apply Yu XT); exact za; exact rfl; exact fun _ hw => (XN _ _ _ hw); all_goals (intro hB; (try simp only [decide_eq_true_eq, decide_eq_false_iff_not] at hB); try (exfalso; omega))) | ((first | apply Ya Z8 | apply Yb Z8); exact za; exact rfl; exact fun _ hw => (hgs (by repeat (first | exact hinm | apply NetM.In.cons)) hw)) | ((first | apply Ya Oo | apply Yb Oo); exact za; exact rfl; exact fun _ hw => (hfi zr hw)) | apply (zs1 ?_) | apply (zs2 ?_) | (apply zg1; first | refine zs3 ?_ | refine zs4 ?_) | (apply zg2; refine zs6 ?_) | (apply zg3; first | refine zs7 ?_ | refine zs8 ?_ | refine zs61 ?_) | (apply zg4; refine zs9 ?_) | (apply zg5; refine zs57 ?_) | (apply zg6; refine zs12 ?_) | (apply (zs17 ?_ ?_) <;> intro _ <;> try (exfalso; omega)) | (apply (zs19 ?_ ?_) <;> intro _ <;> try (exfalso; omega)) | (apply zg13; refine zs30 ?_) | (apply zg14; refine zs31 ?_) | (apply zg20; refine zs47 ?_) | (apply zg22; refine zs51 ?_) | (apply zg24; (refine zs54 ?_; intro _)) | apply (zs65 ?_) | apply (zs66 ?_) | apply (zs68 ?_) | apply (zs69 ?_) | apply (zs70 ?_) | (apply zg27; first | refine zs71 ?_ | refine zs72 ?_) | apply (zs73 ?_) | apply (zs76 ?_) | apply (zs79 ?_) | (apply zg28; refine zs84 ?_) | fail)
      apply hK (0 + 1)
      · exact ⟨by omega, hstep hce⟩
      · omega
      · exact zu
      · unfold netN
        exact zk
    have hget2 : s.cells[((k : Int) - 1).toNat]? = some (Yn s.sch (k - 1)) := by
      rw [show ((k : Int) - 1).toNat = k - 1 by omega]
      exact Yx (s := s.sch) (show k - 1 < s.cells.length by omega)
    obtain ⟨p, hpv⟩ : ∃ p, Yn s.sch (k - 1) = p := ⟨_, rfl⟩
    rw [hpv] at hce hget2
    have hls := fun {H' : List HP} {w : World} (hw : St B w0 H' w) => Yad p c hw
    cases hlv : Za p c with
    | true =>
      rw [hlv] at hls hce
      rw [if_neg (by simp)] at hce
      repeat' (first | ((first | apply Yv XT | apply Yu XT); exact za; exact rfl; exact fun _ hw => (XN _ _ _ hw); all_goals (intro hB; (try simp only [decide_eq_true_eq, decide_eq_false_iff_not] at hB); try (exfalso; omega))) | ((first | apply Ya Z8 | apply Yb Z8); exact za; exact rfl; exact fun _ hw => (hgs (by repeat (first | exact hinm | apply NetM.In.cons)) hw)) | ((first | apply Ya Oo | apply Yb Oo); exact za; exact rfl; exact fun _ hw => (hfi zr hw)) | ((first | apply Ya Ybf | apply Yb Ybf); exact za; exact rfl; exact fun _ hw => (hls hw)) | apply (zs1 ?_) | apply (zs2 ?_) | (apply zg1; refine zs4 ?_) | (apply zg2; refine zs6 ?_) | (apply zg3; first | refine zs7 ?_ | refine zs8 ?_ | refine zs61 ?_) | (apply zg4; refine zs9 ?_) | (apply zg5; refine zs57 ?_) | (apply zg6; first | refine zs11 ?_ | refine zs12 ?_) | (apply (zs17 ?_ ?_) <;> intro _ <;> try (exfalso; omega)) | (apply (zs19 ?_ ?_) <;> intro _ <;> try (exfalso; omega)) | (apply zg13; refine zs30 ?_) | (apply zg14; refine zs31 ?_) | (apply zg20; refine zs47 ?_) | (apply zg22; refine zs51 ?_) | (apply zg24; (refine zs54 ?_; intro _)) | apply (zs65 ?_) | apply (zs66 ?_) | apply (zs68 ?_) | apply (zs69 ?_) | apply (zs70 ?_) | (apply zg27; first | refine zs71 ?_ | refine zs72 ?_) | apply (zs73 ?_) | apply (zs76 ?_) | apply (zs79 ?_) | (apply zg28; refine zs84 ?_) | fail)
      apply hK (k + 1)
      · exact ⟨by omega, hstep hce⟩
      · omega
      · exact zu
      · unfold netN
        exact zk
    | false =>
      rw [hlv] at hls hce
      rw [if_pos ⟨h0, rfl⟩] at hce
      rw [hbad (by rw [hce]; decide), hce, if_pos (show (5 : Int) ≠ 0 by decide)]
      clear hK
      repeat' (first | ((first | apply Yv XT | apply Yu XT); exact za; exact rfl; exact fun _ hw => (XN _ _ _ hw); all_goals (intro hB; (try simp only [decide_eq_true_eq, decide_eq_false_iff_not] at hB); try (exfalso; omega))) | ((first | apply Ya Z8 | apply Yb Z8); exact za; exact rfl; exact fun _ hw => (hgs (by repeat (first | exact hinm | apply NetM.In.cons)) hw)) | ((first | apply Ya Oo | apply Yb Oo); exact za; exact rfl; exact fun _ hw => (hfi zr hw)) | ((first | apply Ya Ybf | apply Yb Ybf); exact za; exact rfl; exact fun _ hw => (hls hw)) | apply (zs1 ?_) | apply (zs2 ?_) | (apply zg1; refine zs4 ?_) | (apply zg2; refine zs6 ?_) | (apply zg3; first | refine zs7 ?_ | refine zs8 ?_ | refine zs61 ?_) | (apply zg4; refine zs9 ?_) | (apply zg5; refine zs57 ?_) | (apply zg6; first | refine zs11 ?_ | refine zs12 ?_) | (apply (zs17 ?_ ?_) <;> intro _ <;> try (exfalso; omega)) | (apply (zs19 ?_ ?_) <;> intro _ <;> try (exfalso; omega)) | (apply zg14; refine zs31 ?_) | (apply zg20; first | refine zs47 ?_ | refine zs48 ?_) | (apply zg22; refine zs51 ?_) | (apply zg24; (refine zs54 ?_; intro _)) | apply (zs65 ?_) | apply (zs66 ?_) | apply (zs68 ?_) | apply (zs69 ?_) | apply (zs70 ?_) | (apply zg27; first | refine zs71 ?_ | refine zs72 ?_) | apply (zs73 ?_) | apply (zs74 ?_) | apply (zs76 ?_) | apply (zs77 ?_) | apply (zs78 ?_) | (apply zg28; refine zs84 ?_) | fail)
      apply Yi H
      · intro w hw
        have h5 : St B w0 [many H] w := by
          revert w
          exact zk
        exact h5.perm (.openT H)
      apply Yp; exact rfl; exact rfl; exact rfl; exact ⟨rfl, rfl⟩
  have hcells : ∀ j, j < s.cells.length → XI n.net l s.sch j = 0 := fun j hj => hall j (by omega)
  rw [if_neg (fun h => h (by rw [hC, Y2]; exact fun j _ hj => hcells j (by omega)))]
  clear hK
  repeat' (first | apply (zs1 ?_) | apply (zs2 ?_) | (apply zg2; refine zs6 ?_) | (apply zg3; refine zs7 ?_) | (apply zg4; refine zs9 ?_) | (apply (zs17 ?_ ?_) <;> intro _ <;> try (exfalso; omega)) | apply (zs65 ?_) | apply (zs68 ?_) | apply (zs69 ?_) | apply (zs70 ?_) | (apply zg27; refine zs72 ?_) | apply (zs73 ?_) | apply (zs75 ?_) | apply (zs80 ?_) | apply (zs81 ?_) | fail)
  refine Yj (fun (i : Nat) => [(11, .int .i64 i), (3, .pointer (some ⟨gn, 0, none⟩)), (5, .pointer (some ⟨gs, 0, none⟩))]) (fun _ => blk gs (.cells #[.int .i64 s.len, .int .i64 s.off, .slice s.A s.cells.length s.cap] 30 (0, 0)) :: netN gn n :: [many H]) (fun i => i ≤ s.cells.length ∧ ∀ m, m < i → Xx s.sch m = false) (fun i => s.cells.length - i) 0 ⟨Nat.zero_le _, fun j hj => absurd hj (Nat.not_lt_zero _)⟩ ?_ (fun w hw => hw) ?_
  · exact zu
  rintro i ⟨hi, htw⟩ K2 hK
  unfold netN
  by_cases hli : i < s.cells.length
  · have hgi : s.cells[i]? = some (Yn s.sch i) := Yx (s := s.sch) hli
    obtain ⟨c, hc⟩ : ∃ c, Yn s.sch i = c := ⟨_, rfl⟩
    repeat' (first | apply (zs1 ?_) | apply (zs2 ?_) | (apply zg2; refine zs6 ?_) | (apply zg3; refine zs7 ?_) | (apply zg4; refine zs9 ?_) | (apply (zs17 ?_ ?_) <;> intro _ <;> try (exfalso; omega)) | apply (zs65 ?_) | apply (zs68 ?_) | apply (zs69 ?_) | apply (zs70 ?_) | (apply zg27; refine zs71 ?_) | apply (zs73 ?_) | apply (zs76 ?_) | fail)
    refine Yj (fun (j : Nat) => [(12, .int .i64 j), (11, .int .i64 i), (3, .pointer (some ⟨gn, 0, none⟩)), (5, .pointer (some ⟨gs, 0, none⟩))]) (fun _ => blk gs (.cells #[.int .i64 s.len, .int .i64 s.off, .slice s.A s.cells.length s.cap] 30 (0, 0)) :: netN gn n :: [many H]) (fun j => j ≤ i ∧ ∀ m, m < j → (decide ((Yn s.sch m).1 = c.1) && YY c (Yn s.sch m)) = false) (fun j => i - j) 0 ⟨Nat.zero_le _, fun j hj => absurd hj (Nat.not_lt_zero _)⟩ ?_ (fun w hw => hw) ?_
    · exact zu
    rintro j ⟨hj, hnt⟩ K3 hK2
    unfold netN
    by_cases hlj : j < i
    · have hgj : s.cells[j]? = some (Yn s.sch j) := Yx (s := s.sch) (show j < s.cells.length by omega)
      obtain ⟨d, hd⟩ : ∃ d, Yn s.sch j = d := ⟨_, rfl⟩
      rw [hc] at hgi
      rw [hd] at hgj
      have htc : YY c d = true ↔ (c.2.2.1 = d.2.2.1 ∨ c.2.2.1 = d.2.2.2.1 ∨ c.2.2.2.1 = d.2.2.1 ∨ c.2.2.2.1 = d.2.2.2.1) := by unfold YY YP toC; rw [decide_eq_true_eq]
      have hyes : d.1 = c.1 → YY c d = true → XQ s.sch = ((i : Int), 6) := fun h1 h2 => by
        have htr : Xx s.sch i = true := YbL hlj (by rw [hd, hc]; exact h1) (by rw [hd, hc]; exact h2)
        rw [hF, YV (i := i) (fun m _ hm => by simp only [htw m hm]; rfl) (Nat.zero_le _) (by omega) (by simp only [htr]; decide)]
        simp [htr]
      repeat' (first | apply (zs1 ?_) | (apply (zs17 ?_ ?_) <;> intro _ <;> try (exfalso; omega)) | apply (zs65 ?_) | apply (zs68 ?_) | apply (zs69 ?_) | apply (zs70 ?_) | (apply zg27; refine zs71 ?_) | apply (zs73 ?_) | apply (zs76 ?_) | fail)
      apply Ygn (.p1 0 (.p1 1 (.p1 2 (.p1 3 (.p1 4 (.p1 5 (.p1 6 (.p1 7 (.p1 8 (.p1 9 (.d2 10 (.d1 11 (.d1 12 (.d1 13 .done))) 11 (.d1 10 (.d1 12 (.d1 13 .done)))))))))))))) [] [true, false, true]
      kernel_rfl
      kernel_rfl
      exact zy
      exact rfl
      repeat' (first | (apply YjE; (simp only [nthO]; rfl)) | (apply YjC; (simp only [nthO]; rfl); exact zp) | (apply YjD; (simp only [nthO]; rfl); (simp only [nthO]; rfl); exact zp) | (apply YgI; (repeat (first | with_reducible exact Yh | (with_reducible apply Yf; (repeat (first | with_reducible exact Yg | with_reducible apply Ye)))))) | (apply Yh1; exact zp) | apply (zs1 ?_) | apply (zs2 ?_) | (apply zg1; first | refine zs3 ?_ | refine zs4 ?_) | (apply zg2; refine zs6 ?_) | (apply zg3; first | refine zs7 ?_ | refine zs61 ?_) | (apply zg5; refine zs57 ?_) | (apply zg6; first | refine zs11 ?_ | refine zs12 ?_) | (apply zg7; (refine zs15 ?_ ?_ <;> intro _ <;> try (exfalso; omega))) | (apply zg13; refine zs30 ?_) | (apply zg22; refine zs51 ?_) | (apply zg24; (refine zs54 ?_; intro _)) | apply (zs65 ?_) | (apply Yo; exact zp) | apply (zs68 ?_) | apply (zs69 ?_) | apply (zs70 ?_) | (apply zg27; first | refine zs71 ?_ | refine zs72 ?_) | apply (zs74 ?_) | apply (zs76 ?_) | apply (zs77 ?_) | apply (zs78 ?_) | apply (zs79 ?_) | apply (zs93 ?_) | apply (zs94 ?_) | fail)
      all_goals first
        | (apply hK2 (j + 1)
           · refine ⟨by omega, fun m hm => ?_⟩
             by_cases e : m = j
             · rw [e, hd, Bool.eq_false_iff, ne_eq, Bool.and_eq_true, decide_eq_true_eq, htc]
               omega
             · exact hnt m (by omega)
           · omega
           · exact zu
           · unfold netN
             exact zk
           done)
        | (have hT := hyes (by omega) (htc.2 (by omega))
           rw [hT, if_pos (show (6 : Int) ≠ 0 by decide)]
           apply Yi H
           · intro w hw
             have h5 : St B w0 [many H] w := by
               revert w
               exact zk
             exact h5.perm (.openT H)
           apply Yp; exact rfl; exact rfl; exact rfl; exact ⟨rfl, rfl⟩
           done)
    · repeat' (first | apply (zs1 ?_) | apply (zs2 ?_) | (apply (zs17 ?_ ?_) <;> intro _ <;> try (exfalso; omega)) | (apply zg13; refine zs30 ?_) | apply (zs65 ?_) | apply (zs68 ?_) | apply (zs69 ?_) | apply (zs70 ?_) | (apply zg27; refine zs72 ?_) | apply (zs75 ?_) | apply (zs79 ?_) | apply (zs80 ?_) | apply (zs81 ?_) | fail)
      apply hK (i + 1)
      · refine ⟨by omega, fun m hm => ?_⟩
        by_cases e : m = i
        · rw [e]
          unfold Xx
          rw [List.any_eq_false]
          intro q hq
          have := hnt q (by have := List.mem_range.1 hq; omega)
          rw [hc, this]
          decide
        · exact htw m (by omega)
      · omega
      · exact zu
      · unfold netN
        exact zk
  have htwa : ∀ m, m < s.cells.length → Xx s.sch m = false := fun m hm => htw m (by omega)
  have hfine : Fine n.net s.sch := Yej (l := l) hcells htwa
  rw [if_neg (fun h => h (by rw [hF, Y2]; exact fun j _ hj => by simp only [htwa j (by omega)]; rfl)), hR]
  clear hK
  repeat' (first | apply (zs1 ?_) | apply (zs2 ?_) | (apply zg2; refine zs6 ?_) | (apply zg3; refine zs7 ?_) | (apply zg4; refine zs9 ?_) | (apply (zs17 ?_ ?_) <;> intro _ <;> try (exfalso; omega)) | apply (zs65 ?_) | apply (zs68 ?_) | apply (zs69 ?_) | apply (zs70 ?_) | (apply zg27; refine zs72 ?_) | apply (zs73 ?_) | apply (zs75 ?_) | apply (zs80 ?_) | apply (zs81 ?_) | fail)
  refine Yj (fun (i : Nat) => [(15, .int .i64 i), (3, .pointer (some ⟨gn, 0, none⟩)), (5, .pointer (some ⟨gs, 0, none⟩))]) (fun _ => blk gs (.cells #[.int .i64 s.len, .int .i64 s.off, .slice s.A s.cells.length s.cap] 30 (0, 0)) :: netN gn n :: [many H]) (fun i => i ≤ s.cells.length ∧ ∀ m, m < i → JE n.net (YC s.sch m) (Yy s.sch m) = false) (fun i => s.cells.length - i) 0 ⟨Nat.zero_le _, fun j hj => absurd hj (Nat.not_lt_zero _)⟩ ?_ (fun w hw => hw) ?_
  · exact zu
  rintro i ⟨hi, hrfa⟩ K4 hK
  unfold netN
  by_cases hli : i < s.cells.length
  · have hgi : s.cells[i]? = some (Yn s.sch i) := Yx (s := s.sch) hli
    have hsa := Wz (s := s.sch) hli
    have hap := YdM hfine (i := i) hli
    have hsl := YbI hok hfine i
    have hgc := hfine.good _ (JO (s := s.sch) hli)
    obtain ⟨c, hc⟩ : ∃ c, Yn s.sch i = c := ⟨_, rfl⟩
    rw [hc] at hsa hap hgc
    have hgc : YR n.net c.2.2.1 c.2.2.2.1 = true := hgc
    have hrq := YfS hsa hgc hap
    have hfq := fun {A : Option Addr} {cap : Nat} {H' : List HP} {w : World} (hin : n.In B w0 H') (hr : Rd B w0 H' A ((YC s.sch i).flatMap celF)) (hw : St B w0 H' w) => Ydz n (YC s.sch i) (Yy s.sch i) c hok hsa hgc hap hsl (cap := cap) hin hr hw
    rw [← hrq] at hfq
    obtain ⟨b, hb⟩ : ∃ b, JE n.net (YC s.sch i) (Yy s.sch i) = b := ⟨_, rfl⟩
    rw [hb] at hfq
    repeat' (first | apply (zs1 ?_) | (apply zg2; refine zs6 ?_) | (apply zg3; first | refine zs7 ?_ | refine zs8 ?_) | (apply zg4; refine zs9 ?_) | (apply (zs17 ?_ ?_) <;> intro _ <;> try (exfalso; omega)) | apply (zs65 ?_) | apply (zs68 ?_) | apply (zs69 ?_) | apply (zs70 ?_) | (apply zg27; refine zs71 ?_) | apply (zs73 ?_) | apply (zs76 ?_) | fail)
    apply Yq _ YjS
    exact za
    exact rfl
    exact fun _ hw => (YdE s i hli (by omega) zr (hw))
    rintro _ _ ⟨A5, cap5, rfl, rfl⟩
    repeat' (first | apply (zs1 ?_) | apply (zs2 ?_) | (apply zg3; refine zs8 ?_) | apply (zs13 ?_) | apply (zs65 ?_) | apply (zs68 ?_) | apply (zs69 ?_) | apply (zs70 ?_) | fail)
    first | apply Ya YiQ | apply Yb YiQ
    exact za
    exact rfl
    exact fun _ hw => (hfq (by repeat (first | exact hinm | apply NetM.In.cons)) (Rd.cels (cap := cap5) zm) hw)
    cases b with
    | true =>
      rw [YV (i := i) (fun m _ hm => by simp only [hrfa m hm]; rfl) (Nat.zero_le _) (by omega) (by simp only [hb]; decide)]
      simp only [hb]
      repeat' (first | apply (zs1 ?_) | apply (zs2 ?_) | apply (zs65 ?_) | apply (zs68 ?_) | apply (zs69 ?_) | apply (zs70 ?_) | (apply zg27; refine zs71 ?_) | apply (zs74 ?_) | apply (zs77 ?_) | apply (zs78 ?_) | fail)
      apply Yi H
      · intro w hw
        have h5 : St B w0 [many H] w := by
          revert w
          exact zk
        exact h5.perm (.openT H)
      apply Yp; exact rfl; exact rfl; exact rfl; exact ⟨rfl, rfl⟩
    | false =>
      repeat' (first | apply (zs1 ?_) | apply (zs2 ?_) | (apply zg13; refine zs30 ?_) | apply (zs65 ?_) | apply (zs68 ?_) | apply (zs70 ?_) | (apply zg27; refine zs72 ?_) | apply (zs76 ?_) | apply (zs79 ?_) | fail)
      apply hK (i + 1)
      · refine ⟨by omega, fun m hm => ?_⟩
        by_cases e : m = i
        · rw [e]; exact hb
        · exact hrfa m (by omega)
      · omega
      · exact zu
      · unfold netN
        exact zk
  · rw [Y9 fun m _ hm => by simp only [hrfa m (by omega)]; rfl]
    repeat' (first | apply (zs1 ?_) | apply (zs2 ?_) | (apply zg2; refine zs6 ?_) | (apply zg3; refine zs7 ?_) | (apply zg4; refine zs9 ?_) | (apply (zs17 ?_ ?_) <;> intro _ <;> try (exfalso; omega)) | apply (zs65 ?_) | apply (zs68 ?_) | apply (zs69 ?_) | apply (zs70 ?_) | (apply zg27; refine zs72 ?_) | apply (zs74 ?_) | apply (zs75 ?_) | apply (zs80 ?_) | apply (zs81 ?_) | fail)
    apply Yi H
    · intro w hw
      have h5 : St B w0 [many H] w := by
        revert w
        exact zk
      exact h5.perm (.openT H)
    apply Yp; exact rfl; exact rfl; exact rfl; exact ⟨rfl, rfl⟩
open Go.RowKit Go.Eng Go.Nw
def Yb8 (n : Net) : Bool := decide ((∀ r ∈ n.power, r.length ≤ 40) ∧ n.power.length ≤ 8 ∧ n.links.length ≤ 60 ∧ n.margin.length ≤ 60)
theorem QJ (n : NetM) {B : Nat} {w0 : World} {H : List HP} {w : World} (hin : n.In B w0 H) (hw : St B w0 H w) :
    Calls Tryz.prog 12 [n.val].toArray w (Post B w0 fun v K => v = .bool (Yb8 n.net) ∧ K = H) := by
  refine Yc Tryz.func12 Tryz.ntmps12 rfl rfl hw ?_
  obtain ⟨hpw, hrw, hlk, hmg, hs1, hs2, hs3, hs4⟩ := id hin
  have e1 : (∀ r ∈ n.net.power, r.length ≤ 40) ↔ ∀ r ∈ n.rows, r.xs.length ≤ 40 := by simp [NetM.net]
  have e2 : n.net.power.length = n.rows.length := by simp [NetM.net]
  have e3 : n.net.links = n.links := rfl
  have e4 : n.net.margin = n.margin := rfl
  unfold Yb8
  rw [e2, e3, e4]
  (apply XH; apply Xg; apply Xa; exact rfl; exact rfl; intro g)
  repeat' (first | apply (zs2 ?_) | apply (zs65 ?_) | apply (zs68 ?_) | apply (zs69 ?_) | apply (zs70 ?_) | apply (zs73 ?_) | fail)
  refine Yj (fun (a : Nat) => [(3, .int .i64 a), (1, .pointer (some ⟨g, 0, none⟩))]) (fun _ => netN g n :: H) (fun a => a ≤ n.rows.length ∧ ∀ j r, j < a → n.rows[j]? = some r → r.xs.length ≤ 40) (fun a => n.rows.length - a) 0 ⟨Nat.zero_le _, by intro j r hj; omega⟩ ?_ (fun w hw => hw) ?_
  · exact zu
  rintro a ⟨ha, hai⟩ K hK
  unfold netN
  by_cases hlt : a < n.rows.length
  · obtain ⟨r, hr⟩ : ∃ r, n.rows[a]? = some r := ⟨_, List.getElem?_eq_getElem hlt⟩
    have hs2r := hs2 r (List.mem_of_getElem? hr)
    repeat' (first | apply (zs1 ?_) | apply (zs2 ?_) | (apply zg2; refine zs6 ?_) | (apply zg3; first | refine zs7 ?_ | refine zs60 ?_) | (apply zg4; refine zs9 ?_) | (apply zg5; refine zs57 ?_) | (apply (zs17 ?_ ?_) <;> intro _ <;> try (exfalso; omega)) | (apply (zs19 ?_ ?_) <;> intro _ <;> try (exfalso; omega)) | (apply zg13; refine zs30 ?_) | apply (zs65 ?_) | apply (zs68 ?_) | apply (zs69 ?_) | apply (zs70 ?_) | (apply zg27; first | refine zs71 ?_ | refine zs72 ?_) | apply (zs73 ?_) | apply (zs74 ?_) | apply (zs76 ?_) | apply (zs77 ?_) | apply (zs78 ?_) | apply (zs79 ?_) | fail)
    · rename_i h
      apply Ym; apply Yd; exact rfl; exact rfl
      exact ⟨by rw [decide_eq_false fun hc => by have := e1.1 hc.1 r (List.mem_of_getElem? hr); omega], rfl⟩
    · rename_i h
      apply hK (a + 1)
      · refine ⟨by omega, fun j q hj hq => ?_⟩
        by_cases e : j = a
        · subst e; rw [hr] at hq; rw [← Option.some.inj hq]; omega
        · exact hai j q (by omega) hq
      · omega
      · exact zu
      · exact fun w hw => hw
  obtain rfl : a = n.rows.length := by omega
  have hall : ∀ r ∈ n.rows, r.xs.length ≤ 40 := fun r hr => by
    obtain ⟨j, hj⟩ := List.getElem?_of_mem hr
    exact hai j r (List.getElem?_eq_some_iff.1 hj).1 hj
  repeat' (first | apply (zs1 ?_) | apply (zs2 ?_) | (apply zg1; first | refine zs3 ?_ | refine zs4 ?_) | (apply zg2; refine zs6 ?_) | (apply zg3; refine zs7 ?_) | (apply zg4; refine zs9 ?_) | (apply zg6; first | refine zs11 ?_ | refine zs12 ?_) | (apply (zs17 ?_ ?_) <;> intro _ <;> try (exfalso; omega)) | (apply (zs18 ?_ ?_) <;> intro _ <;> try (exfalso; omega)) | apply (zs65 ?_) | apply (zs68 ?_) | apply (zs69 ?_) | apply (zs70 ?_) | (apply zg27; refine zs72 ?_) | apply (zs74 ?_) | apply (zs75 ?_) | apply (zs80 ?_) | apply (zs81 ?_) | fail)
  · apply Ym; apply Yd; exact rfl; exact rfl
    exact ⟨by rw [decide_eq_true ⟨e1.2 hall, by omega, by omega, by omega⟩], rfl⟩
  all_goals (apply Ym; apply Yd; exact rfl; exact rfl; exact ⟨by rw [decide_eq_false fun hc => by omega], rfl⟩)
open Go.RowKit Go.Eng Go.Nw Go.Rt
structure RqM.Bg (B : Nat) (w0 : World) (H : List HP) (x : RqM) : Prop where
  rt : Rd B w0 H x.A (x.rows.flatMap rowF)
  rw_ : ∀ r ∈ x.rows, Rd B w0 H r.A (r.xs.flatMap numF)
  ln : x.rows.length ≤ 9223372036854775807
  rl : ∀ r ∈ x.rows, r.xs.length ≤ 9223372036854775807 ∧ r.xs.length ≤ r.cap
structure QBg (B : Nat) (w0 : World) (H : List HP) (A : Option Addr) (q : List RqM) : Prop where
  rd : Rd B w0 H A (q.flatMap rqF)
  x : ∀ x ∈ q, x.Bg B w0 H
  ln : q.length ≤ 9223372036854775807
theorem RqM.Bg.mono {B : Nat} {w0 : World} {H H' : List HP} {x : RqM} (h : x.Bg B w0 H) (hH : ∀ w, St B w0 H' w → St B w0 H w) : x.Bg B w0 H' := ⟨h.rt.mono hH, fun r hr => (h.rw_ r hr).mono hH, h.ln, h.rl⟩
theorem QBg.mono {B : Nat} {w0 : World} {H H' : List HP} {A : Option Addr} {q : List RqM} (h : QBg B w0 H A q) (hH : ∀ w, St B w0 H' w → St B w0 H w) : QBg B w0 H' A q := ⟨h.rd.mono hH, fun x hx => (h.x x hx).mono hH, h.ln⟩
def FewR (l : List RowM) : Prop := l.length ≤ 3 ∧ ∀ r ∈ l, r.xs.length ≤ 12
def FewQ (q : List RqM) (s : SchM) : Prop := q.length ≤ 4 ∧ s.cells.length ≤ 30 ∧ ∀ x ∈ q, FewR x.rows
theorem QBg.small {B : Nat} {w0 : World} {H : List HP} {A : Option Addr} {q : List RqM} {s : SchM} (h : QBg B w0 H A q) (hf : FewQ q s) : QIn B w0 H A q := by
  refine ⟨h.rd, fun x hx => ?_, by have := hf.1; omega⟩
  have h1 := h.x x hx
  obtain ⟨f1, f2⟩ := hf.2.2 x hx
  exact ⟨h1.rt, h1.rw_, by omega, fun r hr => ⟨by have := f2 r hr; omega, (h1.rl r hr).2⟩⟩
theorem req_bg {W : World} {s : SlM RqM} {K : List HP} (h : SlG W rqF (RqG W) s) : QBg W.heap.size W K s.A s.xs :=
  ⟨h.old.rd, fun x hx => ⟨(h.good x hx).old.rd, fun r hr => ((h.good x hx).good r hr).old.rd, (h.good x hx).len, fun r hr => ⟨((h.good x hx).good r hr).len, ((h.good x hx).good r hr).cap⟩⟩, Nat.le_trans h.len maxL⟩
set_option maxRecDepth 10000 in
set_option maxHeartbeats 2000000 in
theorem Yeg (n : NetM) (s : SchM) (l : List RowM) {A : Option Addr} {cap B : Nat} {w0 : World} {H : List HP} {w : World} (hin : n.In B w0 H) (hr : Rd B w0 H A (l.flatMap rowF)) (hll : l.length ≤ 9223372036854775807) (_hsl : s.cells.length ≤ 9223372036854775807) (hlr : ∀ r ∈ l, r.xs.length ≤ 9223372036854775807) (hw : St B w0 H w) :
    Calls Tryz.prog 66 [n.val, s.val, .slice A l.length cap].toArray w (Post B w0 fun v K => (∃ b, v = .bool b ∧ (b = true → FewR l)) ∧ K = H) := by
  refine Yc Tryz.func66 Tryz.ntmps66 rfl rfl hw ?_
  unfold NetM.val SchM.val
  have p1 := fun {H' : List HP} {w : World} (hin : n.In B w0 H') (hw : St B w0 H' w) => QJ n hin hw
  unfold NetM.val at p1
  repeat' (first | apply (zs2 ?_) | (apply zg23; (refine zs52 ?_; intro _)) | apply (zs65 ?_) | apply (zs68 ?_) | apply (zs69 ?_) | apply (zs70 ?_) | apply (zs73 ?_) | fail)
  rename_i g3 g4
  refine Yj (fun k : Nat => [(7, .int .i64 (k : Nat)), (2, .slice A l.length cap), (4, .pointer (some ⟨g4, 0, none⟩)), (3, .pointer (some ⟨g3, 0, none⟩))]) (fun _ => schA g4 s :: netA g3 n :: H) (fun k => k ≤ l.length ∧ ∀ r ∈ l.take k, r.xs.length ≤ 12) (fun k => l.length - k) 0 ⟨Nat.zero_le _, by simp⟩ ?_ (fun w hw => hw) ?_
  · exact zu
  rintro k ⟨hk, hz⟩ K hK
  have hr2 : Rd B w0 (schA g4 s :: netA g3 n :: H) A (l.flatMap rowF) := hr.cons.cons
  by_cases hlt : k < l.length
  · obtain ⟨r, hx⟩ : ∃ r, l[k]? = some r := ⟨_, List.getElem?_eq_getElem hlt⟩
    have hrl := hlr r (List.mem_of_getElem? hx)
    repeat' (first | apply (zs1 ?_) | apply (zs2 ?_) | (apply zg3; refine zs60 ?_) | (apply zg4; refine zs9 ?_) | (apply zg5; refine zs57 ?_) | (apply (zs17 ?_ ?_) <;> intro _ <;> try (exfalso; omega)) | (apply (zs19 ?_ ?_) <;> intro _ <;> try (exfalso; omega)) | (apply zg13; refine zs30 ?_) | apply (zs65 ?_) | apply (zs68 ?_) | apply (zs69 ?_) | apply (zs70 ?_) | (apply zg27; first | refine zs71 ?_ | refine zs72 ?_) | apply (zs73 ?_) | apply (zs74 ?_) | apply (zs76 ?_) | apply (zs77 ?_) | apply (zs78 ?_) | apply (zs79 ?_) | fail)
    · apply Yi H
      · exact zk
      apply Yd; exact rfl; exact rfl; exact ⟨⟨_, rfl, fun h => by cases h⟩, rfl⟩
    · apply hK (k + 1)
      · exact ⟨by omega, VR hz hx (by omega)⟩
      · omega
      · exact zu
      · exact fun w hw => hw
  · have hz := U7 hz hlt
    clear hK
    cases hb : Yb8 n.net <;> (
      rw [hb] at p1
      repeat' (first | apply (zs1 ?_) | (apply zg3; refine zs8 ?_) | (apply zg4; refine zs9 ?_) | (apply (zs17 ?_ ?_) <;> intro _ <;> try (exfalso; omega)) | apply (zs65 ?_) | apply (zs68 ?_) | apply (zs69 ?_) | apply (zs70 ?_) | (apply zg27; refine zs72 ?_) | apply (zs75 ?_) | apply (zs80 ?_) | apply (zs81 ?_) | fail)
      first | apply Ya en12 | apply Yb en12
      exact za
      exact rfl
      exact fun _ hw => (p1 (hin.mono zk) hw)
      repeat' (first | apply (zs1 ?_) | apply (zs2 ?_) | (apply zg1; first | refine zs3 ?_ | refine zs4 ?_) | (apply zg2; refine zs6 ?_) | (apply zg3; refine zs7 ?_) | (apply zg4; refine zs9 ?_) | (apply zg6; first | refine zs11 ?_ | refine zs12 ?_) | (apply (zs18 ?_ ?_) <;> intro _ <;> try (exfalso; omega)) | apply (zs65 ?_) | apply (zs68 ?_) | apply (zs74 ?_) | fail)
      all_goals (
        apply Yi H
        · exact zk
        apply Yd; exact rfl; exact rfl
        exact ⟨⟨_, rfl, fun h => by first | (exact absurd h (by decide)) | (rw [decide_eq_true_eq] at h; exact ⟨by omega, hz⟩) | exact ⟨by omega, hz⟩⟩, rfl⟩))
set_option maxRecDepth 10000 in
set_option maxHeartbeats 2000000 in
theorem QK (n : NetM) (q : List RqM) (s : SchM) {A : Option Addr} {cap B : Nat} {w0 : World} {H : List HP} {w : World} (hin : n.In B w0 H) (hq : QBg B w0 H A q) (hsl : s.cells.length ≤ 9223372036854775807) (hw : St B w0 H w) :
    Calls Tryz.prog 18 [n.val, .slice A q.length cap, s.val].toArray w (Post B w0 fun v K => (∃ b, v = .bool b ∧ (b = true → FewQ q s)) ∧ K = H) := by
  refine Yc Tryz.func18 Tryz.ntmps18 rfl rfl hw ?_
  unfold NetM.val SchM.val
  have p1 := fun {H' : List HP} {w : World} (hin : n.In B w0 H') (hw : St B w0 H' w) => QJ n hin hw
  have p2 := fun {x : RqM} {H' : List HP} {w : World} (hin : n.In B w0 H') (hx : x.Bg B w0 H') (hw : St B w0 H' w) => Yeg n ⟨0, 0, none, 0, []⟩ x.rows (cap := x.cap) hin hx.rt hx.ln (by simp) (fun r hr => (hx.rl r hr).1) hw
  unfold NetM.val at p1 p2
  have hql := hq.ln
  repeat' (first | apply (zs2 ?_) | (apply zg23; (refine zs52 ?_; intro _)) | apply (zs65 ?_) | apply (zs68 ?_) | apply (zs69 ?_) | apply (zs70 ?_) | apply (zs73 ?_) | fail)
  rename_i g3 g4
  refine Yj (fun k : Nat => [(7, .int .i64 (k : Nat)), (1, .slice A q.length cap), (5, .pointer (some ⟨g4, 0, none⟩)), (3, .pointer (some ⟨g3, 0, none⟩))]) (fun _ => schA g4 s :: netA g3 n :: H) (fun k => k ≤ q.length ∧ ∀ x ∈ q.take k, FewR x.rows) (fun k => q.length - k) 0 ⟨Nat.zero_le _, by simp⟩ ?_ (fun w hw => hw) ?_
  · exact zu
  rintro k ⟨hk, hz⟩ K hK
  have hr2 : Rd B w0 (schA g4 s :: netA g3 n :: H) A (q.flatMap rqF) := hq.rd.cons.cons
  by_cases hlt : k < q.length
  · obtain ⟨x, hx⟩ : ∃ x, q[k]? = some x := ⟨_, List.getElem?_eq_getElem hlt⟩
    have hxb := hq.x x (List.mem_of_getElem? hx)
    repeat' (first | apply (zs1 ?_) | (apply zg4; refine zs9 ?_) | (apply (zs17 ?_ ?_) <;> intro _ <;> try (exfalso; omega)) | apply (zs65 ?_) | apply (zs68 ?_) | apply (zs69 ?_) | apply (zs70 ?_) | (apply zg27; refine zs71 ?_) | apply (zs73 ?_) | apply (zs76 ?_) | fail)
    apply YB [0, 1, 2, 3, 4, 5, 6, 7, 8] []
    kernel_rfl
    kernel_rfl
    (simp only [Yk, nthO]; rfl)
    exact rfl
    repeat' (first | apply (zs1 ?_) | (apply zg2; refine zs58 ?_) | (apply zg3; first | refine zs8 ?_ | refine zs59 ?_) | (apply zg5; refine zs57 ?_) | (apply zg25; refine zs55 ?_) | apply (zs87 ?_) | fail)
    apply Yq _ en66
    exact za
    exact rfl
    exact fun _ hw => (p2 (hin.mono zk) (hxb.mono zk) (hw))
    rintro _ _ ⟨⟨b, rfl, hb⟩, hK0⟩
    rw [hK0]
    cases b with
    | false =>
      repeat' (first | apply (zs2 ?_) | (apply zg20; refine zs48 ?_) | apply (zs65 ?_) | (apply Yo; exact zp) | apply (zs68 ?_) | apply (zs69 ?_) | apply (zs70 ?_) | (apply zg27; refine zs71 ?_) | apply (zs74 ?_) | apply (zs77 ?_) | apply (zs78 ?_) | (apply Yl; (repeat (first | with_reducible exact Yh | (with_reducible apply Yf; (repeat (first | with_reducible exact Yg | with_reducible apply Ye)))))) | apply (zs93 ?_) | apply (zs94 ?_) | fail)
      · show Perm H (H ++ [])
        rw [List.append_nil]; exact Perm.refl _
      repeat' (first | fail)
      apply Yi H
      · exact zk
      apply Yd; exact rfl; exact rfl; exact ⟨⟨_, rfl, fun h => by cases h⟩, rfl⟩
    | true =>
      have hb := hb rfl
      repeat' (first | apply (zs1 ?_) | apply (zs2 ?_) | (apply zg13; refine zs30 ?_) | (apply zg20; refine zs47 ?_) | apply (zs65 ?_) | (apply Yo; exact zp) | apply (zs68 ?_) | apply (zs70 ?_) | (apply zg27; refine zs72 ?_) | apply (zs76 ?_) | apply (zs79 ?_) | (apply Yl; (repeat (first | with_reducible exact Yh | (with_reducible apply Yf; (repeat (first | with_reducible exact Yg | with_reducible apply Ye)))))) | apply (zs93 ?_) | apply (zs94 ?_) | fail)
      · show Perm H (H ++ [])
        rw [List.append_nil]; exact Perm.refl _
      repeat' (first | fail)
      apply hK (k + 1)
      · exact ⟨by omega, VR hz hx hb⟩
      · omega
      · exact zu
      · exact fun w hw => hw
  · have hz := U7 hz hlt
    clear hK
    cases hb : Yb8 n.net <;> (
      rw [hb] at p1
      repeat' (first | apply (zs1 ?_) | (apply zg3; refine zs8 ?_) | (apply zg4; refine zs9 ?_) | (apply (zs17 ?_ ?_) <;> intro _ <;> try (exfalso; omega)) | apply (zs65 ?_) | apply (zs68 ?_) | apply (zs69 ?_) | apply (zs70 ?_) | (apply zg27; refine zs72 ?_) | apply (zs75 ?_) | apply (zs80 ?_) | apply (zs81 ?_) | fail)
      first | apply Ya en12 | apply Yb en12
      exact za
      exact rfl
      exact fun _ hw => (p1 (hin.mono zk) hw)
      repeat' (first | apply (zs1 ?_) | apply (zs2 ?_) | (apply zg1; first | refine zs3 ?_ | refine zs4 ?_) | (apply zg2; refine zs6 ?_) | (apply zg3; refine zs7 ?_) | (apply zg4; refine zs9 ?_) | (apply zg6; first | refine zs11 ?_ | refine zs12 ?_) | (apply (zs18 ?_ ?_) <;> intro _ <;> try (exfalso; omega)) | apply (zs65 ?_) | apply (zs68 ?_) | apply (zs74 ?_) | fail)
      all_goals (
        apply Yi H
        · exact zk
        apply Yd; exact rfl; exact rfl
        exact ⟨⟨_, rfl, fun h => by first | (exact absurd h (by decide)) | (rw [decide_eq_true_eq] at h; exact ⟨by omega, by omega, hz⟩) | exact ⟨by omega, by omega, hz⟩⟩, rfl⟩))
end Go.Proofs.YtmalhidldgfeoaaGreatDoor
namespace Go.Eng
open Go.RowKit
theorem ZJ (H : List HP) : Perm H (H ++ []) := by rw [List.append_nil]; exact Perm.refl _
section
variable {P : Program} {B : Nat} {w0 : World} {Q : Exit → Act → World → Prop} {env : Env} {H : List HP} {m : Mode} {n : Shp} {ops : Array Oper} {rest : List Oper} {d : Nat} {ty : TypeId} {pos : String} {after : Array Edge} {xt yt : TypeId} {x y : Operand} {k : IntKind} {a b : Int}
theorem YhM (hx : evo env x = some (.int k a)) (hy : evo env y = some (.int k b)) (hn : Nat.ble (d + 1) n.k = true) (h : VL P m n B w0 ops Q rest ((d, .bool (decide (a = b))) :: env) H) :
    VL P m n B w0 ops Q (⟨some d, .binOp .eql xt x y yt, ty, pos, after, none⟩ :: rest) env H := by
  refine Ygt hx hy hn (fun e => ?_) (fun e => ?_)
  · rwa [decide_eq_true e] at h
  · rwa [decide_eq_false e] at h
theorem Qp (T : Tab P) {α : Type} {f : α → List Value} {l : List α} {t i q o k : Nat} {b : α} {x : Operand} {A : Option Addr} {vs : List Value} (hx : evo env x = some (sptr A (i * q + o))) (hr : Rd B w0 H A (l.flatMap f)) (hb : l[i]? = some b) (hq : ∀ a, (f a).length = q)
    (ht : look T.ag t = some k) (ho : Nat.ble (o + k) q = true) (h0 : Nat.blt 0 k = true) (hv : subL o k (f b) = vs) (hk : Nat.beq vs.length k = true) (hn : Nat.ble (d + 1) n.k = true)
    (h : VL P m n B w0 ops Q rest ((d, .agg vs.toArray) :: env) H) : VL P m n B w0 ops Q (⟨some d, .load t x, ty, pos, after, none⟩ :: rest) env H := by
  refine YF rfl rfl hn rfl (fun a w ha hw => ?_) h
  have hk := Nat.eq_of_beq_eq_true hk
  have hk0 : 0 < k := by simpa using h0
  have hok : o + k ≤ q := Nat.le_of_ble_eq_true ho
  have hget : ∀ j v, vs[j]? = some v → (l.flatMap f)[i * q + o + j]? = some v := fun j v hj => by
    have hlt : j < k := by have := (List.getElem?_eq_some_iff.1 hj).1; rwa [hk] at this
    rw [Nat.add_assoc, V2 hq l i (o + j) b hb (by omega)]
    rw [← hv, subL, List.getElem?_take, if_pos hlt, List.getElem?_drop] at hj
    exact hj
  obtain ⟨g, u, rfl, _⟩ := hr w hw _ _ (hget 0 _ (List.getElem?_eq_getElem (by rw [hk]; exact hk0)))
  have hl := run_loadCells_list (P := P) w ⟨g, u + (i * q + o), none⟩ vs (fun j v hj => by
    obtain ⟨g', u', e1, hc⟩ := hr w hw _ _ (hget j v hj)
    injection e1 with e1
    injection e1 with e1 e2
    subst e1 e2
    rw [Addr.add_lit, Nat.add_assoc]; exact hc)
  rw [hk] at hl
  simp [execOp, ha.eval hx, sptr, Instr.loadAt, Instr.sureAddr, loadVar, XO (T.aggs ht), Xw (Zz (T.aggs ht)), Addr.add_lit, hl]
end
open Go.RowKit
section
variable {P : Program} {B : Nat} {w0 : World} {Q : Exit → Act → World → Prop} {env : Env} {H : List HP} {m : Mode} {n : Shp} {ops : Array Oper} {rest : List Oper} {d : Nat} {ty : TypeId} {pos : String} {after : Array Edge}
end
end Go.Eng
namespace Go.Proofs.YtmalhidldgfeoaaGreatDoor
open Go.RowKit Go.Eng Go.Nw Go.Rt
set_option maxRecDepth 10000 in
theorem OH (q : List RqM) {A : Option Addr} {cap B : Nat} {w0 : World} {H : List HP} {w : World} (hl : q.length ≤ 1000000000000) (hr : Rd B w0 H A (q.flatMap rqF)) (hw : St B w0 H w) :
    Calls Tryz.prog 32 [.slice A q.length cap].toArray w (Post B w0 fun v K => ∃ A2 cap2, v = .slice A2 (RqM.fl q).length cap2 ∧ K = flws A2 cap2 (RqM.fl q) :: H) := by
  refine Yc Tryz.func32 Tryz.ntmps32 rfl rfl hw ?_
  repeat' (first | (apply YW T; exact rfl; exact rfl; intro g2) | apply (zs2 ?_) | apply (zs65 ?_) | apply (zs68 ?_) | apply (zs69 ?_) | apply (zs70 ?_) | apply (zs73 ?_) | fail)
  refine Yj (fun z : FlM => [(4, .int .i64 (z.i : Nat)), (3, .slice z.A (RqM.fl (q.take z.i)).length z.cap), (0, .slice A q.length cap)]) (fun z => flws z.A z.cap (RqM.fl (q.take z.i)) :: H) (fun z => z.i ≤ q.length) (fun z => q.length - z.i) ⟨0, some ⟨g2, 0, none⟩, 0⟩ (Nat.zero_le _) ?_ (fun w hw => hw) ?_
  · exact zu
  rintro ⟨i, A2, cap2⟩ hi K hK
  dsimp only at hi ⊢
  have hlen : (RqM.fl (q.take i)).length = i := by unfold RqM.fl; rw [List.length_map, List.length_take]; omega
  have hr' := hr.cons (X := flws A2 cap2 (RqM.fl (q.take i)))
  by_cases hlt : i < q.length
  · obtain ⟨x, hx⟩ : ∃ x, q[i]? = some x := ⟨_, List.getElem?_eq_getElem hlt⟩
    have hst : RqM.fl (q.take (i + 1)) = RqM.fl (q.take i) ++ [x.f] := by unfold RqM.fl; rw [List.take_add_one, hx, Option.toList_some, List.map_append]; rfl
    repeat' (first | (apply Qp T (vs := [.int .i64 x.f.1, .int .i64 x.f.2.1, .int .i64 x.f.2.2.1, .int .i64 x.f.2.2.2.1, .int .i64 x.f.2.2.2.2.1, .int .i64 x.f.2.2.2.2.2]); exact rfl; exact hr'; exact hx; exact fun _ => rfl; exact rfl; exact rfl; exact rfl; exact rfl; exact rfl; exact rfl) | apply (zs1 ?_) | apply (zs2 ?_) | (apply zg2; refine zs58 ?_) | (apply zg4; refine zs9 ?_) | (apply zg5; refine zs57 ?_) | (apply (zs17 ?_ ?_) <;> intro _ <;> try (exfalso; omega)) | (apply zg13; refine zs30 ?_) | (apply zg21; (refine zs49 ?_; intro _ _)) | (apply zg26; (refine zs56 ?_; intro _)) | apply (zs65 ?_) | apply (zs68 ?_) | apply (zs69 ?_) | apply (zs70 ?_) | (apply zg27; refine zs71 ?_) | apply (zs73 ?_) | apply (zs76 ?_) | apply (zs79 ?_) | fail)
    rename_i A' cap'
    rw [Ybp, ← hst, show (RqM.fl (q.take i)).length + 1 = (RqM.fl (q.take (i + 1))).length from by rw [hst]; simp]
    apply hK ⟨i + 1, A', cap'⟩
    · show i + 1 ≤ _
      omega
    · dsimp only; omega
    · exact zu
    · exact zk
  · obtain rfl : i = q.length := by omega
    rw [List.take_length]
    repeat' (first | apply (zs1 ?_) | apply (zs2 ?_) | (apply zg4; refine zs9 ?_) | (apply (zs17 ?_ ?_) <;> intro _ <;> try (exfalso; omega)) | apply (zs65 ?_) | apply (zs68 ?_) | apply (zs69 ?_) | apply (zs70 ?_) | (apply zg27; refine zs72 ?_) | apply (zs74 ?_) | apply (zs75 ?_) | apply (zs80 ?_) | apply (zs81 ?_) | fail)
    apply Yd; exact rfl; exact rfl
    exact ⟨A2, cap2, rfl, rfl⟩
abbrev flwB (g : Nat) (f : Flw) : HP := blk g (.cells #[.int .i64 f.1, .int .i64 f.2.1, .int .i64 f.2.2.1, .int .i64 f.2.2.2.1, .int .i64 f.2.2.2.2.1, .int .i64 f.2.2.2.2.2] 68 (0, 0))
open Go.RowKit Go.Eng Go.Nw Go.Rt
theorem UU (n : NetM) (a : Int) {B : Nat} {w0 : World} {H : List HP} {w : World} (hw : St B w0 H w) :
    Calls Tryz.prog 230 [n.val, .int .i64 a].toArray w (Post B w0 fun v K => v = .bool (!offE n.net a) ∧ K = H) := by
  refine Yc Tryz.func230 Tryz.ntmps230 rfl rfl hw ?_
  have e7 : n.net.nodes = n.nodes := rfl
  unfold offE
  rw [e7]
  by_cases h : a < 0 ∨ n.nodes ≤ a
  · rw [decide_eq_true h]
    repeat' (first | apply (zs1 ?_) | apply (zs2 ?_) | (apply zg1; first | refine zs3 ?_ | refine zs4 ?_) | (apply zg2; refine zs6 ?_) | (apply zg3; refine zs7 ?_) | (apply zg6; first | refine zs11 ?_ | refine zs12 ?_) | (apply (zs17 ?_ ?_) <;> intro _ <;> try (exfalso; omega)) | (apply (zs20 ?_ ?_) <;> intro _ <;> try (exfalso; omega)) | (apply zg23; (refine zs52 ?_; intro _)) | apply (zs65 ?_) | apply (zs68 ?_) | apply (zs69 ?_) | apply (zs70 ?_) | apply (zs74 ?_) | fail)
    all_goals (apply Ym; apply Yd; exact rfl; exact rfl; exact ⟨rfl, rfl⟩)
  · rw [decide_eq_false h]
    repeat' (first | apply (zs1 ?_) | apply (zs2 ?_) | (apply zg1; refine zs4 ?_) | (apply zg2; refine zs6 ?_) | (apply zg3; refine zs7 ?_) | (apply zg6; refine zs11 ?_) | (apply (zs17 ?_ ?_) <;> intro _ <;> try (exfalso; omega)) | (apply (zs20 ?_ ?_) <;> intro _ <;> try (exfalso; omega)) | (apply zg23; (refine zs52 ?_; intro _)) | apply (zs65 ?_) | apply (zs68 ?_) | apply (zs69 ?_) | apply (zs70 ?_) | apply (zs74 ?_) | fail)
    all_goals (apply Ym; apply Yd; exact rfl; exact rfl; exact ⟨rfl, rfl⟩)
set_option maxHeartbeats 1000000 in
theorem Yab (n : NetM) (s t : Int) {B : Nat} {w0 : World} {H : List HP} {w : World} (hin : n.In B w0 H) (hw : St B w0 H w) :
    Calls Tryz.prog 184 [n.val, .int .i64 s, .int .i64 t].toArray w (Post B w0 fun v K => v = .int .i64 (JU n.net s t) ∧ K = H) := by
  refine Yc Tryz.func184 Tryz.ntmps184 rfl rfl hw ?_
  unfold JU
  by_cases h0 : YA n.net = 0
  rotate_left
  · rw [if_pos h0]
    repeat' (first | ((first | apply Ya Y8 | apply Yb Y8); exact za; exact rfl; exact fun _ hw => (ZY n hin.cons hw)) | apply (zs2 ?_) | (apply zg3; refine zs8 ?_) | (apply zg8; (refine zs16 ?_ ?_ <;> intro _ <;> try (exfalso; omega))) | (apply zg23; (refine zs52 ?_; intro _)) | apply (zs65 ?_) | apply (zs68 ?_) | apply (zs69 ?_) | apply (zs70 ?_) | (apply zg27; refine zs71 ?_) | apply (zs74 ?_) | apply (zs77 ?_) | fail)
    all_goals ((repeat apply Ym); apply Yd; exact rfl; exact rfl; exact ⟨rfl, rfl⟩)
  rw [if_neg (fun h => h h0)]
  have hck := fun {H : List HP} {w : World} (hin : n.In B w0 H) (hw : St B w0 H w) => ZY n hin hw
  rw [h0] at hck
  have hns := fun {H : List HP} {w : World} (hw : St B w0 H w) => UU n s hw
  have hnt := fun {H : List HP} {w : World} (hw : St B w0 H w) => UU n t hw
  obtain ⟨x1, hx1⟩ : ∃ x, offE n.net s = x := ⟨_, rfl⟩
  obtain ⟨x2, hx2⟩ : ∃ x, offE n.net t = x := ⟨_, rfl⟩
  rw [hx1] at hns ⊢
  rw [hx2] at hnt ⊢
  cases x1 with
  | true =>
    rw [if_pos (.inl rfl)]
    repeat' (first | ((first | apply Ya Y8 | apply Yb Y8); exact za; exact rfl; exact fun _ hw => (hck hin.cons hw)) | apply (zs1 ?_) | apply (zs2 ?_) | (apply zg3; refine zs8 ?_) | (apply zg8; (refine zs16 ?_ ?_ <;> intro _ <;> try (exfalso; omega))) | (apply zg23; (refine zs52 ?_; intro _)) | apply (zs65 ?_) | apply (zs68 ?_) | apply (zs69 ?_) | apply (zs70 ?_) | (apply zg27; refine zs72 ?_) | apply (zs76 ?_) | fail)
    first | apply Ya Zw | apply Yb Zw
    exact za
    exact rfl
    exact fun _ hw => (hns hw)
    repeat' (first | apply (zs1 ?_) | apply (zs2 ?_) | (apply zg1; refine zs3 ?_) | (apply zg6; refine zs11 ?_) | (apply zg20; refine zs48 ?_) | apply (zs65 ?_) | apply (zs68 ?_) | apply (zs69 ?_) | apply (zs70 ?_) | (apply zg27; refine zs71 ?_) | apply (zs74 ?_) | apply (zs77 ?_) | fail)
    all_goals ((repeat apply Ym); apply Yd; exact rfl; exact rfl; exact ⟨rfl, rfl⟩)
  | false =>
    cases x2 with
    | true =>
      rw [if_pos (.inr (.inl rfl))]
      repeat' (first | ((first | apply Ya Y8 | apply Yb Y8); exact za; exact rfl; exact fun _ hw => (hck hin.cons hw)) | apply (zs1 ?_) | apply (zs2 ?_) | (apply zg3; refine zs8 ?_) | (apply zg8; (refine zs16 ?_ ?_ <;> intro _ <;> try (exfalso; omega))) | (apply zg23; (refine zs52 ?_; intro _)) | apply (zs65 ?_) | apply (zs68 ?_) | apply (zs69 ?_) | apply (zs70 ?_) | (apply zg27; refine zs72 ?_) | apply (zs76 ?_) | fail)
      first | apply Ya Zw | apply Yb Zw
      exact za
      exact rfl
      exact fun _ hw => (hns hw)
      repeat' (first | apply (zs1 ?_) | (apply zg1; refine zs4 ?_) | (apply zg3; refine zs8 ?_) | (apply zg20; refine zs47 ?_) | fail)
      first | apply Ya Zw | apply Yb Zw
      exact za
      exact rfl
      exact fun _ hw => (hnt hw)
      repeat' (first | apply (zs1 ?_) | apply (zs2 ?_) | (apply zg1; first | refine zs3 ?_ | refine zs4 ?_) | (apply zg6; first | refine zs11 ?_ | refine zs12 ?_) | (apply zg20; refine zs48 ?_) | apply (zs65 ?_) | apply (zs68 ?_) | apply (zs69 ?_) | apply (zs70 ?_) | (apply zg27; refine zs71 ?_) | apply (zs74 ?_) | apply (zs77 ?_) | fail)
      all_goals ((repeat apply Ym); apply Yd; exact rfl; exact rfl; exact ⟨rfl, rfl⟩)
    | false =>
      by_cases hst : s = t
      · rw [if_pos (.inr (.inr hst))]
        repeat' (first | ((first | apply Ya Y8 | apply Yb Y8); exact za; exact rfl; exact fun _ hw => (hck hin.cons hw)) | apply (zs1 ?_) | apply (zs2 ?_) | (apply zg3; refine zs8 ?_) | (apply zg8; (refine zs16 ?_ ?_ <;> intro _ <;> try (exfalso; omega))) | (apply zg23; (refine zs52 ?_; intro _)) | apply (zs65 ?_) | apply (zs68 ?_) | apply (zs69 ?_) | apply (zs70 ?_) | (apply zg27; refine zs72 ?_) | apply (zs76 ?_) | fail)
        first | apply Ya Zw | apply Yb Zw
        exact za
        exact rfl
        exact fun _ hw => (hns hw)
        repeat' (first | apply (zs1 ?_) | (apply zg1; refine zs4 ?_) | (apply zg3; refine zs8 ?_) | (apply zg20; refine zs47 ?_) | fail)
        first | apply Ya Zw | apply Yb Zw
        exact za
        exact rfl
        exact fun _ hw => (hnt hw)
        repeat' (first | apply (zs1 ?_) | apply (zs2 ?_) | (apply zg1; refine zs4 ?_) | (apply zg6; refine zs12 ?_) | (apply zg7; (refine zs15 ?_ ?_ <;> intro _ <;> try (exfalso; omega))) | (apply zg20; refine zs47 ?_) | apply (zs65 ?_) | apply (zs68 ?_) | apply (zs69 ?_) | apply (zs70 ?_) | (apply zg27; refine zs71 ?_) | apply (zs74 ?_) | apply (zs77 ?_) | fail)
        all_goals ((repeat apply Ym); apply Yd; exact rfl; exact rfl; exact ⟨rfl, rfl⟩)
      · rw [if_neg (by rintro (h | h | h); exact Bool.false_ne_true h; exact Bool.false_ne_true h; exact hst h)]
        repeat' (first | ((first | apply Ya Y8 | apply Yb Y8); exact za; exact rfl; exact fun _ hw => (hck hin.cons hw)) | apply (zs1 ?_) | apply (zs2 ?_) | (apply zg3; refine zs8 ?_) | (apply zg8; (refine zs16 ?_ ?_ <;> intro _ <;> try (exfalso; omega))) | (apply zg23; (refine zs52 ?_; intro _)) | apply (zs65 ?_) | apply (zs68 ?_) | apply (zs69 ?_) | apply (zs70 ?_) | (apply zg27; refine zs72 ?_) | apply (zs76 ?_) | fail)
        first | apply Ya Zw | apply Yb Zw
        exact za
        exact rfl
        exact fun _ hw => (hns hw)
        repeat' (first | apply (zs1 ?_) | (apply zg1; refine zs4 ?_) | (apply zg3; refine zs8 ?_) | (apply zg20; refine zs47 ?_) | fail)
        first | apply Ya Zw | apply Yb Zw
        exact za
        exact rfl
        exact fun _ hw => (hnt hw)
        repeat' (first | apply (zs1 ?_) | apply (zs2 ?_) | (apply zg1; refine zs4 ?_) | (apply zg6; refine zs12 ?_) | (apply zg7; (refine zs15 ?_ ?_ <;> intro _ <;> try (exfalso; omega))) | (apply zg20; refine zs47 ?_) | apply (zs65 ?_) | apply (zs68 ?_) | apply (zs69 ?_) | apply (zs70 ?_) | (apply zg27; refine zs72 ?_) | apply (zs74 ?_) | apply (zs76 ?_) | fail)
        all_goals ((repeat apply Ym); apply Yd; exact rfl; exact rfl; exact ⟨rfl, rfl⟩)
theorem YaI {r : List Int} {k : Nat} {x y : Int} (h : r[k]? = some x) : (r.take (k + 1)).contains y = ((r.take k).contains y || decide (y = x)) := by
  rw [List.take_add_one, h, Bool.eq_iff_iff]
  simp
set_option maxHeartbeats 2000000 in
theorem YaO (n : NetM) (s t : Int) (r : List Int) {A : Option Addr} {cap B : Nat} {w0 : World} {H : List HP} {w : World} (hin : n.In B w0 H) (hck : YA n.net = 0) (hr : Rd B w0 H A (r.flatMap numF)) (hlen : r.length ≤ 1000000000000) (hw : St B w0 H w) :
    Calls Tryz.prog 185 [n.val, .int .i64 s, .int .i64 t, .slice A r.length cap].toArray w (Post B w0 fun v K => v = .int .i64 (UO n.net s t r) ∧ K = H) := by
  refine Yc Tryz.func185 Tryz.ntmps185 rfl rfl hw ?_
  have hok := YZ hck
  (apply XH; apply Xg; apply Xa; exact rfl; exact rfl; intro g)
  unfold UO
  by_cases h1 : r.length < 2
  · rw [if_pos h1]
    repeat' (first | apply (zs1 ?_) | apply (zs2 ?_) | (apply zg4; refine zs9 ?_) | (apply (zs17 ?_ ?_) <;> intro _ <;> try (exfalso; omega)) | apply (zs65 ?_) | apply (zs68 ?_) | apply (zs69 ?_) | apply (zs70 ?_) | (apply zg27; refine zs71 ?_) | apply (zs74 ?_) | apply (zs77 ?_) | fail)
    (repeat apply Ym); apply Yd; exact rfl; exact rfl
    exact ⟨rfl, rfl⟩
  rw [if_neg h1]
  by_cases h2 : 9 < r.length
  · rw [if_pos h2]
    repeat' (first | apply (zs1 ?_) | apply (zs2 ?_) | (apply zg4; refine zs9 ?_) | (apply (zs17 ?_ ?_) <;> intro _ <;> try (exfalso; omega)) | (apply (zs19 ?_ ?_) <;> intro _ <;> try (exfalso; omega)) | (apply zg14; refine zs31 ?_) | apply (zs65 ?_) | apply (zs68 ?_) | apply (zs69 ?_) | apply (zs70 ?_) | (apply zg27; first | refine zs71 ?_ | refine zs72 ?_) | apply (zs74 ?_) | apply (zs76 ?_) | apply (zs77 ?_) | fail)
    (repeat apply Ym); apply Yd; exact rfl; exact rfl
    exact ⟨rfl, rfl⟩
  rw [if_neg h2]
  repeat' (first | apply (zs1 ?_) | apply (zs2 ?_) | (apply zg4; refine zs9 ?_) | (apply (zs17 ?_ ?_) <;> intro _ <;> try (exfalso; omega)) | (apply (zs19 ?_ ?_) <;> intro _ <;> try (exfalso; omega)) | (apply zg14; refine zs31 ?_) | apply (zs65 ?_) | apply (zs68 ?_) | apply (zs69 ?_) | apply (zs70 ?_) | (apply zg27; refine zs72 ?_) | apply (zs73 ?_) | apply (zs76 ?_) | fail)
  refine Yj (fun (k : Nat) => [(9, .int .i64 k), (1, .int .i64 s), (2, .int .i64 t), (3, .slice A r.length cap), (4, .pointer (some ⟨g, 0, none⟩))]) (fun _ => netB g n :: H) (fun k => k ≤ r.length ∧ (r.take k).any (offE n.net) = false) (fun k => r.length - k) 0 ⟨Nat.zero_le _, rfl⟩ ?_ (fun w hw => hw) ?_
  · exact zu
  rintro k ⟨hk, hi⟩ K hK
  have hr1 : Rd B w0 (netB g n :: H) A (r.flatMap numF) := hr.cons
  by_cases hlt : k < r.length
  · have hgk := Xj (l := r) (i := k) hlt
    obtain ⟨x, hx⟩ : ∃ x, r.getD k 0 = x := ⟨_, rfl⟩
    rw [hx] at hgk
    have hnd := fun {H : List HP} {w : World} (hw : St B w0 H w) => UU n x hw
    have hst := Wb (p := offE n.net) hgk
    cases ho : offE n.net x with
    | true =>
      rw [ho] at hnd
      rw [if_pos (O7 hgk ho)]
      clear hK
      repeat' (first | ((first | apply Ya Zw | apply Yb Zw); exact za; exact rfl; exact fun _ hw => (hnd hw)) | apply (zs1 ?_) | apply (zs2 ?_) | (apply zg3; first | refine zs8 ?_ | refine zs60 ?_) | (apply zg4; refine zs9 ?_) | (apply zg5; refine zs57 ?_) | (apply (zs17 ?_ ?_) <;> intro _ <;> try (exfalso; omega)) | (apply zg20; refine zs48 ?_) | apply (zs65 ?_) | apply (zs66 ?_) | apply (zs68 ?_) | apply (zs69 ?_) | apply (zs70 ?_) | (apply zg27; refine zs71 ?_) | apply (zs73 ?_) | apply (zs74 ?_) | apply (zs76 ?_) | apply (zs77 ?_) | apply (zs78 ?_) | (apply zg28; refine zs84 ?_) | fail)
      (repeat apply Ym); apply Yd; exact rfl; exact rfl
      exact ⟨rfl, rfl⟩
    | false =>
      rw [ho] at hnd hst
      repeat' (first | ((first | apply Ya Zw | apply Yb Zw); exact za; exact rfl; exact fun _ hw => (hnd hw)) | apply (zs1 ?_) | apply (zs2 ?_) | (apply zg3; first | refine zs8 ?_ | refine zs60 ?_) | (apply zg4; refine zs9 ?_) | (apply zg5; refine zs57 ?_) | (apply (zs17 ?_ ?_) <;> intro _ <;> try (exfalso; omega)) | (apply zg13; refine zs30 ?_) | (apply zg20; refine zs47 ?_) | apply (zs65 ?_) | apply (zs66 ?_) | apply (zs68 ?_) | apply (zs69 ?_) | apply (zs70 ?_) | (apply zg27; first | refine zs71 ?_ | refine zs72 ?_) | apply (zs73 ?_) | apply (zs76 ?_) | apply (zs79 ?_) | (apply zg28; refine zs84 ?_) | fail)
      apply hK (k + 1)
      · exact ⟨by omega, by rw [hst, hi]; rfl⟩
      · omega
      · exact zu
      · exact fun w hw => hw
  obtain rfl : k = r.length := by omega
  clear hK
  rw [List.take_length] at hi
  rw [if_neg (by rw [hi]; decide)]
  have hg0 := Xj (l := r) (i := 0) (by omega)
  have hg1 := Xj (l := r) (i := r.length - 1) (by omega)
  have hgi : ((r.length : Int) - 1).toNat = r.length - 1 := by omega
  rw [← hgi] at hg1
  by_cases h4 : r.getD 0 0 ≠ s ∨ r.getD (r.length - 1) 0 ≠ t
  · rw [if_pos h4]
    rw [← hgi] at h4
    by_cases h5 : r.getD 0 0 = s
    · have h6 : r.getD ((r.length : Int) - 1).toNat 0 ≠ t := by
        rcases h4 with h | h
        · exact absurd h5 h
        · exact h
      repeat' (first | apply (zs1 ?_) | apply (zs2 ?_) | (apply zg1; refine zs4 ?_) | (apply zg3; refine zs60 ?_) | (apply zg4; refine zs9 ?_) | (apply zg5; refine zs57 ?_) | (apply zg6; refine zs12 ?_) | (apply zg8; (refine zs16 ?_ ?_ <;> intro _ <;> try (exfalso; omega))) | (apply (zs17 ?_ ?_) <;> intro _ <;> try (exfalso; omega)) | (apply zg14; refine zs31 ?_) | apply (zs65 ?_) | apply (zs68 ?_) | apply (zs69 ?_) | apply (zs70 ?_) | (apply zg27; first | refine zs71 ?_ | refine zs72 ?_) | apply (zs74 ?_) | apply (zs75 ?_) | apply (zs77 ?_) | apply (zs80 ?_) | apply (zs81 ?_) | fail)
      (repeat apply Ym); apply Yd; exact rfl; exact rfl
      exact ⟨rfl, rfl⟩
    · repeat' (first | apply (zs1 ?_) | apply (zs2 ?_) | (apply zg1; refine zs3 ?_) | (apply zg3; refine zs60 ?_) | (apply zg4; refine zs9 ?_) | (apply zg5; refine zs57 ?_) | (apply zg6; refine zs11 ?_) | (apply zg8; (refine zs16 ?_ ?_ <;> intro _ <;> try (exfalso; omega))) | (apply (zs17 ?_ ?_) <;> intro _ <;> try (exfalso; omega)) | apply (zs65 ?_) | apply (zs68 ?_) | apply (zs69 ?_) | apply (zs70 ?_) | (apply zg27; first | refine zs71 ?_ | refine zs72 ?_) | apply (zs74 ?_) | apply (zs75 ?_) | apply (zs77 ?_) | apply (zs80 ?_) | apply (zs81 ?_) | fail)
      (repeat apply Ym); apply Yd; exact rfl; exact rfl
      exact ⟨rfl, rfl⟩
  rw [if_neg h4]
  rw [← hgi] at h4
  have h5 : r.getD 0 0 = s := Decidable.byContradiction fun h => h4 (.inl h)
  have h6 : r.getD ((r.length : Int) - 1).toNat 0 = t := Decidable.byContradiction fun h => h4 (.inr h)
  clear h4
  repeat' (first | apply (zs1 ?_) | apply (zs2 ?_) | (apply zg1; refine zs4 ?_) | (apply zg3; refine zs60 ?_) | (apply zg4; refine zs9 ?_) | (apply zg5; refine zs57 ?_) | (apply zg6; refine zs12 ?_) | (apply zg8; (refine zs16 ?_ ?_ <;> intro _ <;> try (exfalso; omega))) | (apply (zs17 ?_ ?_) <;> intro _ <;> try (exfalso; omega)) | (apply zg14; refine zs31 ?_) | apply (zs65 ?_) | apply (zs68 ?_) | apply (zs69 ?_) | apply (zs70 ?_) | (apply zg27; refine zs72 ?_) | apply (zs73 ?_) | apply (zs75 ?_) | apply (zs76 ?_) | apply (zs80 ?_) | apply (zs81 ?_) | fail)
  clear hg0 hg1 h5 h6
  refine Yj (fun (k : Nat) => [(10, .int .i64 k), (3, .slice A r.length cap), (4, .pointer (some ⟨g, 0, none⟩))]) (fun _ => netB g n :: H) (fun k => k ≤ r.length ∧ ((List.range k).any fun i => (r.take i).contains (r.getD i 0)) = false) (fun k => r.length - k) 0 ⟨Nat.zero_le _, rfl⟩ ?_ (fun w hw => hw) ?_
  · exact zu
  rintro k ⟨hk, hi2⟩ K hK
  by_cases hlt : k < r.length
  · have hgk := Xj (l := r) (i := k) hlt
    obtain ⟨x, hx⟩ : ∃ x, r.getD k 0 = x := ⟨_, rfl⟩
    rw [hx] at hgk
    repeat' (first | apply (zs1 ?_) | apply (zs2 ?_) | (apply zg4; refine zs9 ?_) | (apply (zs17 ?_ ?_) <;> intro _ <;> try (exfalso; omega)) | apply (zs65 ?_) | apply (zs68 ?_) | apply (zs69 ?_) | apply (zs70 ?_) | (apply zg27; refine zs71 ?_) | apply (zs73 ?_) | apply (zs76 ?_) | fail)
    refine Yj (fun (j : Nat) => [(11, .int .i64 j), (10, .int .i64 k), (3, .slice A r.length cap), (4, .pointer (some ⟨g, 0, none⟩))]) (fun _ => netB g n :: H) (fun j => j ≤ k ∧ (r.take j).contains x = false) (fun j => k - j) 0 ⟨Nat.zero_le _, rfl⟩ ?_ (fun w hw => hw) ?_
    · exact zu
    rintro j ⟨hj, hi3⟩ K2 hK2
    by_cases hlt2 : j < k
    · have hgj := Xj (l := r) (i := j) (by omega)
      obtain ⟨y, hy⟩ : ∃ y, r.getD j 0 = y := ⟨_, rfl⟩
      rw [hy] at hgj
      have hst := YaI (y := x) hgj
      by_cases hxy : x = y
      · have hin2 : (r.take k).contains x = true := by
          rw [List.contains_iff_mem]
          have : (r.take k)[j]? = some y := by rw [List.getElem?_take, if_pos hlt2]; exact hgj
          rw [hxy]; exact List.mem_of_getElem? this
        have htw : UW r = true := Wc (p := fun i => (r.take i).contains (r.getD i 0)) hlt (by rw [hx]; exact hin2)
        rw [if_pos htw]
        clear hK hK2
        repeat' (first | apply (zs1 ?_) | apply (zs2 ?_) | (apply zg3; refine zs60 ?_) | (apply zg5; refine zs57 ?_) | (apply zg7; (refine zs15 ?_ ?_ <;> intro _ <;> try (exfalso; omega))) | (apply (zs17 ?_ ?_) <;> intro _ <;> try (exfalso; omega)) | apply (zs65 ?_) | apply (zs66 ?_) | apply (zs68 ?_) | apply (zs69 ?_) | apply (zs70 ?_) | (apply zg27; refine zs71 ?_) | apply (zs73 ?_) | apply (zs74 ?_) | apply (zs76 ?_) | apply (zs77 ?_) | apply (zs78 ?_) | (apply zg28; refine zs83 ?_) | fail)
        (repeat apply Ym); apply Yd; exact rfl; exact rfl
        exact ⟨rfl, rfl⟩
      · repeat' (first | apply (zs1 ?_) | apply (zs2 ?_) | (apply zg3; refine zs60 ?_) | (apply zg5; refine zs57 ?_) | (apply zg7; (refine zs15 ?_ ?_ <;> intro _ <;> try (exfalso; omega))) | (apply (zs17 ?_ ?_) <;> intro _ <;> try (exfalso; omega)) | (apply zg13; refine zs30 ?_) | apply (zs65 ?_) | apply (zs66 ?_) | apply (zs68 ?_) | apply (zs69 ?_) | apply (zs70 ?_) | (apply zg27; first | refine zs71 ?_ | refine zs72 ?_) | apply (zs73 ?_) | apply (zs76 ?_) | apply (zs79 ?_) | (apply zg28; refine zs83 ?_) | fail)
        apply hK2 (j + 1)
        · exact ⟨by omega, by rw [hst, hi3, decide_eq_false hxy]; rfl⟩
        · omega
        · exact zu
        · exact fun w hw => hw
    · obtain rfl : j = k := by omega
      clear hK2
      repeat' (first | apply (zs1 ?_) | apply (zs2 ?_) | (apply (zs17 ?_ ?_) <;> intro _ <;> try (exfalso; omega)) | (apply zg13; refine zs30 ?_) | apply (zs65 ?_) | apply (zs68 ?_) | apply (zs69 ?_) | apply (zs70 ?_) | (apply zg27; refine zs72 ?_) | apply (zs75 ?_) | apply (zs79 ?_) | apply (zs80 ?_) | apply (zs81 ?_) | fail)
      apply hK (j + 1)
      · exact ⟨by omega, Un hi2 (by rw [hx]; exact hi3)⟩
      · omega
      · exact zu
      · exact fun w hw => hw
  obtain rfl : k = r.length := by omega
  clear hK
  have htw : UW r = false := hi2
  rw [if_neg (by rw [htw]; decide)]
  repeat' (first | apply (zs1 ?_) | apply (zs2 ?_) | (apply zg4; refine zs9 ?_) | (apply (zs17 ?_ ?_) <;> intro _ <;> try (exfalso; omega)) | apply (zs65 ?_) | apply (zs68 ?_) | apply (zs69 ?_) | apply (zs70 ?_) | (apply zg27; refine zs72 ?_) | apply (zs73 ?_) | apply (zs75 ?_) | apply (zs80 ?_) | apply (zs81 ?_) | fail)
  refine Yj (fun (k : Nat) => [(12, .int .i64 ((k : Int) + 1)), (3, .slice A r.length cap), (4, .pointer (some ⟨g, 0, none⟩))]) (fun _ => netB g n :: H) (fun k => k ≤ r.length - 1 ∧ ((List.range k).any fun i => !YR n.net (r.getD i 0) (r.getD (i + 1) 0)) = false) (fun k => r.length - 1 - k) 0 ⟨Nat.zero_le _, rfl⟩ ?_ (fun w hw => hw) ?_
  · exact zu
  rintro k ⟨hk, hi3⟩ K hK
  by_cases hlt : k + 1 < r.length
  · have hgk := Xj (l := r) (i := k) (by omega)
    have hgk1 := Xj (l := r) (i := k + 1) (by omega)
    have ei : ((k : Int) + 1 - 1).toNat = k := by omega
    have ei1 : ((k : Int) + 1).toNat = k + 1 := by omega
    obtain ⟨x, hx⟩ : ∃ x, r.getD k 0 = x := ⟨_, rfl⟩
    obtain ⟨y, hy⟩ : ∃ y, r.getD (k + 1) 0 = y := ⟨_, rfl⟩
    rw [hx, ← ei] at hgk
    rw [hy, ← ei1] at hgk1
    have hgd := fun {H : List HP} {w : World} (hin : n.In B w0 H) (hw : St B w0 H w) => WS n x y hin hok hw
    obtain ⟨b, hb⟩ : ∃ b, YR n.net x y = b := ⟨_, rfl⟩
    rw [hb] at hgd
    cases b with
    | true =>
      repeat' (first | ((first | apply Ya Z8 | apply Yb Z8); exact za; exact rfl; exact fun _ hw => (hgd hin.cons hw)) | apply (zs1 ?_) | apply (zs2 ?_) | (apply zg3; first | refine zs8 ?_ | refine zs60 ?_) | (apply zg4; refine zs9 ?_) | (apply zg5; refine zs57 ?_) | (apply (zs17 ?_ ?_) <;> intro _ <;> try (exfalso; omega)) | (apply zg13; refine zs30 ?_) | (apply zg14; refine zs31 ?_) | (apply zg20; refine zs47 ?_) | apply (zs65 ?_) | apply (zs66 ?_) | apply (zs68 ?_) | apply (zs69 ?_) | apply (zs70 ?_) | (apply zg27; first | refine zs71 ?_ | refine zs72 ?_) | apply (zs73 ?_) | apply (zs76 ?_) | apply (zs79 ?_) | (apply zg28; refine zs84 ?_) | fail)
      apply hK (k + 1)
      · exact ⟨by omega, Un hi3 (by rw [hx, hy, hb]; rfl)⟩
      · omega
      · exact zu
      · exact fun w hw => hw
    | false =>
      have hbr : Jw n.net r = true := Wc (k := k) (by omega) (by rw [hx, hy, hb]; rfl)
      rw [if_pos hbr]
      clear hK
      repeat' (first | ((first | apply Ya Z8 | apply Yb Z8); exact za; exact rfl; exact fun _ hw => (hgd hin.cons hw)) | apply (zs1 ?_) | apply (zs2 ?_) | (apply zg3; first | refine zs8 ?_ | refine zs60 ?_) | (apply zg4; refine zs9 ?_) | (apply zg5; refine zs57 ?_) | (apply (zs17 ?_ ?_) <;> intro _ <;> try (exfalso; omega)) | (apply zg14; refine zs31 ?_) | (apply zg20; refine zs48 ?_) | apply (zs65 ?_) | apply (zs66 ?_) | apply (zs68 ?_) | apply (zs69 ?_) | apply (zs70 ?_) | (apply zg27; refine zs71 ?_) | apply (zs73 ?_) | apply (zs74 ?_) | apply (zs76 ?_) | apply (zs77 ?_) | apply (zs78 ?_) | (apply zg28; refine zs84 ?_) | fail)
      (repeat apply Ym); apply Yd; exact rfl; exact rfl
      exact ⟨rfl, rfl⟩
  · have ek : k = r.length - 1 := by omega
    have hbr : Jw n.net r = false := by rw [ek] at hi3; exact hi3
    rw [if_neg (by rw [hbr]; decide)]
    clear hK
    repeat' (first | apply (zs1 ?_) | apply (zs2 ?_) | (apply zg4; refine zs9 ?_) | (apply (zs17 ?_ ?_) <;> intro _ <;> try (exfalso; omega)) | apply (zs65 ?_) | apply (zs68 ?_) | apply (zs69 ?_) | apply (zs70 ?_) | (apply zg27; refine zs72 ?_) | apply (zs74 ?_) | apply (zs75 ?_) | apply (zs80 ?_) | apply (zs81 ?_) | fail)
    (repeat apply Ym); apply Yd; exact rfl; exact rfl
    exact ⟨rfl, rfl⟩
open Go.RowKit Go.Eng Go.Nw Go.Rt
theorem YfI (n : NetM) (a b : Int) (hg : YR n.net a b = true) {B : Nat} {w0 : World} {H : List HP} {w : World} (hin : n.In B w0 H) (hw : St B w0 H w) :
    Calls Tryz.prog 274 [n.val, .int .i64 a, .int .i64 b].toArray w (Post B w0 fun v K => v = .int .i64 (Yhb n.net a b) ∧ K = H) := by
  refine Yc Tryz.func274 Tryz.ntmps274 rfl rfl hw ?_
  obtain ⟨hpw, hrw, hlk, hmg, hs1, hs2, hs3, hs4⟩ := id hin
  (apply XH; apply Xg; apply Xa; exact rfl; exact rfl; intro g)
  have hf := Us hg
  have hfl := XE hf
  have e7 : n.net.links = n.links := rfl
  rw [e7] at hfl
  have hlx : n.links[(Yw n.net a b).toNat]? = some (lnk n.net (Yw n.net a b).toNat) := Q5 n.net hfl
  have hfi := fun {H : List HP} {w : World} (hin : n.In B w0 H) (hw : St B w0 H w) => ZK n a b hin hw
  have hlo : Yhb n.net a b = (lnk n.net (Yw n.net a b).toNat).2.2 := rfl
  obtain ⟨fi, hfi2⟩ : ∃ x, Yw n.net a b = x := ⟨_, rfl⟩
  rw [hfi2] at hfi hlx hf hfl hlo
  obtain ⟨lk, hlk2⟩ : ∃ x, lnk n.net fi.toNat = x := ⟨_, rfl⟩
  rw [hlk2] at hlx hlo
  have hlk3 : Rd B w0 (netB g n :: H) n.lA (n.links.flatMap lkF) := hlk.cons
  rw [hlo]
  repeat' (first | ((first | apply Ya JA | apply Yb JA); exact za; exact rfl; exact fun _ hw => (hfi hin.cons hw)) | apply (zs1 ?_) | apply (zs2 ?_) | (apply zg2; first | refine zs6 ?_ | refine zs58 ?_) | (apply zg3; first | refine zs7 ?_ | refine zs8 ?_ | refine zs59 ?_) | (apply zg5; refine zs57 ?_) | apply (zs65 ?_) | apply (zs66 ?_) | apply (zs68 ?_) | apply (zs69 ?_) | apply (zs74 ?_) | (apply zg28; refine zs84 ?_) | fail)
  (repeat apply Ym); apply Yd; exact rfl; exact rfl
  exact ⟨rfl, rfl⟩
theorem Yg0 {n : Net} {s t : Int} (h : JU n s t = 0) : YA n = 0 ∧ (0 ≤ s ∧ s < n.nodes) ∧ (0 ≤ t ∧ t < n.nodes) ∧ s ≠ t := by
  unfold JU offE at h
  by_cases h0 : YA n = 0
  · rw [if_neg (fun h => h h0)] at h
    simp only [decide_eq_true_eq] at h
    by_cases h1 : (s < 0 ∨ n.nodes ≤ s) ∨ (t < 0 ∨ n.nodes ≤ t) ∨ s = t
    · rw [if_pos h1] at h; cases h
    · exact ⟨h0, by omega, by omega, by omega⟩
  · rw [if_pos h0] at h; cases h
theorem OF (n : NetM) (s t : Int) (r : List Int) {A : Option Addr} {cap B : Nat} {w0 : World} {H : List HP} {w : World} (hin : n.In B w0 H) (hr : Rd B w0 H A (r.flatMap numF)) (hlen : r.length ≤ 1000000000000) (hw : St B w0 H w) :
    Calls Tryz.prog 125 [n.val, .int .i64 s, .int .i64 t, .slice A r.length cap].toArray w (Post B w0 fun v K => v = .int .i64 (XC n.net s t r) ∧ K = H) := by
  refine Yc Tryz.func125 Tryz.ntmps125 rfl rfl hw ?_
  unfold XC
  by_cases h0 : JU n.net s t = 0
  · have hck := (Yg0 h0).1
    have hen := fun {H : List HP} {w : World} (hin : n.In B w0 H) (hw : St B w0 H w) => Yab n s t hin hw
    rw [h0] at hen
    rw [if_neg (fun h => h h0)]
    repeat' (first | ((first | apply Ya YeZ | apply Yb YeZ); exact za; exact rfl; exact fun _ hw => (hen hin.cons hw)) | ((first | apply Ya YiP | apply Yb YiP); exact za; exact rfl; exact fun _ hw => (YaO n s t r hin.cons hck hr.cons hlen hw)) | apply (zs1 ?_) | apply (zs2 ?_) | (apply zg3; refine zs8 ?_) | (apply zg8; (refine zs16 ?_ ?_ <;> intro _ <;> try (exfalso; omega))) | (apply zg23; (refine zs52 ?_; intro _)) | apply (zs65 ?_) | apply (zs68 ?_) | apply (zs69 ?_) | apply (zs70 ?_) | (apply zg27; refine zs72 ?_) | apply (zs74 ?_) | apply (zs76 ?_) | fail)
    (repeat apply Ym); apply Yd; exact rfl; exact rfl; exact ⟨rfl, rfl⟩
  · rw [if_pos h0]
    repeat' (first | ((first | apply Ya YeZ | apply Yb YeZ); exact za; exact rfl; exact fun _ hw => (Yab n s t hin.cons hw)) | apply (zs1 ?_) | apply (zs2 ?_) | (apply zg3; refine zs8 ?_) | (apply zg8; (refine zs16 ?_ ?_ <;> intro _ <;> try (exfalso; omega))) | (apply zg23; (refine zs52 ?_; intro _)) | apply (zs65 ?_) | apply (zs68 ?_) | apply (zs69 ?_) | apply (zs70 ?_) | (apply zg27; refine zs71 ?_) | apply (zs74 ?_) | apply (zs77 ?_) | fail)
    (repeat apply Ym); apply Yd; exact rfl; exact rfl; exact ⟨rfl, rfl⟩
open Go.RowKit Go.Eng Go.Nw Go.Rt
def hopC (len a : Int) (cs' cs : List Cel) (f k : Nat) : List Int := (Y7 len a cs' k ++ hopP len cs f (k - (Y7 len a cs' k).length) (a + 1)).map Prod.snd
theorem Yg4 (len a : Int) (cs : List Cel) (f k : Nat) : hopC len a cs cs f k = (hopP len cs (f + 1) k a).map Prod.snd := rfl
theorem Yg5 (len a : Int) (cs : List Cel) (f k : Nat) : hopC len a [] cs f k = (hopP len cs f k (a + 1)).map Prod.snd := by simp [hopC, Y7]
theorem Yg6 {len a : Int} {c : Cel} {cs' cs : List Cel} {f k : Nat} (h : c.1 = a.tmod len) (hk : k ≠ 0) : hopC len a (c :: cs') cs f k = a :: hopC len a cs' cs f (k - 1) := by
  have h1 : Y7 len a (c :: cs') k = (c, a) :: Y7 len a cs' (k - 1) := by rw [Y7, if_pos ⟨h, hk⟩]
  unfold hopC
  rw [h1, List.length_cons, show k - ((Y7 len a cs' (k - 1)).length + 1) = k - 1 - (Y7 len a cs' (k - 1)).length by omega]
  simp
theorem Yh9 {len a : Int} {c : Cel} {cs' cs : List Cel} {f k : Nat} (h : ¬ (c.1 = a.tmod len ∧ k ≠ 0)) : hopC len a (c :: cs') cs f k = hopC len a cs' cs f k := by
  unfold hopC
  rw [Y7, if_neg h]
structure HpM where
  i : Nat
  A : Option Addr
  cap : Nat
  out : List Int
set_option maxRecDepth 10000 in
set_option maxHeartbeats 8000000 in
theorem Yg7 (s : SchM) (f : Flw) (fr dn nd : Int) (need : Nat) (a last : Int) (hnd : nd = (need : Nat)) (hn : need ≤ 1000) (hlen : 1 ≤ s.len ∧ s.len ≤ 1000000) (ha : 0 ≤ a ∧ a ≤ 1000000) (hla : a ≤ last + 1 ∧ last ≤ 1000000) (hsl : s.cells.length ≤ 1000000000000) {B : Nat} {w0 : World} {H : List HP} {w : World} (hrs : Rd B w0 H s.A (s.cells.flatMap celF)) (hw : St B w0 H w) :
    Calls Tryz.prog 273 [s.val, flwV f, .int .i64 fr, .int .i64 dn, .int .i64 nd, .int .i64 a, .int .i64 last].toArray w (Post B w0 fun v K => ∃ A cap, v = .tuple #[.slice A ((hopP s.len (s.cells.filter (onP f.1 fr dn)) (last + 1 - a).toNat need a).map Prod.snd).length cap, .bool (decide (((hopP s.len (s.cells.filter (onP f.1 fr dn)) (last + 1 - a).toNat need a).map Prod.snd).length = need))] ∧ K = nrs A cap ((hopP s.len (s.cells.filter (onP f.1 fr dn)) (last + 1 - a).toNat need a).map Prod.snd) :: H) := by
  refine Yc Tryz.func273 Tryz.ntmps273 rfl rfl hw ?_
  subst hnd
  obtain ⟨cs, hcs⟩ : ∃ cs, s.cells.filter (onP f.1 fr dn) = cs := ⟨_, rfl⟩
  obtain ⟨F, hF⟩ : ∃ F, (last + 1 - a).toNat = F := ⟨_, rfl⟩
  rw [hcs, hF]
  obtain ⟨L, hL⟩ : ∃ L, (hopP s.len cs F need a).map Prod.snd = L := ⟨_, rfl⟩
  rw [hL]
  have hLn : L.length ≤ need := by rw [← hL, List.length_map]; exact Ut _ _ _ _ _
  unfold SchM.val flwV
  repeat' (first | (apply YW T; exact rfl; exact rfl; intro g2) | apply (zs1 ?_) | apply (zs2 ?_) | (apply zg23; (refine zs52 ?_; intro _)) | apply (zs65 ?_) | apply (zs68 ?_) | apply (zs69 ?_) | apply (zs70 ?_) | apply (zs73 ?_) | fail)
  rename_i g7 g8
  refine Yj (fun z : HpM => [(17, .int .i64 (a + (z.i : Nat))), (16, .slice z.A z.out.length z.cap), (7, .pointer (some ⟨g7, 0, none⟩)), (8, .pointer (some ⟨g8, 0, none⟩)), (2, .int .i64 fr), (3, .int .i64 dn), (4, .int .i64 (need : Nat)), (6, .int .i64 last)]) (fun z => nrs z.A z.cap z.out :: flwB g8 f :: schA g7 s :: H)
    (fun z => z.i ≤ F ∧ z.out.length ≤ need ∧ z.out ++ (hopP s.len cs (F - z.i) (need - z.out.length) (a + (z.i : Nat))).map Prod.snd = L) (fun z => F - z.i) ⟨0, some ⟨g2, 0, none⟩, 0, []⟩ ⟨Nat.zero_le _, Nat.zero_le _, by simpa using hL⟩ ?_ (fun w hw => hw) ?_
  · dsimp only
    exact zu
  rintro ⟨i, A, cap, out⟩ ⟨hi, hol, hout⟩ K hK
  dsimp only at hi hol hout ⊢
  by_cases hgo : i < F ∧ out.length < need
  rotate_left
  · have hoL : out = L := by
      rw [← hout]
      rcases Nat.lt_or_ge i F with h1 | h1
      · rw [show need - out.length = 0 by omega, Yda]; simp
      · rw [show F - i = 0 by omega]; simp [hopP]
    subst hoL
    clear hK
    by_cases hnd : out.length = need
    · rw [decide_eq_true hnd]
      by_cases hiF : i < F
      all_goals (
        repeat' (first | apply (zs1 ?_) | apply (zs2 ?_) | (apply zg1; first | refine zs3 ?_ | refine zs4 ?_) | (apply zg4; refine zs9 ?_) | (apply zg6; first | refine zs11 ?_ | refine zs12 ?_) | (apply zg7; (refine zs15 ?_ ?_ <;> intro _ <;> try (exfalso; omega))) | (apply (zs17 ?_ ?_) <;> intro _ <;> try (exfalso; omega)) | (apply (zs18 ?_ ?_) <;> intro _ <;> try (exfalso; omega)) | apply (zs65 ?_) | apply (zs68 ?_) | apply (zs69 ?_) | apply (zs70 ?_) | (apply zg27; refine zs72 ?_) | apply (zs74 ?_) | apply (zs75 ?_) | apply (zs80 ?_) | apply (zs81 ?_) | fail)
        apply Yi (nrs A cap out :: H)
        · exact zk
        apply Yp; exact rfl; exact rfl; exact rfl
        exact ⟨A, cap, rfl, rfl⟩)
    · rw [decide_eq_false hnd]
      have hiF : ¬ i < F := fun h => hgo ⟨h, by omega⟩
      repeat' (first | apply (zs1 ?_) | apply (zs2 ?_) | (apply zg1; refine zs3 ?_) | (apply zg4; refine zs9 ?_) | (apply zg6; refine zs12 ?_) | (apply zg7; (refine zs15 ?_ ?_ <;> intro _ <;> try (exfalso; omega))) | (apply (zs18 ?_ ?_) <;> intro _ <;> try (exfalso; omega)) | apply (zs65 ?_) | apply (zs68 ?_) | apply (zs69 ?_) | apply (zs70 ?_) | (apply zg27; refine zs72 ?_) | apply (zs74 ?_) | apply (zs75 ?_) | apply (zs80 ?_) | apply (zs81 ?_) | fail)
      apply Yi (nrs A cap out :: H)
      · exact zk
      apply Yp; exact rfl; exact rfl; exact rfl
      exact ⟨A, cap, rfl, rfl⟩
  obtain ⟨hiF, hon⟩ := hgo
  repeat' (first | apply (zs1 ?_) | apply (zs2 ?_) | (apply zg1; refine zs4 ?_) | (apply zg4; refine zs9 ?_) | (apply zg6; refine zs11 ?_) | (apply (zs17 ?_ ?_) <;> intro _ <;> try (exfalso; omega)) | (apply (zs18 ?_ ?_) <;> intro _ <;> try (exfalso; omega)) | apply (zs65 ?_) | apply (zs68 ?_) | apply (zs69 ?_) | apply (zs70 ?_) | (apply zg27; refine zs71 ?_) | apply (zs73 ?_) | apply (zs76 ?_) | fail)
  refine Yj (fun y : HpM => [(18, .int .i64 (y.i : Nat)), (17, .int .i64 (a + (i : Nat))), (16, .slice y.A y.out.length y.cap), (7, .pointer (some ⟨g7, 0, none⟩)), (8, .pointer (some ⟨g8, 0, none⟩)), (2, .int .i64 fr), (3, .int .i64 dn), (4, .int .i64 (need : Nat)), (6, .int .i64 last)]) (fun y => nrs y.A y.cap y.out :: flwB g8 f :: schA g7 s :: H)
    (fun y => y.i ≤ s.cells.length ∧ y.out.length ≤ need ∧ y.out ++ hopC s.len (a + (i : Nat)) ((s.cells.drop y.i).filter (onP f.1 fr dn)) cs (F - (i + 1)) (need - y.out.length) = L) (fun y => s.cells.length - y.i) ⟨0, A, cap, out⟩ ⟨Nat.zero_le _, hol, ?_⟩ ?_ (fun w hw => hw) ?_
  · show out ++ hopC s.len (a + (i : Nat)) ((s.cells.drop 0).filter (onP f.1 fr dn)) cs (F - (i + 1)) (need - out.length) = L
    rw [List.drop_zero, hcs, Yg4, show F - (i + 1) + 1 = F - i by omega]
    exact hout
  · exact zu
  clear hout hol hon
  rintro ⟨j, A, cap, out⟩ ⟨hj, hol, hout⟩ K2 hK2
  dsimp only at hj hol hout ⊢
  have hrs2 : Rd B w0 (nrs A cap out :: flwB g8 f :: schA g7 s :: H) s.A (s.cells.flatMap celF) := hrs.cons.cons.cons
  by_cases hlt : j < s.cells.length
  rotate_left
  · obtain rfl : j = s.cells.length := by omega
    rw [List.drop_length, List.filter_nil, Yg5] at hout
    clear hK2
    repeat' (first | apply (zs1 ?_) | apply (zs2 ?_) | (apply zg2; refine zs6 ?_) | (apply zg3; refine zs7 ?_) | (apply zg4; refine zs9 ?_) | (apply (zs17 ?_ ?_) <;> intro _ <;> try (exfalso; omega)) | (apply zg13; refine zs30 ?_) | apply (zs65 ?_) | apply (zs68 ?_) | apply (zs69 ?_) | apply (zs70 ?_) | (apply zg27; refine zs72 ?_) | apply (zs75 ?_) | apply (zs79 ?_) | apply (zs80 ?_) | apply (zs81 ?_) | fail)
    apply hK ⟨i + 1, A, cap, out⟩
    · refine ⟨by show i + 1 ≤ F; omega, hol, ?_⟩
      show out ++ (hopP s.len cs (F - (i + 1)) (need - out.length) (a + ((i + 1 : Nat) : Int))).map Prod.snd = L
      rw [show a + ((i + 1 : Nat) : Int) = a + (i : Nat) + 1 by omega]
      exact hout
    · dsimp only; omega
    · dsimp only
      exact zu
    · exact zk
  obtain ⟨c, hc⟩ : ∃ c, s.cells[j]? = some c := ⟨_, List.getElem?_eq_getElem hlt⟩
  have hdr : s.cells.drop j = c :: s.cells.drop (j + 1) := by
    obtain ⟨h1, h2⟩ := List.getElem?_eq_some_iff.1 hc
    rw [← h2, List.getElem_cons_drop]
  rw [hdr] at hout
  clear hK
  have htm : (a + (i : Nat)).tmod s.len = (a + (i : Nat)) % s.len := Int.tmod_eq_emod_of_nonneg (by omega)
  by_cases hm : c.1 = (a + (i : Nat)) % s.len ∧ c.2.2.2.2 = f.1 ∧ c.2.2.1 = fr ∧ c.2.2.2.1 = dn ∧ out.length < need
  · obtain ⟨m1, m2, m3, m4, m5⟩ := hm
    have hon : onP f.1 fr dn c = true := decide_eq_true ⟨m2, m3, m4⟩
    rw [List.filter_cons_of_pos hon, Yg6 (by rw [htm]; exact m1) (by omega)] at hout
    repeat' (first | apply (zs1 ?_) | apply (zs2 ?_) | (apply zg1; refine zs4 ?_) | (apply zg2; refine zs6 ?_) | (apply zg3; first | refine zs7 ?_ | refine zs61 ?_) | (apply zg4; refine zs9 ?_) | (apply zg5; refine zs57 ?_) | (apply zg6; refine zs11 ?_) | (apply zg7; (refine zs15 ?_ ?_ <;> intro _ <;> try (exfalso; omega))) | (apply (zs17 ?_ ?_) <;> intro _ <;> try (exfalso; omega)) | (apply zg13; refine zs30 ?_) | (apply zg17; refine zs37 ?_) | (apply zg21; (refine zs49 ?_; intro _ _)) | (apply zg22; refine zs51 ?_) | (apply zg24; (refine zs54 ?_; intro _)) | (apply zg26; (refine zs56 ?_; intro _)) | apply (zs65 ?_) | apply (zs66 ?_) | apply (zs68 ?_) | apply (zs69 ?_) | apply (zs70 ?_) | (apply zg27; refine zs71 ?_) | apply (zs73 ?_) | apply (zs76 ?_) | apply (zs79 ?_) | (apply zg28; refine zs83 ?_) | fail)
    rename_i A' cap'
    rw [X3, show out.length + 1 = (out ++ [a + (i : Nat)]).length by simp]
    apply hK2 ⟨j + 1, A', cap', out ++ [a + (i : Nat)]⟩
    · refine ⟨by show j + 1 ≤ _; omega, by show (out ++ [a + (i : Nat)]).length ≤ need; rw [List.length_append]; show out.length + 1 ≤ need; omega, ?_⟩
      show (out ++ [a + (i : Nat)]) ++ hopC _ _ _ _ _ (need - (out ++ [a + (i : Nat)]).length) = L
      rw [List.append_assoc, List.length_append, show need - (out.length + [a + (i : Nat)].length) = need - out.length - 1 by show need - (out.length + 1) = _; omega]
      exact hout
    · dsimp only; omega
    · exact zu
    · exact zk
  · have hout2 : out ++ hopC s.len (a + (i : Nat)) ((s.cells.drop (j + 1)).filter (onP f.1 fr dn)) cs (F - (i + 1)) (need - out.length) = L := by
      cases hb : onP f.1 fr dn c with
      | false => rw [List.filter_cons_of_neg (by rw [hb]; decide)] at hout; exact hout
      | true =>
        have h2 : UI c = f.1 ∧ YP c = fr ∧ toC c = dn := of_decide_eq_true hb
        rw [List.filter_cons_of_pos hb, Yh9 (fun h => hm ⟨by rw [← htm]; exact h.1, h2.1, h2.2.1, h2.2.2, by omega⟩)] at hout
        exact hout
    repeat' (first | apply (zs1 ?_) | apply (zs2 ?_) | (apply zg1; first | refine zs3 ?_ | refine zs4 ?_) | (apply zg2; refine zs6 ?_) | (apply zg3; first | refine zs7 ?_ | refine zs61 ?_) | (apply zg4; refine zs9 ?_) | (apply zg5; refine zs57 ?_) | (apply zg6; first | refine zs11 ?_ | refine zs12 ?_) | (apply zg7; (refine zs15 ?_ ?_ <;> intro _ <;> try (exfalso; omega))) | (apply (zs17 ?_ ?_) <;> intro _ <;> try (exfalso; omega)) | (apply zg13; refine zs30 ?_) | (apply zg17; refine zs37 ?_) | (apply zg22; refine zs51 ?_) | (apply zg24; (refine zs54 ?_; intro _)) | apply (zs65 ?_) | apply (zs66 ?_) | apply (zs68 ?_) | apply (zs69 ?_) | apply (zs70 ?_) | (apply zg27; first | refine zs71 ?_ | refine zs72 ?_) | apply (zs73 ?_) | apply (zs76 ?_) | apply (zs79 ?_) | (apply zg28; refine zs83 ?_) | fail)
    all_goals (
      apply hK2 ⟨j + 1, A, cap, out⟩
      · exact ⟨by show j + 1 ≤ _; omega, hol, hout2⟩
      · dsimp only; omega
      · exact zu
      · exact zk)
set_option maxRecDepth 10000 in
theorem YaM (l : List Int) (a : Int) (hl : l.length ≤ 1000000000000) (hb : ∀ z ∈ l, -1000000000 ≤ z ∧ z ≤ 1000000000) (ha : 0 ≤ a ∧ a ≤ 1000000000) {A : Option Addr} {cap B : Nat} {w0 : World} {H : List HP} {w : World} (hr : Rd B w0 H A (l.flatMap numF)) (hw : St B w0 H w) :
    Calls Tryz.prog 237 [.slice A l.length cap, .int .i64 a].toArray w (Post B w0 fun v K => ∃ A2 cap2, v = .slice A2 (l.map fun z => z - a).length cap2 ∧ K = nrs A2 cap2 (l.map fun z => z - a) :: H) := by
  refine Yc Tryz.func237 Tryz.ntmps237 rfl rfl hw ?_
  repeat' (first | (apply YW T; exact rfl; exact rfl; intro g2) | apply (zs2 ?_) | apply (zs65 ?_) | apply (zs68 ?_) | apply (zs69 ?_) | apply (zs70 ?_) | apply (zs73 ?_) | fail)
  refine Yj (fun z : FlM => [(6, .int .i64 (z.i : Nat)), (5, .slice z.A ((l.take z.i).map fun z => z - a).length z.cap), (0, .slice A l.length cap), (1, .int .i64 a)]) (fun z => nrs z.A z.cap ((l.take z.i).map fun z => z - a) :: H) (fun z => z.i ≤ l.length) (fun z => l.length - z.i) ⟨0, some ⟨g2, 0, none⟩, 0⟩ (Nat.zero_le _) ?_ (fun w hw => hw) ?_
  · exact zu
  rintro ⟨i, A2, cap2⟩ hi K hK
  dsimp only at hi ⊢
  have hlen : ((l.take i).map fun z => z - a).length = i := by rw [List.length_map, List.length_take]; omega
  by_cases hlt : i < l.length
  · obtain ⟨x, hx⟩ : ∃ x, l[i]? = some x := ⟨_, List.getElem?_eq_getElem hlt⟩
    have hxb := hb x (List.mem_of_getElem? hx)
    have hst : (l.take (i + 1)).map (fun z => z - a) = (l.take i).map (fun z => z - a) ++ [x - a] := by rw [List.take_add_one, hx, Option.toList_some, List.map_append]; rfl
    have hr' := hr.cons (X := nrs A2 cap2 ((l.take i).map fun z => z - a))
    obtain ⟨M, hM⟩ : ∃ M, (l.take i).map (fun z => z - a) = M := ⟨_, rfl⟩
    rw [hM] at hlen hst hr' ⊢
    repeat' (first | apply (zs1 ?_) | apply (zs2 ?_) | (apply zg3; refine zs60 ?_) | (apply zg4; refine zs9 ?_) | (apply zg5; refine zs57 ?_) | (apply (zs17 ?_ ?_) <;> intro _ <;> try (exfalso; omega)) | (apply zg13; refine zs30 ?_) | (apply zg14; refine zs31 ?_) | (apply zg21; (refine zs49 ?_; intro _ _)) | (apply zg26; (refine zs56 ?_; intro _)) | apply (zs65 ?_) | apply (zs68 ?_) | apply (zs69 ?_) | apply (zs70 ?_) | (apply zg27; refine zs71 ?_) | apply (zs73 ?_) | apply (zs76 ?_) | apply (zs79 ?_) | fail)
    rename_i A' cap'
    rw [X3, ← hst, show M.length + 1 = ((l.take (i + 1)).map fun z => z - a).length by rw [hst]; simp]
    apply hK ⟨i + 1, A', cap'⟩
    · show i + 1 ≤ _
      omega
    · dsimp only; omega
    · exact zu
    · exact zk
  · obtain rfl : i = l.length := by omega
    rw [List.take_length]
    repeat' (first | apply (zs1 ?_) | apply (zs2 ?_) | (apply zg4; refine zs9 ?_) | (apply (zs17 ?_ ?_) <;> intro _ <;> try (exfalso; omega)) | apply (zs65 ?_) | apply (zs68 ?_) | apply (zs69 ?_) | apply (zs70 ?_) | (apply zg27; refine zs72 ?_) | apply (zs74 ?_) | apply (zs75 ?_) | apply (zs80 ?_) | apply (zs81 ?_) | fail)
    apply Yd; exact rfl; exact rfl
    exact ⟨A2, cap2, rfl, rfl⟩
open Go.RowKit Go.Eng Go.Nw Go.Rt
theorem YfH {x : WayM} (hok : Z6 x) {i : Nat} (hi : i + 1 < x.r.length) : (Z5 x.n.net x.r i).1 = x.r.getD i 0 ∧ (Z5 x.n.net x.r i).2.1 = x.r.getD (i + 1) 0 :=
  V1 (Us (hok.good i hi))
def relO (R : Option (List Int)) : List Int := R.getD []
theorem Yd3 {h : List (Cel × Int)} {a : Int} (hne : h ≠ []) : Zi h a = XL (h.map Prod.snd) + 1 := by
  unfold Zi XL
  rw [List.getLast?_eq_getElem?, List.length_map, List.getD_eq_getElem?_getD, List.getElem?_map]
  have : h.length - 1 < h.length := by have := List.length_pos_iff.2 hne; omega
  rw [List.getElem?_eq_getElem this]; rfl
theorem Ydh {l : List Int} (h : 1 ≤ l.length) : l[((l.length : Int) - 1).toNat]? = some (XL l) := by
  rw [show ((l.length : Int) - 1).toNat = l.length - 1 by omega]
  unfold XL
  rw [List.getD_eq_getElem?_getD, List.getElem?_eq_getElem (by omega)]; rfl
structure SlM2 where
  k : Nat
  at_ : Int
  A : Option Addr
  cap : Nat
  out : List Int
set_option maxRecDepth 10000 in
set_option maxHeartbeats 8000000 in
theorem YdF (x : WayM) (hok : Z6 x) (rel : Int) (hrel : 0 ≤ rel ∧ rel ≤ 100000) {B : Nat} {w0 : World} {H : List HP} {w : World} (hi : x.In B w0 H) (hw : St B w0 H w) :
    Calls Tryz.prog 236 [x.n.val, x.s.val, flwV x.f, .slice x.A x.r.length x.cap, .int .i64 rel, .int .i64 0].toArray w (Post B w0 fun v K => ∃ A cap, v = .tuple #[.slice A (relO (ZM x.n.net x.s.sch x.f x.r rel)).length cap, .bool (ZM x.n.net x.s.sch x.f x.r rel).isSome] ∧ K = nrs A cap (relO (ZM x.n.net x.s.sch x.f x.r rel)) :: H) := by
  refine Yc Tryz.func236 Tryz.ntmps236 rfl rfl hw ?_
  have hop : ∀ w, St B w0 [many H] w → St B w0 H w := fun w hw => hw.perm (.openT H)
  have hi := hi.mono hop
  refine UZ [many H] (fun w hw => hw.perm (.closeT H)) ?_
  have hper := hok.per
  have hsl := hok.slen
  have hrl := hok.len
  have hr := hi.r
  have hLl := @ZF x.n.net x.r
  obtain ⟨R, hR⟩ : ∃ R, ZM x.n.net x.s.sch x.f x.r rel = R := ⟨_, rfl⟩
  rw [hR]
  unfold ZM at hR
  obtain ⟨LL, hLL⟩ : ∃ LL, YJ x.n.net x.r = LL := ⟨_, rfl⟩
  rw [hLL] at hR hLl
  obtain ⟨CC, hCC⟩ : ∃ CC, V4 x.s.sch x.f.1 = CC := ⟨_, rfl⟩
  rw [hCC, show x.s.sch.len = x.s.len from rfl] at hR
  have p1 := fun {a b : Int} (hg : YR x.n.net a b = true) {H' : List HP} {w : World} (hin : x.n.In B w0 H') (hw : St B w0 H' w) => YfI x.n a b hg hin hw
  have p2 := fun (fr dn nd : Int) (need : Nat) (a : Int) (hnd : nd = (need : Nat)) (hn : need ≤ 1000) (ha : rel ≤ a ∧ a ≤ rel + x.f.2.2.2.1) {H' : List HP} {w : World} (hrs : Rd B w0 H' x.s.A (x.s.cells.flatMap celF)) (hw : St B w0 H' w) => Yg7 x.s x.f fr dn nd need a (rel + x.f.2.2.2.1 - 1) hnd hn (by omega) (by omega) (by omega) hi.sl hrs hw
  unfold NetM.val SchM.val flwV
  unfold NetM.val at p1
  unfold SchM.val flwV at p2
  repeat' (first | (apply YW T; exact rfl; exact rfl; intro gO) | apply (zs1 ?_) | apply (zs2 ?_) | (apply zg23; (refine zs52 ?_; intro _)) | apply (zs65 ?_) | apply (zs68 ?_) | apply (zs69 ?_) | apply (zs70 ?_) | apply (zs73 ?_) | fail)
  rename_i g6 g7 g8
  refine Yj (fun z : SlM2 => [(16, .int .i64 ((z.k + 1 : Nat) : Int)), (15, .int .i64 z.at_), (14, .slice z.A z.out.length z.cap), (3, .slice x.A x.r.length x.cap), (4, .int .i64 rel), (5, .int .i64 0), (6, .pointer (some ⟨g6, 0, none⟩)), (7, .pointer (some ⟨g7, 0, none⟩)), (8, .pointer (some ⟨g8, 0, none⟩))]) (fun z => nrs z.A z.cap z.out :: flwB g8 x.f :: schA g7 x.s :: netA g6 x.n :: [many H])
    (fun z => z.k + 1 ≤ x.r.length ∧ z.out.length ≤ 8 * z.k ∧ (rel ≤ z.at_ ∧ z.at_ ≤ rel + x.f.2.2.2.1) ∧ (runR x.s.len CC (rel + x.f.2.2.2.1) (LL.drop z.k) z.at_).map (fun y => z.out ++ y) = R) (fun z => x.r.length - z.k) ⟨0, rel, some ⟨gO, 0, none⟩, 0, []⟩ ⟨by show 0 + 1 ≤ x.r.length; omega, Nat.zero_le _, by show rel ≤ rel ∧ rel ≤ rel + x.f.2.2.2.1; omega, ?_⟩ ?_ (fun w hw => hw) ?_
  · show (runR x.s.len CC (rel + x.f.2.2.2.1) (LL.drop 0) rel).map (fun y => [] ++ y) = R
    rw [List.drop_zero, hR]; simp
  · dsimp only
    exact zu
  rintro ⟨k, at_, A, cap, out⟩ ⟨hk, hol, hat, hrun⟩ K hK
  dsimp only at hk hol hat hrun ⊢
  have hr2 : Rd B w0 (nrs A cap out :: flwB g8 x.f :: schA g7 x.s :: netA g6 x.n :: [many H]) x.A (x.r.flatMap numF) := hr.cons.cons.cons.cons
  by_cases hlt : k + 1 < x.r.length
  rotate_left
  · rw [List.drop_of_length_le (by omega)] at hrun
    have hRv : R = some out := by rw [← hrun]; simp [runR]
    subst hRv
    clear hK
    repeat' (first | apply (zs1 ?_) | apply (zs2 ?_) | (apply zg4; refine zs9 ?_) | (apply (zs17 ?_ ?_) <;> intro _ <;> try (exfalso; omega)) | apply (zs65 ?_) | apply (zs68 ?_) | apply (zs69 ?_) | apply (zs70 ?_) | (apply zg27; refine zs72 ?_) | apply (zs74 ?_) | apply (zs75 ?_) | apply (zs80 ?_) | apply (zs81 ?_) | fail)
    apply Yi (nrs A cap out :: H)
    · intro w hw
      have h5 : St B w0 (nrs A cap out :: [many H]) w := by
        revert w
        exact zk
      exact h5.perm (.cons _ (.openT H))
    apply Yp; exact rfl; exact rfl; exact rfl
    exact ⟨A, cap, rfl, rfl⟩
  have hg := hok.good k hlt
  obtain ⟨e1, e2⟩ := YfH hok hlt
  have hlk : LL[k]? = some (Z5 x.n.net x.r k) := by rw [← hLL]; exact Vl hlt
  have hbd := V5 hok (by rw [hLL]; exact hlk)
  have hlo : Yhb x.n.net (x.r.getD k 0) (x.r.getD (k + 1) 0) = (Z5 x.n.net x.r k).2.2 := rfl
  have hdr : LL.drop k = Z5 x.n.net x.r k :: LL.drop (k + 1) := by
    obtain ⟨h1, h2⟩ := List.getElem?_eq_some_iff.1 hlk
    rw [← h2, List.getElem_cons_drop]
  obtain ⟨l, hl⟩ : ∃ l, Z5 x.n.net x.r k = l := ⟨_, rfl⟩
  rw [hl] at e1 e2 hbd hlo hdr
  obtain ⟨fr, hfr⟩ : ∃ v, x.r.getD k 0 = v := ⟨_, rfl⟩
  obtain ⟨dn, hto⟩ : ∃ v, x.r.getD (k + 1) 0 = v := ⟨_, rfl⟩
  rw [hfr] at hg e1 hlo
  rw [hto] at hg e2 hlo
  have hx0 : x.r[(((k + 1 : Nat) : Int) - 1).toNat]? = some fr := by
    rw [show (((k + 1 : Nat) : Int) - 1).toNat = k by omega, ← hfr, List.getD_eq_getElem?_getD, List.getElem?_eq_getElem (by omega)]; rfl
  have hx1 : x.r[k + 1]? = some dn := by
    rw [← hto, List.getD_eq_getElem?_getD, List.getElem?_eq_getElem (by omega)]; rfl
  rw [hdr] at hrun
  unfold runR at hrun
  have hCl : CC l = x.s.cells.filter (onP x.f.1 fr dn) := by rw [← hCC, ← e1, ← e2]; rfl
  have hneed : l.2.2 + 1 + 0 = ((YX l : Nat) : Int) := by unfold YX; omega
  have hn8 : YX l ≤ 8 ∧ 1 ≤ YX l := by unfold YX; omega
  have p3 := fun {H' : List HP} {w : World} (hin : x.n.In B w0 H') (hw : St B w0 H' w) => p1 hg hin hw
  have p4 := fun {H' : List HP} {w : World} (hrs : Rd B w0 H' x.s.A (x.s.cells.flatMap celF)) (hw : St B w0 H' w) => p2 fr dn (l.2.2 + 1 + 0) (YX l) at_ hneed (by omega) hat hrs hw
  rw [hlo] at p3
  rw [← hCl, show rel + x.f.2.2.2.1 - 1 + 1 - at_ = rel + x.f.2.2.2.1 - at_ by omega] at p4
  obtain ⟨hp, hhp⟩ : ∃ h, hopP x.s.len (CC l) (rel + x.f.2.2.2.1 - at_).toNat (YX l) at_ = h := ⟨_, rfl⟩
  have hpl : hp.length ≤ YX l := by rw [← hhp]; exact Ut _ _ _ _ _
  have hps : ∀ z ∈ hp, at_ ≤ z.2 ∧ z.2 < rel + x.f.2.2.2.1 := fun z hz => by
    rw [← hhp] at hz
    have := Ycc hz
    omega
  rw [hhp] at p4 hrun
  have hab := YcM hps (by omega)
  rw [List.length_map] at p4
  clear hhp hneed
  repeat' (first | apply (zs1 ?_) | (apply zg4; refine zs9 ?_) | (apply (zs17 ?_ ?_) <;> intro _ <;> try (exfalso; omega)) | apply (zs65 ?_) | apply (zs68 ?_) | apply (zs69 ?_) | apply (zs70 ?_) | (apply zg27; refine zs71 ?_) | apply (zs73 ?_) | apply (zs76 ?_) | fail)
  apply YB [0, 1, 2, 3, 4, 5, 6, 7, 8, 9, 10, 11, 12, 13, 14, 15, 16, 17, 18, 19, 20, 23, 25, 26, 27, 28, 29, 30, 21, 22, 24, 31, 32, 33, 34, 35, 36] []
  kernel_rfl
  kernel_rfl
  (simp only [Yk, nthO]; rfl)
  exact rfl
  repeat' (first | apply (zs1 ?_) | (apply zg2; refine zs6 ?_) | (apply zg3; first | refine zs7 ?_ | refine zs8 ?_ | refine zs60 ?_) | (apply zg5; refine zs57 ?_) | (apply zg13; refine zs30 ?_) | (apply zg14; refine zs31 ?_) | apply (zs87 ?_) | fail)
  first | apply Ya YiW | apply Yb YiW
  exact za
  exact rfl
  exact fun _ hw => (p3 (hi.n.mono zk) hw)
  repeat' (first | (apply zg13; refine zs30 ?_) | apply (zs65 ?_) | apply (zs87 ?_) | (apply Yl; (repeat (first | with_reducible exact Yh | (with_reducible apply Yf; (repeat (first | with_reducible exact Yg | with_reducible apply Ye)))))) | fail)
  apply Yq _ Yj4
  exact za
  exact rfl
  exact fun _ hw => (p4 (hi.s.mono zk) (hw))
  rintro _ _ ⟨A2, cap2, rfl, rfl⟩
  by_cases hsh : hp.length < YX l
  · rw [if_pos hsh] at hrun
    rw [decide_eq_false (by omega)]
    have hRv : R = none := by rw [← hrun]; rfl
    subst hRv
    clear hK
    repeat' (first | apply (zs1 ?_) | apply (zs2 ?_) | apply (zs13 ?_) | (apply zg20; refine zs48 ?_) | apply (zs65 ?_) | (apply Yo; exact zp) | apply (zs68 ?_) | apply (zs69 ?_) | apply (zs70 ?_) | (apply zg27; refine zs71 ?_) | apply (zs74 ?_) | apply (zs77 ?_) | apply (zs78 ?_) | (apply Yl; (repeat (first | with_reducible exact Yh | (with_reducible apply Yf; (repeat (first | with_reducible exact Yg | with_reducible apply Ye)))))) | apply (zs93 ?_) | apply (zs94 ?_) | fail)
    apply Yi (nrs none 0 [] :: H)
    · intro w hw
      have h5 : St B w0 [many H] w := by
        revert w
        exact zk
      exact (hop w h5).nilSlice _ _
    apply Yp; exact rfl; exact rfl; exact rfl
    exact ⟨none, 0, rfl, rfl⟩
  rw [if_neg hsh] at hrun
  rw [decide_eq_true (by omega)]
  have hne : hp ≠ [] := fun e => by rw [e] at hsh; exact hsh (by show 0 < _; omega)
  have hla := Yd3 (a := at_) hne
  have hml : 1 ≤ (hp.map Prod.snd).length := by rw [List.length_map]; omega
  have hlg := Ydh hml
  have hhl : hp.length = YX l := by omega
  have hrun2 : (runR x.s.len CC (rel + x.f.2.2.2.1) (LL.drop (k + 1)) (Zi hp at_)).map (fun y => (out ++ hp.map Prod.snd) ++ y) = R := by
    rw [← hrun, Option.map_map]
    congr 1
    funext y
    simp
  rw [hla] at hab hrun2
  obtain ⟨M, hM⟩ : ∃ M, hp.map Prod.snd = M := ⟨_, rfl⟩
  have hMl : M.length = YX l := by rw [← hM, List.length_map, hhl]
  rw [hM] at hab hrun2 hml hlg ⊢
  rw [show hp.length = M.length by omega]
  repeat' (first | apply (zs1 ?_) | apply (zs2 ?_) | apply (zs13 ?_) | (apply zg20; refine zs47 ?_) | apply (zs65 ?_) | (apply Yo; exact zp) | apply (zs68 ?_) | apply (zs69 ?_) | apply (zs70 ?_) | (apply zg27; refine zs72 ?_) | apply (zs76 ?_) | (apply Yl; (repeat (first | with_reducible exact Yh | (with_reducible apply Yf; (repeat (first | with_reducible exact Yg | with_reducible apply Ye)))))) | apply (zs93 ?_) | apply (zs94 ?_) | fail)
  repeat' (first | (apply Jc T (f := numF) (l2 := M) (e := 3) (size := 1) (xs := out.flatMap numF); exact rfl; exact rfl; exact rfl; exact Rd.sl zm; exact (fun _ => rfl); exact (fun _ => rfl); exact rfl; (intro _ _; exact zd); omega; intro A' cap') | apply (zs1 ?_) | apply (zs2 ?_) | (apply zg3; refine zs60 ?_) | (apply zg4; refine zs9 ?_) | (apply zg5; refine zs10 ?_) | (apply zg13; refine zs30 ?_) | (apply zg14; refine zs31 ?_) | apply (zs65 ?_) | apply (zs68 ?_) | apply (zs70 ?_) | apply (zs79 ?_) | fail)
  rename_i A' cap'
  apply hK ⟨k + 1, XL M + 1, A', cap', out ++ M⟩
  · refine ⟨by show k + 1 + 1 ≤ _; omega, by show (out ++ M).length ≤ 8 * (k + 1); rw [List.length_append]; omega, by show rel ≤ XL M + 1 ∧ XL M + 1 ≤ rel + x.f.2.2.2.1; omega, hrun2⟩
  · dsimp only; omega
  · dsimp only
    rw [List.length_append]
    exact zu
  · have e9 : sl 3 1 A' (out.length + M.length) cap' (out.flatMap numF ++ M.flatMap numF) = nrs A' cap' (out ++ M) := by
      unfold nrs
      rw [List.length_append, List.flatMap_append]
    dsimp only
    rw [← e9]
    exact zk
theorem Yf4 {x : WayM} (hok : Z6 x) {a : Int} {l : List Int} (_ha : 0 ≤ a ∧ a ≤ 100000) (h : ZM x.n.net x.s.sch x.f x.r a = some l) : (1 ≤ l.length ∧ l.length ≤ 72) ∧ (a ≤ XL l ∧ XL l < a + x.f.2.2.2.1) ∧ ∀ z ∈ l, a ≤ z ∧ z < a + x.f.2.2.2.1 := by
  have h1 := YdN hok h
  have hper := hok.per
  have hrl := hok.len
  rw [UA] at h
  split at h
  · cases h
  obtain rfl := Option.some.inj h
  have h2 : (runW x a).length ≤ XA (YJ x.n.net x.r) := Qc _ _ _ _ _
  have h3 := Wq hok (YJ x.n.net x.r).length
  rw [List.take_length, ZF] at h3
  rw [List.length_map] at h1 ⊢
  refine ⟨by omega, h1.2, fun z hz => ?_⟩
  obtain ⟨y, hy, rfl⟩ := List.mem_map.1 hz
  exact Qd (by omega) hy
set_option maxRecDepth 10000 in
set_option maxHeartbeats 8000000 in
theorem Yev (x : WayM) (hok : Z6 x) {B : Nat} {w0 : World} {H : List HP} {w : World} (hi : x.In B w0 H) (hw : St B w0 H w) :
    Calls Tryz.prog 194 [x.n.val, x.s.val, flwV x.f, .slice x.A x.r.length x.cap, .int .i64 0].toArray w (Post B w0 fun v K => ∃ A cap, v = .tuple #[.int .i64 (XY x).1, .int .i64 (XY x).2.1, .slice A (XY x).2.2.1.length cap, .bool (XY x).2.2.2] ∧ K = nrs A cap (XY x).2.2.1 :: H) := by
  refine Yc Tryz.func194 Tryz.ntmps194 rfl rfl hw ?_
  have hop : ∀ w, St B w0 [many H] w → St B w0 H w := fun w hw => hw.perm (.openT H)
  have hi := hi.mono hop
  refine UZ [many H] (fun w hw => hw.perm (.closeT H)) ?_
  have hper := hok.per
  have hph := hok.ph
  have hsl := hok.slen
  obtain ⟨R, hR⟩ : ∃ R, Jo x.n.net x.s.sch x.f x.r = R := ⟨_, rfl⟩
  have hO : XY x = Vb R := by unfold XY; rw [hR]
  rw [hO]
  unfold Jo at hR
  rw [show x.s.sch.len = x.s.len from rfl] at hR
  have hsb := fun {a : Int} {l : List Int} (ha : 0 ≤ a ∧ a ≤ 100000) (h : ZM x.n.net x.s.sch x.f x.r a = some l) => Yf4 hok ha h
  have hrl := fun (a : Int) (ha : 0 ≤ a ∧ a ≤ 100000) {H' : List HP} {w : World} (hi : x.In B w0 H') (hw : St B w0 H' w) => YdF x hok a ha hi hw
  obtain ⟨S, hS⟩ : ∃ S, ZM x.n.net x.s.sch x.f x.r = S := ⟨_, rfl⟩
  rw [hS] at hR hrl hsb
  have p3 := fun (l : List Int) (a : Int) (hl : l.length ≤ 72) (hb : ∀ z ∈ l, -1000000000 ≤ z ∧ z ≤ 1000000000) (ha : 0 ≤ a ∧ a ≤ 1000000000) {A : Option Addr} {cap : Nat} {H' : List HP} {w : World} (hr : Rd B w0 H' A (l.flatMap numF)) (hw : St B w0 H' w) => YaM l a (by omega) hb ha (cap := cap) hr hw
  unfold NetM.val SchM.val flwV
  unfold NetM.val SchM.val flwV at hrl
  repeat' (first | (apply YW T; exact rfl; exact rfl; intro gO) | apply (zs2 ?_) | (apply zg2; refine zs6 ?_) | (apply zg3; refine zs7 ?_) | (apply zg23; (refine zs52 ?_; intro _)) | apply (zs65 ?_) | apply (zs68 ?_) | apply (zs69 ?_) | apply (zs70 ?_) | apply (zs73 ?_) | fail)
  rename_i g5 g6 g7
  refine Yj (fun z : BdM => [(17, .int .i64 z.rel), (16, .slice z.A z.b.2.2.length z.cap), (15, .int .i64 z.b.2.1), (14, .int .i64 z.b.1), (3, .slice x.A x.r.length x.cap), (4, .int .i64 0), (5, .pointer (some ⟨g5, 0, none⟩)), (6, .pointer (some ⟨g6, 0, none⟩)), (7, .pointer (some ⟨g7, 0, none⟩))]) (fun z => nrs z.A z.cap z.b.2.2 :: flwB g7 x.f :: schA g6 x.s :: netA g5 x.n :: [many H])
    (fun z => VX S x.s.len x.f.2.2.2.1 z.k z.rel z.b = R ∧ x.s.len - z.rel ≤ z.k ∧ 0 ≤ z.rel ∧ z.rel ≤ 2000 ∧ 0 ≤ z.b.1 ∧ z.b.1 ≤ 2000) (fun z => z.k) ⟨x.s.len.toNat, x.f.2.2.2.2.1, (0, 0, []), some ⟨gO, 0, none⟩, 0⟩ ⟨hR, by show x.s.len - x.f.2.2.2.2.1 ≤ ((x.s.len.toNat : Nat) : Int); omega, hph.1, by show x.f.2.2.2.2.1 ≤ 2000; omega, Int.le_refl _, by show (0 : Int) ≤ 2000; decide⟩ ?_ (fun w hw => hw) ?_
  · exact zu
  rintro ⟨k, rel, ⟨b1, b2, bl⟩, A, cap⟩ ⟨hb, hk, h0, h1, hb0, hb1⟩ K hK
  dsimp only at hb hk h0 h1 hb0 hb1 ⊢
  by_cases hge : x.s.len ≤ rel
  · have hRe : R = some (b1, b2, bl) := by
      rw [← hb]
      cases k with
      | zero => rfl
      | succ k => unfold VX; rw [if_pos hge]
    rw [hRe]
    clear hK
    repeat' (first | apply (zs1 ?_) | apply (zs2 ?_) | (apply zg2; refine zs6 ?_) | (apply zg3; refine zs7 ?_) | (apply (zs17 ?_ ?_) <;> intro _ <;> try (exfalso; omega)) | apply (zs65 ?_) | apply (zs68 ?_) | apply (zs69 ?_) | apply (zs70 ?_) | (apply zg27; refine zs72 ?_) | apply (zs74 ?_) | apply (zs75 ?_) | apply (zs80 ?_) | apply (zs81 ?_) | fail)
    apply Yi (nrs A cap bl :: H)
    · intro w hw
      have h5 : St B w0 (nrs A cap bl :: [many H]) w := by
        revert w
        exact zk
      exact h5.perm (.cons _ (.openT H))
    apply ZQ; exact rfl; exact rfl; exact rfl; exact rfl; exact rfl
    exact ⟨A, cap, rfl, rfl⟩
  obtain ⟨k, rfl⟩ : ∃ k', k = k' + 1 := ⟨k - 1, by omega⟩
  unfold VX at hb
  rw [if_neg hge] at hb
  have hrr := fun {H' : List HP} {w : World} (hi : x.In B w0 H') (hw : St B w0 H' w) => hrl rel (by omega) hi hw
  cases hSr : S rel with
  | none =>
    rw [hSr] at hb hrr
    dsimp only [relO, Option.getD_none, Option.isSome_none] at hb hrr
    rw [← hb]
    clear hK
    repeat' (first | apply (zs1 ?_) | (apply zg2; refine zs6 ?_) | (apply zg3; first | refine zs7 ?_ | refine zs8 ?_) | (apply (zs17 ?_ ?_) <;> intro _ <;> try (exfalso; omega)) | apply (zs65 ?_) | apply (zs68 ?_) | apply (zs69 ?_) | apply (zs70 ?_) | (apply zg27; refine zs71 ?_) | apply (zs73 ?_) | apply (zs76 ?_) | fail)
    apply Yq _ YgZ
    exact za
    exact rfl
    exact fun _ hw => (hrr (hi.mono zk) (hw))
    rintro _ _ ⟨A2, cap2, rfl, rfl⟩
    repeat' (first | apply (zs1 ?_) | apply (zs2 ?_) | apply (zs13 ?_) | (apply zg20; refine zs48 ?_) | apply (zs65 ?_) | apply (zs68 ?_) | apply (zs69 ?_) | apply (zs70 ?_) | (apply zg27; refine zs71 ?_) | apply (zs74 ?_) | apply (zs77 ?_) | apply (zs78 ?_) | fail)
    apply Yi (nrs none 0 [] :: H)
    · intro w hw
      have h5 : St B w0 [many H] w := by
        revert w
        exact zk
      exact (hop w h5).nilSlice _ _
    apply ZQ; exact rfl; exact rfl; exact rfl; exact rfl; exact rfl
    exact ⟨none, 0, rfl, rfl⟩
  | some l =>
    rw [hSr] at hb hrr
    dsimp only [relO, Option.getD_some, Option.isSome_some] at hb hrr
    obtain ⟨hl1, hl2, hl3⟩ := hsb (a := rel) (l := l) (by omega) hSr
    have hlg := Ydh hl1.1
    have p4 := fun {A : Option Addr} {cap : Nat} {H' : List HP} {w : World} (hr : Rd B w0 H' A (l.flatMap numF)) (hw : St B w0 H' w) => p3 l rel hl1.2 (fun z hz => by have := hl3 z hz; omega) (by omega) (cap := cap) hr hw
    obtain ⟨m, hm⟩ : ∃ m, XL l - rel + 1 = m := ⟨_, rfl⟩
    rw [hm] at hb
    by_cases hgt : b1 < m
    · rw [if_pos hgt] at hb
      repeat' (first | apply (zs1 ?_) | (apply zg2; refine zs6 ?_) | (apply zg3; first | refine zs7 ?_ | refine zs8 ?_) | (apply (zs17 ?_ ?_) <;> intro _ <;> try (exfalso; omega)) | apply (zs65 ?_) | apply (zs68 ?_) | apply (zs69 ?_) | apply (zs70 ?_) | (apply zg27; refine zs71 ?_) | apply (zs73 ?_) | apply (zs76 ?_) | fail)
      apply Yq _ YgZ
      exact za
      exact rfl
      exact fun _ hw => (hrr (hi.mono zk) (hw))
      rintro _ _ ⟨A2, cap2, rfl, rfl⟩
      repeat' (first | apply (zs1 ?_) | apply (zs2 ?_) | (apply zg3; refine zs60 ?_) | (apply zg4; refine zs9 ?_) | (apply zg5; refine zs10 ?_) | apply (zs13 ?_) | (apply (zs19 ?_ ?_) <;> intro _ <;> try (exfalso; omega)) | (apply zg13; refine zs30 ?_) | (apply zg14; refine zs31 ?_) | (apply zg20; refine zs47 ?_) | apply (zs65 ?_) | apply (zs68 ?_) | apply (zs69 ?_) | apply (zs70 ?_) | (apply zg27; first | refine zs71 ?_ | refine zs72 ?_) | apply (zs76 ?_) | fail)
      apply YB [0, 1, 2, 3, 4, 5, 6, 7, 8, 9, 10, 11, 12, 13, 14, 15] []
      kernel_rfl
      kernel_rfl
      (simp only [Yk, nthO]; rfl)
      exact rfl
      repeat' (first | apply (zs1 ?_) | (apply zg3; refine zs60 ?_) | (apply zg4; refine zs9 ?_) | (apply zg5; refine zs10 ?_) | (apply zg13; refine zs30 ?_) | (apply zg14; refine zs31 ?_) | apply (zs87 ?_) | fail)
      apply Yq _ YjZ
      exact za
      exact rfl
      exact fun _ hw => (p4 (Rd.sl zm) (hw))
      rintro _ _ ⟨A3, cap3, rfl, rfl⟩
      repeat' (first | apply (zs1 ?_) | apply (zs2 ?_) | (apply zg2; refine zs6 ?_) | (apply zg3; refine zs7 ?_) | (apply zg13; refine zs30 ?_) | apply (zs65 ?_) | (apply Yo; exact zp) | apply (zs68 ?_) | apply (zs70 ?_) | apply (zs79 ?_) | (apply Yl; (repeat (first | with_reducible exact Yh | (with_reducible apply Yf; (repeat (first | with_reducible exact Yg | with_reducible apply Ye)))))) | apply (zs93 ?_) | apply (zs94 ?_) | fail)
      rw [hm]
      apply hK ⟨k, rel + x.f.2.2.2.1, (m, rel, l.map fun z => z - rel), A3, cap3⟩
      · exact ⟨hb, by show x.s.len - (rel + x.f.2.2.2.1) ≤ ((k : Nat) : Int); omega, by show 0 ≤ rel + x.f.2.2.2.1; omega, by show rel + x.f.2.2.2.1 ≤ 2000; omega, by show 0 ≤ m; omega, by show m ≤ 2000; omega⟩
      · dsimp only; omega
      · exact zu
      · exact zk
    · rw [if_neg hgt] at hb
      repeat' (first | apply (zs1 ?_) | (apply zg2; refine zs6 ?_) | (apply zg3; first | refine zs7 ?_ | refine zs8 ?_) | (apply (zs17 ?_ ?_) <;> intro _ <;> try (exfalso; omega)) | apply (zs65 ?_) | apply (zs68 ?_) | apply (zs69 ?_) | apply (zs70 ?_) | (apply zg27; refine zs71 ?_) | apply (zs73 ?_) | apply (zs76 ?_) | fail)
      apply Yq _ YgZ
      exact za
      exact rfl
      exact fun _ hw => (hrr (hi.mono zk) (hw))
      rintro _ _ ⟨A2, cap2, rfl, rfl⟩
      repeat' (first | apply (zs1 ?_) | apply (zs2 ?_) | (apply zg2; refine zs6 ?_) | (apply zg3; first | refine zs7 ?_ | refine zs60 ?_) | (apply zg4; refine zs9 ?_) | (apply zg5; refine zs10 ?_) | apply (zs13 ?_) | (apply (zs19 ?_ ?_) <;> intro _ <;> try (exfalso; omega)) | (apply zg13; refine zs30 ?_) | (apply zg14; refine zs31 ?_) | (apply zg20; refine zs47 ?_) | apply (zs65 ?_) | apply (zs68 ?_) | apply (zs69 ?_) | apply (zs70 ?_) | (apply zg27; refine zs72 ?_) | apply (zs76 ?_) | apply (zs79 ?_) | fail)
      apply hK ⟨k, rel + x.f.2.2.2.1, (b1, b2, bl), A, cap⟩
      · exact ⟨hb, by show x.s.len - (rel + x.f.2.2.2.1) ≤ ((k : Nat) : Int); omega, by show 0 ≤ rel + x.f.2.2.2.1; omega, by show rel + x.f.2.2.2.1 ≤ 2000; omega, hb0, hb1⟩
      · dsimp only; omega
      · exact zu
      · exact zk
open Go.RowKit Go.Eng Go.Nw Go.Rt
set_option maxRecDepth 10000 in
set_option maxHeartbeats 4000000 in
theorem YaP (x : WayM) {B : Nat} {w0 : World} {H : List HP} {w : World} (hi : x.In B w0 H) (hw : St B w0 H w) :
    Calls Tryz.prog 193 [x.n.val, x.s.val, flwV x.f, .slice x.A x.r.length x.cap].toArray w (Post B w0 fun v K => v = .int .i64 (wayE x.n.net x.s.sch x.f x.r) ∧ K = H) := by
  refine Yc Tryz.func193 Tryz.ntmps193 rfl rfl hw ?_
  have hn := hi.n
  have hs := hi.s
  have hr := hi.r
  have p1 := fun {H' : List HP} {w : World} (hin : x.n.In B w0 H') (hw : St B w0 H' w) => ZY x.n hin hw
  have p2 := fun {H' : List HP} {w : World} (hr : Rd B w0 H' x.s.A (x.s.cells.flatMap celF)) (hw : St B w0 H' w) => Ycn x.s hr hi.sl hw
  have p3 := fun (hn : 2 ≤ x.n.nodes ∧ x.n.nodes ≤ 32) {H' : List HP} {w : World} (hw : St B w0 H' w) => Vt x.n.nodes x.f hn hw
  have p4 := fun {H' : List HP} {w : World} (hin : x.n.In B w0 H') (hr : Rd B w0 H' x.A (x.r.flatMap numF)) (hw : St B w0 H' w) => OF x.n x.f.2.1 x.f.2.2.1 x.r (cap := x.cap) hin hr hi.rl hw
  have hok : YA x.n.net = 0 → 2 ≤ x.n.nodes ∧ x.n.nodes ≤ 32 := fun h => ⟨(YZ h).n0, (YZ h).n1⟩
  have e1 : x.n.net.nodes = x.n.nodes := rfl
  have e2 : x.s.sch.len = x.s.len := rfl
  unfold wayE
  rw [e1, e2]
  obtain ⟨c, hc⟩ : ∃ c, YA x.n.net = c := ⟨_, rfl⟩
  obtain ⟨fm, hfm⟩ : ∃ e, XF x.s.sch = e := ⟨_, rfl⟩
  obtain ⟨k, hk⟩ : ∃ k, XC x.n.net x.f.2.1 x.f.2.2.1 x.r = k := ⟨_, rfl⟩
  rw [hc] at p1 hok ⊢
  rw [hfm] at p2 ⊢
  rw [hk] at p4 ⊢
  unfold NetM.val SchM.val flwV
  unfold NetM.val at p1 p4
  unfold SchM.val at p2
  unfold flwV at p3
  by_cases h1 : c = 0
  rotate_left
  · rw [if_pos (.inl h1)]
    repeat' (first | apply (zs2 ?_) | (apply zg3; refine zs8 ?_) | (apply zg23; (refine zs52 ?_; intro _)) | apply (zs65 ?_) | apply (zs68 ?_) | apply (zs69 ?_) | apply (zs70 ?_) | fail)
    first | apply Ya Y8 | apply Yb Y8
    exact za
    exact rfl
    exact fun _ hw => (p1 (hn.mono zk) hw)
    repeat' (first | apply (zs1 ?_) | apply (zs2 ?_) | (apply zg1; refine zs3 ?_) | (apply zg6; refine zs11 ?_) | (apply zg8; (refine zs16 ?_ ?_ <;> intro _ <;> try (exfalso; omega))) | apply (zs65 ?_) | apply (zs68 ?_) | apply (zs69 ?_) | apply (zs70 ?_) | (apply zg27; refine zs71 ?_) | apply (zs74 ?_) | apply (zs77 ?_) | fail)
    apply Yi H
    · exact zk
    apply Yd; exact rfl; exact rfl; exact ⟨rfl, rfl⟩
  subst h1
  cases fm with
  | false =>
    rw [if_pos (.inr (.inl rfl))]
    repeat' (first | apply (zs2 ?_) | (apply zg3; refine zs8 ?_) | (apply zg23; (refine zs52 ?_; intro _)) | apply (zs65 ?_) | apply (zs68 ?_) | apply (zs69 ?_) | apply (zs70 ?_) | fail)
    first | apply Ya Y8 | apply Yb Y8
    exact za
    exact rfl
    exact fun _ hw => (p1 (hn.mono zk) hw)
    repeat' (first | apply (zs1 ?_) | (apply zg1; refine zs4 ?_) | (apply zg3; refine zs8 ?_) | (apply zg8; (refine zs16 ?_ ?_ <;> intro _ <;> try (exfalso; omega))) | fail)
    first | apply Ya Ou | apply Yb Ou
    exact za
    exact rfl
    exact fun _ hw => (p2 (hs.mono zk) hw)
    repeat' (first | apply (zs1 ?_) | apply (zs2 ?_) | (apply zg1; first | refine zs3 ?_ | refine zs4 ?_) | (apply zg6; first | refine zs11 ?_ | refine zs12 ?_) | (apply zg20; refine zs48 ?_) | apply (zs65 ?_) | apply (zs68 ?_) | apply (zs69 ?_) | apply (zs70 ?_) | (apply zg27; refine zs71 ?_) | apply (zs74 ?_) | apply (zs77 ?_) | fail)
    apply Yi H
    · exact zk
    apply Yd; exact rfl; exact rfl; exact ⟨rfl, rfl⟩
  | true =>
  have p5 := fun {H' : List HP} {w : World} (hw : St B w0 H' w) => p3 (hok rfl) hw
  obtain ⟨fe, hfe⟩ : ∃ e, Xp x.n.nodes x.f = e := ⟨_, rfl⟩
  have hper : Xp x.n.nodes x.f = 0 → 1 ≤ x.f.2.2.2.1 := fun h => by
    unfold Xp at h
    split at h
    · cases h
    split at h
    · cases h
    omega
  rw [hfe] at p5 hper ⊢
  by_cases h3 : fe = 0
  rotate_left
  · rw [if_pos (.inr (.inr h3))]
    repeat' (first | apply (zs2 ?_) | (apply zg3; refine zs8 ?_) | (apply zg23; (refine zs52 ?_; intro _)) | apply (zs65 ?_) | apply (zs68 ?_) | apply (zs69 ?_) | apply (zs70 ?_) | fail)
    first | apply Ya Y8 | apply Yb Y8
    exact za
    exact rfl
    exact fun _ hw => (p1 (hn.mono zk) hw)
    repeat' (first | apply (zs1 ?_) | (apply zg1; refine zs4 ?_) | (apply zg3; refine zs8 ?_) | (apply zg8; (refine zs16 ?_ ?_ <;> intro _ <;> try (exfalso; omega))) | fail)
    first | apply Ya Ou | apply Yb Ou
    exact za
    exact rfl
    exact fun _ hw => (p2 (hs.mono zk) hw)
    repeat' (first | apply (zs1 ?_) | (apply zg1; refine zs4 ?_) | (apply zg2; refine zs6 ?_) | (apply zg3; first | refine zs7 ?_ | refine zs8 ?_) | (apply zg6; refine zs12 ?_) | (apply zg20; refine zs47 ?_) | fail)
    first | apply Ya Jz | apply Yb Jz
    exact za
    exact rfl
    exact fun _ hw => (p5 hw)
    repeat' (first | apply (zs2 ?_) | (apply zg1; refine zs4 ?_) | (apply zg6; refine zs12 ?_) | (apply zg8; (refine zs16 ?_ ?_ <;> intro _ <;> try (exfalso; omega))) | apply (zs65 ?_) | apply (zs68 ?_) | apply (zs69 ?_) | apply (zs70 ?_) | (apply zg27; refine zs71 ?_) | apply (zs74 ?_) | apply (zs77 ?_) | fail)
    apply Yi H
    · exact zk
    apply Yd; exact rfl; exact rfl; exact ⟨rfl, rfl⟩
  subst h3
  have hper := hper rfl
  rw [if_neg (by rintro (h | h | h); exact h rfl; cases h; exact h rfl)]
  have hsz : 1 ≤ x.s.len ∧ x.s.len ≤ 512 := by
    have := of_decide_eq_true (V3.1 hfm).sized
    exact ⟨this.1, this.2.1⟩
  rw [Int.tmod_eq_emod_of_nonneg (show 0 ≤ x.s.len by omega)]
  by_cases h4 : x.s.len % x.f.2.2.2.1 = 0
  rotate_left
  · rw [if_pos h4]
    repeat' (first | apply (zs2 ?_) | (apply zg3; refine zs8 ?_) | (apply zg23; (refine zs52 ?_; intro _)) | apply (zs65 ?_) | apply (zs68 ?_) | apply (zs69 ?_) | apply (zs70 ?_) | fail)
    first | apply Ya Y8 | apply Yb Y8
    exact za
    exact rfl
    exact fun _ hw => (p1 (hn.mono zk) hw)
    repeat' (first | apply (zs1 ?_) | (apply zg1; refine zs4 ?_) | (apply zg3; refine zs8 ?_) | (apply zg8; (refine zs16 ?_ ?_ <;> intro _ <;> try (exfalso; omega))) | fail)
    first | apply Ya Ou | apply Yb Ou
    exact za
    exact rfl
    exact fun _ hw => (p2 (hs.mono zk) hw)
    repeat' (first | apply (zs1 ?_) | (apply zg1; refine zs4 ?_) | (apply zg2; refine zs6 ?_) | (apply zg3; first | refine zs7 ?_ | refine zs8 ?_) | (apply zg6; refine zs12 ?_) | (apply zg20; refine zs47 ?_) | fail)
    first | apply Ya Jz | apply Yb Jz
    exact za
    exact rfl
    exact fun _ hw => (p5 hw)
    repeat' (first | apply (zs2 ?_) | (apply zg1; refine zs4 ?_) | (apply zg2; refine zs6 ?_) | (apply zg3; refine zs7 ?_) | (apply zg6; refine zs12 ?_) | (apply zg8; (refine zs16 ?_ ?_ <;> intro _ <;> try (exfalso; omega))) | (apply zg17; refine zs37 ?_) | apply (zs65 ?_) | apply (zs68 ?_) | apply (zs69 ?_) | apply (zs70 ?_) | (apply zg27; first | refine zs71 ?_ | refine zs72 ?_) | apply (zs74 ?_) | apply (zs76 ?_) | apply (zs77 ?_) | fail)
    apply Yi H
    · exact zk
    apply Yd; exact rfl; exact rfl; exact ⟨rfl, rfl⟩
  rw [if_neg (fun e => e h4)]
  repeat' (first | apply (zs2 ?_) | (apply zg3; refine zs8 ?_) | (apply zg23; (refine zs52 ?_; intro _)) | apply (zs65 ?_) | apply (zs68 ?_) | apply (zs69 ?_) | apply (zs70 ?_) | fail)
  first | apply Ya Y8 | apply Yb Y8
  exact za
  exact rfl
  exact fun _ hw => (p1 (hn.mono zk) hw)
  repeat' (first | apply (zs1 ?_) | (apply zg1; refine zs4 ?_) | (apply zg3; refine zs8 ?_) | (apply zg8; (refine zs16 ?_ ?_ <;> intro _ <;> try (exfalso; omega))) | fail)
  first | apply Ya Ou | apply Yb Ou
  exact za
  exact rfl
  exact fun _ hw => (p2 (hs.mono zk) hw)
  repeat' (first | apply (zs1 ?_) | (apply zg1; refine zs4 ?_) | (apply zg2; refine zs6 ?_) | (apply zg3; first | refine zs7 ?_ | refine zs8 ?_) | (apply zg6; refine zs12 ?_) | (apply zg20; refine zs47 ?_) | fail)
  first | apply Ya Jz | apply Yb Jz
  exact za
  exact rfl
  exact fun _ hw => (p5 hw)
  repeat' (first | apply (zs1 ?_) | (apply zg1; refine zs4 ?_) | (apply zg2; refine zs6 ?_) | (apply zg3; first | refine zs7 ?_ | refine zs8 ?_) | (apply zg6; refine zs12 ?_) | (apply zg8; (refine zs16 ?_ ?_ <;> intro _ <;> try (exfalso; omega))) | (apply zg17; refine zs37 ?_) | apply (zs65 ?_) | apply (zs68 ?_) | apply (zs69 ?_) | apply (zs70 ?_) | (apply zg27; refine zs72 ?_) | apply (zs76 ?_) | fail)
  first | apply Ya Yba | apply Yb Yba
  exact za
  exact rfl
  exact fun _ hw => (p4 (hn.mono zk) (hr.mono zk) hw)
  repeat' (first | apply (zs2 ?_) | apply (zs65 ?_) | apply (zs68 ?_) | apply (zs74 ?_) | fail)
  apply Yi H
  · exact zk
  apply Yd; exact rfl; exact rfl; exact ⟨rfl, rfl⟩
set_option maxRecDepth 10000 in
set_option maxHeartbeats 4000000 in
theorem YaS (x : WayM) {B : Nat} {w0 : World} {H : List HP} {w : World} (hi : x.In B w0 H) (hw : St B w0 H w) :
    Calls Tryz.prog 128 [x.n.val, x.s.val, flwV x.f, .slice x.A x.r.length x.cap].toArray w (Post B w0 fun v K => ∃ A cap, v = .tuple #[.int .i64 (Y5 x.n.net x.s.sch x.f x.r).1.1, .int .i64 (Y5 x.n.net x.s.sch x.f x.r).1.2.1, .slice A (Y5 x.n.net x.s.sch x.f x.r).1.2.2.length cap, .int .i64 (Y5 x.n.net x.s.sch x.f x.r).2] ∧ K = nrs A cap (Y5 x.n.net x.s.sch x.f x.r).1.2.2 :: H) := by
  refine Yc Tryz.func128 Tryz.ntmps128 rfl rfl hw ?_
  have p1 := fun {H' : List HP} {w : World} (hi : x.In B w0 H') (hw : St B w0 H' w) => YaP x hi hw
  obtain ⟨R, hR⟩ : ∃ R, Y5 x.n.net x.s.sch x.f x.r = R := ⟨_, rfl⟩
  rw [hR]
  unfold Y5 at hR
  obtain ⟨e, he⟩ : ∃ e, wayE x.n.net x.s.sch x.f x.r = e := ⟨_, rfl⟩
  rw [he] at p1 hR
  have p3 := fun (hok : Z6 x) {H' : List HP} {w : World} (hi : x.In B w0 H') (hw : St B w0 H' w) => Yev x hok hi hw
  unfold NetM.val SchM.val flwV
  unfold NetM.val SchM.val flwV at p1 p3
  by_cases h0 : e = 0
  rotate_left
  · rw [if_pos h0] at hR
    subst hR
    repeat' (first | apply (zs1 ?_) | apply (zs2 ?_) | (apply zg3; refine zs8 ?_) | (apply zg23; (refine zs52 ?_; intro _)) | apply (zs65 ?_) | apply (zs68 ?_) | apply (zs69 ?_) | apply (zs70 ?_) | fail)
    first | apply Ya Ybg | apply Yb Ybg
    exact za
    exact rfl
    exact fun _ hw => (p1 (hi.mono zk) hw)
    repeat' (first | apply (zs1 ?_) | apply (zs2 ?_) | (apply zg8; (refine zs16 ?_ ?_ <;> intro _ <;> try (exfalso; omega))) | apply (zs65 ?_) | apply (zs68 ?_) | apply (zs69 ?_) | apply (zs70 ?_) | (apply zg27; refine zs71 ?_) | apply (zs74 ?_) | apply (zs77 ?_) | fail)
    apply Yi (nrs none 0 [] :: H)
    · intro w hw
      have h5 : St B w0 H w := by
        revert w
        exact zk
      exact h5.nilSlice _ _
    apply ZQ; exact rfl; exact rfl; exact rfl; exact rfl; exact rfl
    exact ⟨none, 0, rfl, rfl⟩
  subst h0
  rw [if_neg (fun h => h rfl)] at hR
  have hok := Qh he
  have p2 := fun {H' : List HP} {w : World} (hi : x.In B w0 H') (hw : St B w0 H' w) => p3 hok hi hw
  unfold XY at p2
  cases hb : Jo x.n.net x.s.sch x.f x.r with
  | none =>
    rw [hb] at hR p2
    dsimp only [Vb] at hR p2
    subst hR
    repeat' (first | apply (zs1 ?_) | apply (zs2 ?_) | (apply zg3; refine zs8 ?_) | (apply zg23; (refine zs52 ?_; intro _)) | apply (zs65 ?_) | apply (zs68 ?_) | apply (zs69 ?_) | apply (zs70 ?_) | fail)
    first | apply Ya Ybg | apply Yb Ybg
    exact za
    exact rfl
    exact fun _ hw => (p1 (hi.mono zk) hw)
    repeat' (first | apply (zs1 ?_) | apply (zs2 ?_) | (apply zg3; refine zs8 ?_) | (apply zg8; (refine zs16 ?_ ?_ <;> intro _ <;> try (exfalso; omega))) | apply (zs65 ?_) | apply (zs68 ?_) | apply (zs69 ?_) | apply (zs70 ?_) | (apply zg27; refine zs72 ?_) | apply (zs76 ?_) | fail)
    apply Yq _ YiR
    exact za
    exact rfl
    exact fun _ hw => (p2 (hi.mono zk) (hw))
    rintro _ _ ⟨A2, cap2, rfl, rfl⟩
    repeat' (first | apply (zs1 ?_) | apply (zs2 ?_) | apply (zs13 ?_) | (apply zg20; refine zs48 ?_) | apply (zs65 ?_) | apply (zs68 ?_) | apply (zs69 ?_) | apply (zs70 ?_) | (apply zg27; refine zs71 ?_) | apply (zs74 ?_) | apply (zs77 ?_) | fail)
    apply Yi (nrs none 0 [] :: H)
    · intro w hw
      have h5 : St B w0 H w := by
        revert w
        exact zk
      exact h5.nilSlice _ _
    apply ZQ; exact rfl; exact rfl; exact rfl; exact rfl; exact rfl
    exact ⟨none, 0, rfl, rfl⟩
  | some b =>
    rw [hb] at hR p2
    dsimp only [Vb] at hR p2
    subst hR
    repeat' (first | apply (zs1 ?_) | apply (zs2 ?_) | (apply zg3; refine zs8 ?_) | (apply zg23; (refine zs52 ?_; intro _)) | apply (zs65 ?_) | apply (zs68 ?_) | apply (zs69 ?_) | apply (zs70 ?_) | fail)
    first | apply Ya Ybg | apply Yb Ybg
    exact za
    exact rfl
    exact fun _ hw => (p1 (hi.mono zk) hw)
    repeat' (first | apply (zs1 ?_) | apply (zs2 ?_) | (apply zg3; refine zs8 ?_) | (apply zg8; (refine zs16 ?_ ?_ <;> intro _ <;> try (exfalso; omega))) | apply (zs65 ?_) | apply (zs68 ?_) | apply (zs69 ?_) | apply (zs70 ?_) | (apply zg27; refine zs72 ?_) | apply (zs76 ?_) | fail)
    apply Yq _ YiR
    exact za
    exact rfl
    exact fun _ hw => (p2 (hi.mono zk) (hw))
    rintro _ _ ⟨A2, cap2, rfl, rfl⟩
    repeat' (first | apply (zs1 ?_) | apply (zs2 ?_) | apply (zs13 ?_) | (apply zg20; refine zs47 ?_) | apply (zs65 ?_) | apply (zs68 ?_) | apply (zs69 ?_) | apply (zs70 ?_) | (apply zg27; refine zs72 ?_) | apply (zs74 ?_) | apply (zs76 ?_) | fail)
    apply Yi (nrs A2 cap2 b.2.2 :: H)
    · exact zk
    apply ZQ; exact rfl; exact rfl; exact rfl; exact rfl; exact rfl
    exact ⟨A2, cap2, rfl, rfl⟩
open Go.RowKit Go.Eng Go.Nw Go.Rt
set_option maxRecDepth 10000 in
set_option maxHeartbeats 8000000 in
theorem YaQ (n : NetM) (q : List RqM) {A : Option Addr} {cap B : Nat} {w0 : World} {H : List HP} {w : World} (hin : n.In B w0 H) (hq : QIn B w0 H A q) (hw : St B w0 H w) :
    Calls Tryz.prog 70 [n.val, .slice A q.length cap].toArray w (Post B w0 fun v K => v = .tuple #[.int .i64 (rqsE n.net (q.map RqM.rq)).1, .int .i64 (rqsE n.net (q.map RqM.rq)).2] ∧ K = H) := by
  refine Yc Tryz.func70 Tryz.ntmps70 rfl rfl hw ?_
  have hql := hq.ln
  have hqr := hq.rd
  have p1 := fun {H' : List HP} {w : World} (hin : n.In B w0 H') (hw : St B w0 H' w) => ZY n hin hw
  have p2 := fun {H' : List HP} {w : World} (hq : QIn B w0 H' A q) (hw : St B w0 H' w) => OH q (cap := cap) hql hq.rd hw
  have p3 := fun {A2 : Option Addr} {cap2 : Nat} {H' : List HP} {w : World} (hr : Rd B w0 H' A2 ((RqM.fl q).flatMap flwF)) (hw : St B w0 H' w) => Zr n.nodes (RqM.fl q) (by unfold RqM.fl; rw [List.length_map]; omega) (cap := cap2) hr hw
  have p5 := fun (x : RqM) (r : RowM) (hr : r ∈ x.rows) {H' : List HP} {w : World} (hin : n.In B w0 H') (hx : x.In B w0 H') (hw : St B w0 H' w) => OF n x.f.2.1 x.f.2.2.1 r.xs (cap := r.cap) hin (hx.rw_ r hr) (hx.rl r hr).1 hw
  have p6 := fun (x : RqM) (r s : RowM) (hr : r ∈ x.rows) (hs : s ∈ x.rows) {H' : List HP} {w : World} (hx : x.In B w0 H') (hw : St B w0 H' w) => XP r.xs s.xs (cap := r.cap) (cap2 := s.cap) (hx.rl r hr).1 (hx.rl s hs).1 (hx.rw_ r hr) (hx.rw_ s hs) hw
  unfold rqsE
  rw [← Ybm, List.length_map]
  rw [show n.net.nodes = n.nodes from rfl]
  obtain ⟨c, hc⟩ : ∃ c, YA n.net = c := ⟨_, rfl⟩
  obtain ⟨⟨fi, fe⟩, hf⟩ : ∃ f, YN n.nodes (RqM.fl q) = f := ⟨_, rfl⟩
  obtain ⟨F, hF⟩ : ∃ F, (fun i => rtsE n.net (rqAt (q.map RqM.rq) i)) = F := ⟨_, rfl⟩
  rw [hc] at p1 ⊢
  rw [hf] at p3 ⊢
  rw [hF]
  dsimp only at p3 ⊢
  have hFv : ∀ {k : Nat} {x : RqM}, q[k]? = some x → F k = rtsE n.net x.rq := fun h => by rw [← hF]; show rtsE _ _ = _; rw [J3 h]
  unfold NetM.val
  unfold NetM.val at p1 p5
  by_cases h0 : c = 0
  rotate_left
  · rw [if_pos h0]
    repeat' (first | ((first | apply Ya Y8 | apply Yb Y8); exact za; exact rfl; exact fun _ hw => (p1 hin.cons hw)) | apply (zs2 ?_) | (apply zg3; refine zs8 ?_) | (apply zg8; (refine zs16 ?_ ?_ <;> intro _ <;> try (exfalso; omega))) | (apply zg23; (refine zs52 ?_; intro _)) | apply (zs65 ?_) | apply (zs68 ?_) | apply (zs69 ?_) | apply (zs70 ?_) | (apply zg27; refine zs71 ?_) | apply (zs74 ?_) | apply (zs77 ?_) | fail)
    apply Yi H
    · exact zk
    apply Yp; exact rfl; exact rfl; exact rfl; exact ⟨rfl, rfl⟩
  subst h0
  rw [if_neg (fun e => e rfl)]
  by_cases h1 : fe = 0
  rotate_left
  · rw [if_pos h1]
    repeat' (first | ((first | apply Ya Y8 | apply Yb Y8); exact za; exact rfl; exact fun _ hw => (p1 hin.cons hw)) | apply (zs2 ?_) | (apply zg3; refine zs8 ?_) | (apply zg8; (refine zs16 ?_ ?_ <;> intro _ <;> try (exfalso; omega))) | (apply zg23; (refine zs52 ?_; intro _)) | apply (zs65 ?_) | apply (zs68 ?_) | apply (zs69 ?_) | apply (zs70 ?_) | (apply zg27; refine zs72 ?_) | apply (zs76 ?_) | fail)
    apply XD [0, 1, 2, 3, 4, 5, 6, 7, 8, 9] [] [true]
    kernel_rfl
    kernel_rfl
    exact zy
    (simp only [Yk, nthO]; rfl)
    exact rfl
    repeat' (first | apply (zs1 ?_) | (apply zg2; refine zs6 ?_) | (apply zg3; refine zs7 ?_) | apply (zs87 ?_) | fail)
    apply Yq _ en32
    exact za
    exact rfl
    exact fun _ hw => (p2 (hq.mono zk) (hw))
    rintro _ _ ⟨A2, cap2, rfl, rfl⟩
    repeat' (first | apply (zs65 ?_) | apply (zs87 ?_) | (apply Yl; (repeat (first | with_reducible exact Yh | (with_reducible apply Yf; (repeat (first | with_reducible exact Yg | with_reducible apply Ye)))))) | fail)
    first | apply Ya Vz | apply Yb Vz
    exact za
    exact rfl
    exact fun _ hw => (p3 (Rd.sl zm) hw)
    repeat' (first | apply (zs1 ?_) | apply (zs2 ?_) | apply (zs13 ?_) | (apply zg8; (refine zs16 ?_ ?_ <;> intro _ <;> try (exfalso; omega))) | apply (zs65 ?_) | (apply Yo; exact zp) | apply (zs68 ?_) | apply (zs69 ?_) | apply (zs70 ?_) | (apply zg27; refine zs71 ?_) | apply (zs74 ?_) | apply (zs77 ?_) | (apply Yl; (repeat (first | with_reducible exact Yh | (with_reducible apply Yf; (repeat (first | with_reducible exact Yg | with_reducible apply Ye)))))) | apply (zs93 ?_) | apply (zs94 ?_) | fail)
    apply Yi H
    · exact zk
    apply Yp; exact rfl; exact rfl; exact rfl; exact ⟨rfl, rfl⟩
  subst h1
  rw [if_neg (fun e => e rfl)]
  repeat' (first | ((first | apply Ya Y8 | apply Yb Y8); exact za; exact rfl; exact fun _ hw => (p1 hin.cons hw)) | apply (zs2 ?_) | (apply zg3; refine zs8 ?_) | (apply zg8; (refine zs16 ?_ ?_ <;> intro _ <;> try (exfalso; omega))) | (apply zg23; (refine zs52 ?_; intro _)) | apply (zs65 ?_) | apply (zs68 ?_) | apply (zs69 ?_) | apply (zs70 ?_) | (apply zg27; refine zs72 ?_) | apply (zs76 ?_) | fail)
  first | (rename_i gn; guard_hyp gn : Nat) | (rename_i gn _; guard_hyp gn : Nat) | (rename_i gn _ _; guard_hyp gn : Nat)
  apply XD [0, 1, 2, 3, 4, 5, 6, 7, 8, 9] [] [true]
  kernel_rfl
  kernel_rfl
  exact zy
  (simp only [Yk, nthO]; rfl)
  exact rfl
  repeat' (first | apply (zs1 ?_) | (apply zg2; refine zs6 ?_) | (apply zg3; refine zs7 ?_) | apply (zs87 ?_) | fail)
  apply Yq _ en32
  exact za
  exact rfl
  exact fun _ hw => (p2 (hq.mono zk) (hw))
  rintro _ _ ⟨A2, cap2, rfl, rfl⟩
  repeat' (first | apply (zs65 ?_) | apply (zs87 ?_) | (apply Yl; (repeat (first | with_reducible exact Yh | (with_reducible apply Yf; (repeat (first | with_reducible exact Yg | with_reducible apply Ye)))))) | fail)
  first | apply Ya Vz | apply Yb Vz
  exact za
  exact rfl
  exact fun _ hw => (p3 (Rd.sl zm) hw)
  repeat' (first | apply (zs1 ?_) | apply (zs2 ?_) | apply (zs13 ?_) | (apply zg8; (refine zs16 ?_ ?_ <;> intro _ <;> try (exfalso; omega))) | apply (zs65 ?_) | (apply Yo; exact zp) | apply (zs68 ?_) | apply (zs69 ?_) | apply (zs70 ?_) | (apply zg27; refine zs72 ?_) | apply (zs73 ?_) | apply (zs76 ?_) | (apply Yl; (repeat (first | with_reducible exact Yh | (with_reducible apply Yf; (repeat (first | with_reducible exact Yg | with_reducible apply Ye)))))) | apply (zs93 ?_) | apply (zs94 ?_) | fail)
  refine Yj (fun k : Nat => [(8, .int .i64 (k : Nat)), (1, .slice A q.length cap), (2, .pointer (some ⟨gn, 0, none⟩))]) (fun _ => netA gn n :: H) (fun k => k ≤ q.length ∧ ∀ j, 0 ≤ j → j < k → F j = 0) (fun k => q.length - k) 0 ⟨Nat.zero_le _, fun j _ h => absurd h (Nat.not_lt_zero _)⟩ ?_ ?_ ?_
  · exact zu
  · exact zk
  rintro k ⟨hk, hz⟩ K hK
  have hqr' : Rd B w0 (netA gn n :: H) A (q.flatMap rqF) := hqr.cons
  by_cases hlt : k < q.length
  rotate_left
  · obtain rfl : k = q.length := by omega
    have hfe := Y9 (f := F) (r := q.length) (i0 := 0) fun j h1 h2 => hz j h1 (by omega)
    rw [hfe]
    clear hK
    repeat' (first | apply (zs1 ?_) | apply (zs2 ?_) | (apply zg4; refine zs9 ?_) | (apply (zs17 ?_ ?_) <;> intro _ <;> try (exfalso; omega)) | apply (zs65 ?_) | apply (zs68 ?_) | apply (zs69 ?_) | apply (zs70 ?_) | (apply zg27; refine zs72 ?_) | apply (zs74 ?_) | apply (zs75 ?_) | apply (zs80 ?_) | apply (zs81 ?_) | fail)
    apply Yi H
    · exact zk
    apply Yp; exact rfl; exact rfl; exact rfl; exact ⟨rfl, rfl⟩
  obtain ⟨x, hx⟩ : ∃ x, q[k]? = some x := ⟨_, List.getElem?_eq_getElem hlt⟩
  have hxm := List.mem_of_getElem? hx
  have hFk := hFv hx
  have hxi := hq.x x hxm
  have hlx := hxi.ln
  have hln : x.rq.2.length = x.rows.length := by unfold RqM.rq; rw [List.length_map]
  have e1 : x.rq.1 = x.f := rfl
  have hbad : F k ≠ 0 → Yz F q.length 0 = ((k : Int), F k) := fun h => YV (f := F) (r := q.length) (i0 := 0) (i := k) (fun j h1 h2 => hz j h1 h2) (Nat.zero_le _) (by omega) h
  have hgo : F k = 0 → k + 1 ≤ q.length ∧ ∀ j, 0 ≤ j → j < k + 1 → F j = 0 := fun h => ⟨by omega, fun j h1 h2 => by
    rcases Nat.lt_succ_iff_lt_or_eq.1 h2 with h3 | rfl
    · exact hz j h1 h3
    · exact h⟩
  unfold rtsE at hFk
  rw [hln, e1] at hFk
  by_cases h0 : x.rows.length = 0
  · rw [if_pos h0] at hFk
    rw [hbad (by rw [hFk]; decide), hFk]
    clear hK
    repeat' (first | apply (zs1 ?_) | apply (zs2 ?_) | (apply zg2; refine zs58 ?_) | (apply zg3; refine zs59 ?_) | (apply zg4; refine zs9 ?_) | (apply zg5; refine zs57 ?_) | (apply zg7; (refine zs15 ?_ ?_ <;> intro _ <;> try (exfalso; omega))) | (apply (zs17 ?_ ?_) <;> intro _ <;> try (exfalso; omega)) | apply (zs65 ?_) | apply (zs68 ?_) | apply (zs69 ?_) | apply (zs70 ?_) | (apply zg27; refine zs71 ?_) | apply (zs73 ?_) | apply (zs74 ?_) | apply (zs76 ?_) | apply (zs77 ?_) | apply (zs78 ?_) | fail)
    apply Yi H
    · exact zk
    apply Yp; exact rfl; exact rfl; exact rfl; exact ⟨rfl, rfl⟩
  rw [if_neg h0] at hFk
  by_cases h2 : 2 < x.rows.length
  · rw [if_pos h2] at hFk
    rw [hbad (by rw [hFk]; decide), hFk]
    clear hK
    repeat' (first | apply (zs1 ?_) | apply (zs2 ?_) | (apply zg2; refine zs58 ?_) | (apply zg3; refine zs59 ?_) | (apply zg4; refine zs9 ?_) | (apply zg5; refine zs57 ?_) | (apply zg7; (refine zs15 ?_ ?_ <;> intro _ <;> try (exfalso; omega))) | (apply (zs17 ?_ ?_) <;> intro _ <;> try (exfalso; omega)) | (apply (zs19 ?_ ?_) <;> intro _ <;> try (exfalso; omega)) | apply (zs65 ?_) | apply (zs68 ?_) | apply (zs69 ?_) | apply (zs70 ?_) | (apply zg27; first | refine zs71 ?_ | refine zs72 ?_) | apply (zs73 ?_) | apply (zs74 ?_) | apply (zs76 ?_) | apply (zs77 ?_) | apply (zs78 ?_) | fail)
    apply Yi H
    · exact zk
    apply Yp; exact rfl; exact rfl; exact rfl; exact ⟨rfl, rfl⟩
  rw [if_neg h2] at hFk
  obtain ⟨G, hG⟩ : ∃ F, (fun k => XC n.net x.f.2.1 x.f.2.2.1 (rtAt x.rq.2 k)) = F := ⟨_, rfl⟩
  rw [hG] at hFk
  have hGv : ∀ {k : Nat} {r : RowM}, x.rows[k]? = some r → G k = XC n.net x.f.2.1 x.f.2.2.1 r.xs := fun h => by rw [← hG]; show XC _ _ _ _ = _; rw [J4 h]
  repeat' (first | apply (zs1 ?_) | apply (zs2 ?_) | (apply zg2; refine zs58 ?_) | (apply zg3; refine zs59 ?_) | (apply zg4; refine zs9 ?_) | (apply zg5; refine zs57 ?_) | (apply zg7; (refine zs15 ?_ ?_ <;> intro _ <;> try (exfalso; omega))) | (apply (zs17 ?_ ?_) <;> intro _ <;> try (exfalso; omega)) | (apply (zs19 ?_ ?_) <;> intro _ <;> try (exfalso; omega)) | apply (zs65 ?_) | apply (zs68 ?_) | apply (zs69 ?_) | apply (zs70 ?_) | (apply zg27; first | refine zs71 ?_ | refine zs72 ?_) | apply (zs73 ?_) | apply (zs76 ?_) | fail)
  refine Yj (fun j : Nat => [(10, .int .i64 (j : Nat)), (9, .slice x.A x.rows.length x.cap), (8, .int .i64 (k : Nat)), (1, .slice A q.length cap), (2, .pointer (some ⟨gn, 0, none⟩))]) (fun _ => netA gn n :: H) (fun j => j ≤ x.rows.length ∧ ∀ i, 0 ≤ i → i < j → G i = 0) (fun j => x.rows.length - j) 0 ⟨Nat.zero_le _, fun j _ h => absurd h (Nat.not_lt_zero _)⟩ ?_ (fun w hw => hw) ?_
  · exact zu
  rintro j ⟨hj, hzz⟩ K2 hK2
  have hrt : Rd B w0 (netA gn n :: H) x.A (x.rows.flatMap rowF) := hxi.rt.cons
  by_cases hjl : j < x.rows.length
  · obtain ⟨r, hr⟩ : ∃ r, x.rows[j]? = some r := ⟨_, List.getElem?_eq_getElem hjl⟩
    have hrm := List.mem_of_getElem? hr
    have hGj := hGv hr
    have p7 := fun {H' : List HP} {w : World} (hin : n.In B w0 H') (hx : x.In B w0 H') (hw : St B w0 H' w) => p5 x r hrm hin hx hw
    rw [← hGj] at p7
    clear hK
    by_cases hGz : G j = 0
    · rw [hGz] at p7
      repeat' (first | apply (zs1 ?_) | (apply zg4; refine zs9 ?_) | (apply (zs17 ?_ ?_) <;> intro _ <;> try (exfalso; omega)) | apply (zs65 ?_) | apply (zs68 ?_) | apply (zs69 ?_) | apply (zs70 ?_) | (apply zg27; refine zs71 ?_) | apply (zs73 ?_) | apply (zs76 ?_) | fail)
      apply YB [0, 1, 2, 3, 4, 5, 6, 7, 8, 9, 10, 11, 12, 13, 14, 15, 16, 17, 18] []
      kernel_rfl
      kernel_rfl
      (simp only [Yk, nthO]; rfl)
      exact rfl
      repeat' (first | apply (zs1 ?_) | (apply zg2; refine zs58 ?_) | (apply zg3; first | refine zs8 ?_ | refine zs59 ?_ | refine zs60 ?_) | (apply zg5; refine zs57 ?_) | apply (zs87 ?_) | fail)
      first | apply Ya Yba | apply Yb Yba
      exact za
      exact rfl
      exact fun _ hw => (p7 (hin.mono zk) (hxi.mono zk) hw)
      repeat' (first | apply (zs1 ?_) | apply (zs2 ?_) | (apply zg8; (refine zs16 ?_ ?_ <;> intro _ <;> try (exfalso; omega))) | (apply zg13; refine zs30 ?_) | apply (zs65 ?_) | (apply Yo; exact zp) | apply (zs68 ?_) | apply (zs69 ?_) | apply (zs70 ?_) | (apply zg27; refine zs72 ?_) | apply (zs76 ?_) | apply (zs79 ?_) | (apply Yl; (repeat (first | with_reducible exact Yh | (with_reducible apply Yf; (repeat (first | with_reducible exact Yg | with_reducible apply Ye)))))) | apply (zs93 ?_) | apply (zs94 ?_) | fail)
      all_goals (try exact ZJ _)
      repeat' (first | fail)
      apply hK2 (j + 1)
      · exact ⟨by omega, fun i h1 h2 => by
          rcases Nat.lt_succ_iff_lt_or_eq.1 h2 with h | rfl
          · exact hzz i h1 h
          · exact hGz⟩
      · omega
      · exact zu
      · exact zk
    · have hfe := YV (f := G) (r := x.rows.length) (i0 := 0) (i := j) (fun i h1 h2 => hzz i h1 h2) (Nat.zero_le _) (by omega) hGz
      rw [hfe, if_pos hGz] at hFk
      rw [hbad (by rw [hFk]; exact hGz), hFk]
      clear hK2
      repeat' (first | apply (zs1 ?_) | (apply zg4; refine zs9 ?_) | (apply (zs17 ?_ ?_) <;> intro _ <;> try (exfalso; omega)) | apply (zs65 ?_) | apply (zs68 ?_) | apply (zs69 ?_) | apply (zs70 ?_) | (apply zg27; refine zs71 ?_) | apply (zs73 ?_) | apply (zs76 ?_) | fail)
      apply YB [0, 1, 2, 3, 4, 5, 6, 7, 8, 9, 10, 11, 12, 13, 14, 15, 16, 17, 18] []
      kernel_rfl
      kernel_rfl
      (simp only [Yk, nthO]; rfl)
      exact rfl
      repeat' (first | apply (zs1 ?_) | (apply zg2; refine zs58 ?_) | (apply zg3; first | refine zs8 ?_ | refine zs59 ?_ | refine zs60 ?_) | (apply zg5; refine zs57 ?_) | apply (zs87 ?_) | fail)
      first | apply Ya Yba | apply Yb Yba
      exact za
      exact rfl
      exact fun _ hw => (p7 (hin.mono zk) (hxi.mono zk) hw)
      repeat' (first | apply (zs1 ?_) | apply (zs2 ?_) | (apply zg8; (refine zs16 ?_ ?_ <;> intro _ <;> try (exfalso; omega))) | apply (zs65 ?_) | (apply Yo; exact zp) | apply (zs68 ?_) | apply (zs69 ?_) | apply (zs70 ?_) | (apply zg27; refine zs71 ?_) | apply (zs74 ?_) | apply (zs77 ?_) | apply (zs78 ?_) | (apply Yl; (repeat (first | with_reducible exact Yh | (with_reducible apply Yf; (repeat (first | with_reducible exact Yg | with_reducible apply Ye)))))) | apply (zs93 ?_) | apply (zs94 ?_) | fail)
      all_goals (try exact ZJ _)
      repeat' (first | fail)
      apply Yi H
      · exact zk
      apply Yp; exact rfl; exact rfl; exact rfl; exact ⟨rfl, rfl⟩
  obtain rfl : j = x.rows.length := by omega
  have hfe := Y9 (f := G) (r := x.rows.length) (i0 := 0) fun i h1 h2 => hzz i h1 (by omega)
  rw [hfe, if_neg (fun e => e rfl)] at hFk
  clear hK2
  by_cases h3 : x.rows.length = 2
  rotate_left
  · rw [if_neg (fun e => h3 e.1)] at hFk
    repeat' (first | apply (zs1 ?_) | (apply zg4; refine zs9 ?_) | (apply (zs17 ?_ ?_) <;> intro _ <;> try (exfalso; omega)) | apply (zs65 ?_) | apply (zs68 ?_) | apply (zs69 ?_) | apply (zs70 ?_) | (apply zg27; refine zs72 ?_) | apply (zs75 ?_) | apply (zs80 ?_) | apply (zs81 ?_) | fail)
    apply YB [0, 1, 2, 3, 4, 5, 6, 7, 8, 9, 10, 11] []
    kernel_rfl
    kernel_rfl
    (simp only [Yk, nthO]; rfl)
    exact rfl
    repeat' (first | apply (zs1 ?_) | apply (zs2 ?_) | (apply zg1; refine zs3 ?_) | (apply zg4; refine zs9 ?_) | (apply zg6; refine zs12 ?_) | (apply zg7; (refine zs15 ?_ ?_ <;> intro _ <;> try (exfalso; omega))) | (apply zg13; refine zs30 ?_) | apply (zs65 ?_) | (apply Yo; exact zp) | apply (zs68 ?_) | apply (zs70 ?_) | (apply zg27; refine zs72 ?_) | apply (zs76 ?_) | apply (zs79 ?_) | apply (zs93 ?_) | apply (zs94 ?_) | fail)
    all_goals (try exact ZJ _)
    repeat' (first | fail)
    apply hK (k + 1)
    · exact hgo hFk
    · omega
    · exact zu
    · exact zk
  obtain ⟨r0, hr0⟩ : ∃ r, x.rows[0]? = some r := ⟨_, List.getElem?_eq_getElem (by omega)⟩
  obtain ⟨r1, hr1⟩ : ∃ r, x.rows[1]? = some r := ⟨_, List.getElem?_eq_getElem (by omega)⟩
  rw [J4 hr0, J4 hr1] at hFk
  have p7 := fun {H' : List HP} {w : World} (hx : x.In B w0 H') (hw : St B w0 H' w) => p6 x r0 r1 (List.mem_of_getElem? hr0) (List.mem_of_getElem? hr1) hx hw
  by_cases heq : r0.xs = r1.xs
  · rw [if_pos ⟨h3, heq⟩] at hFk
    rw [decide_eq_true heq] at p7
    rw [hbad (by rw [hFk]; decide), hFk]
    clear hK
    repeat' (first | apply (zs1 ?_) | (apply zg4; refine zs9 ?_) | (apply (zs17 ?_ ?_) <;> intro _ <;> try (exfalso; omega)) | apply (zs65 ?_) | apply (zs68 ?_) | apply (zs69 ?_) | apply (zs70 ?_) | (apply zg27; refine zs72 ?_) | apply (zs75 ?_) | apply (zs80 ?_) | apply (zs81 ?_) | fail)
    apply YB [0, 1, 2, 3, 4, 5, 6, 7, 8, 9, 10, 11] []
    kernel_rfl
    kernel_rfl
    (simp only [Yk, nthO]; rfl)
    exact rfl
    repeat' (first | apply (zs1 ?_) | (apply zg1; refine zs4 ?_) | (apply zg3; refine zs60 ?_) | (apply zg4; refine zs9 ?_) | (apply zg5; refine zs57 ?_) | (apply zg7; (refine zs15 ?_ ?_ <;> intro _ <;> try (exfalso; omega))) | apply (zs87 ?_) | fail)
    first | apply Ya Xr | apply Yb Xr
    exact za
    exact rfl
    exact fun _ hw => (p7 (hxi.mono zk) hw)
    repeat' (first | apply (zs1 ?_) | apply (zs2 ?_) | (apply zg6; refine zs11 ?_) | apply (zs65 ?_) | (apply Yo; exact zp) | apply (zs68 ?_) | apply (zs69 ?_) | apply (zs70 ?_) | (apply zg27; refine zs71 ?_) | apply (zs74 ?_) | apply (zs77 ?_) | apply (zs78 ?_) | (apply Yl; (repeat (first | with_reducible exact Yh | (with_reducible apply Yf; (repeat (first | with_reducible exact Yg | with_reducible apply Ye)))))) | apply (zs93 ?_) | apply (zs94 ?_) | fail)
    all_goals (try exact ZJ _)
    repeat' (first | fail)
    apply Yi H
    · exact zk
    apply Yp; exact rfl; exact rfl; exact rfl; exact ⟨rfl, rfl⟩
  · rw [if_neg (fun e => heq e.2)] at hFk
    rw [decide_eq_false heq] at p7
    repeat' (first | apply (zs1 ?_) | (apply zg4; refine zs9 ?_) | (apply (zs17 ?_ ?_) <;> intro _ <;> try (exfalso; omega)) | apply (zs65 ?_) | apply (zs68 ?_) | apply (zs69 ?_) | apply (zs70 ?_) | (apply zg27; refine zs72 ?_) | apply (zs75 ?_) | apply (zs80 ?_) | apply (zs81 ?_) | fail)
    apply YB [0, 1, 2, 3, 4, 5, 6, 7, 8, 9, 10, 11] []
    kernel_rfl
    kernel_rfl
    (simp only [Yk, nthO]; rfl)
    exact rfl
    repeat' (first | apply (zs1 ?_) | (apply zg1; refine zs4 ?_) | (apply zg3; refine zs60 ?_) | (apply zg4; refine zs9 ?_) | (apply zg5; refine zs57 ?_) | (apply zg7; (refine zs15 ?_ ?_ <;> intro _ <;> try (exfalso; omega))) | apply (zs87 ?_) | fail)
    first | apply Ya Xr | apply Yb Xr
    exact za
    exact rfl
    exact fun _ hw => (p7 (hxi.mono zk) hw)
    repeat' (first | apply (zs1 ?_) | apply (zs2 ?_) | (apply zg6; refine zs11 ?_) | (apply zg13; refine zs30 ?_) | apply (zs65 ?_) | (apply Yo; exact zp) | apply (zs68 ?_) | apply (zs70 ?_) | (apply zg27; refine zs72 ?_) | apply (zs76 ?_) | apply (zs79 ?_) | (apply Yl; (repeat (first | with_reducible exact Yh | (with_reducible apply Yf; (repeat (first | with_reducible exact Yg | with_reducible apply Ye)))))) | apply (zs93 ?_) | apply (zs94 ?_) | fail)
    all_goals (try exact ZJ _)
    repeat' (first | fail)
    apply hK (k + 1)
    · exact hgo hFk
    · omega
    · exact zu
    · exact zk
open Go.RowKit Go.Eng Go.Nw Go.Rt
set_option maxRecDepth 10000 in
set_option maxHeartbeats 8000000 in
theorem Ydx (n : NetM) (s : SchM) (x : RqM) {B : Nat} {w0 : World} {H : List HP} {w : World} (hin : n.In B w0 H) (hrs : Rd B w0 H s.A (s.cells.flatMap celF)) (hsl : s.cells.length ≤ 1000000000000) (hx : x.In B w0 H) (hr9 : x.rows.length ≤ 9) (hw : St B w0 H w) :
    Calls Tryz.prog 72 [n.val, rqV x, s.val].toArray w (Post B w0 fun v K => ∃ c : ClM, v = .tuple #[clV c, .bool (!(Zm n.net s.sch x.rq))] ∧ (Zm n.net s.sch x.rq = false → c.clm = clmE n.net s.sch x.rq ∧ c.lens) ∧ K = clQ c :: H) := by
  refine Yc Tryz.func72 Tryz.ntmps72 rfl rfl hw ?_
  have e1 : x.rq.1 = x.f := rfl
  have hop : ∀ w, St B w0 [many H] w → St B w0 H w := fun w hw => hw.perm (.openT H)
  have hin := hin.mono hop
  have hrs := hrs.mono hop
  have hx := hx.mono hop
  refine UZ [many H] (fun w hw => hw.perm (.closeT H)) ?_
  have p1 := fun {H' : List HP} {w : World} (r : RowM) (hr : r ∈ x.rows) (hin : n.In B w0 H') (hrs : Rd B w0 H' s.A (s.cells.flatMap celF)) (hx : x.In B w0 H') (hw : St B w0 H' w) => YaS ⟨n, s, x.f, r.A, r.cap, r.xs⟩ ⟨hin, hrs, hx.rw_ r hr, hsl, (hx.rl r hr).1, (hx.rl r hr).2⟩ hw
  dsimp only at p1
  unfold NetM.val SchM.val rqV
  unfold NetM.val SchM.val at p1
  repeat' (first | apply (zs2 ?_) | (apply zg2; refine zs6 ?_) | (apply zg3; refine zs7 ?_) | (apply zg22; refine zs51 ?_) | (apply zg23; (refine zs52 ?_; intro _)) | (apply zg24; (refine zs54 ?_; intro _)) | (apply zg25; refine zs55 ?_) | apply (zs65 ?_) | apply (zs68 ?_) | apply (zs69 ?_) | apply (zs70 ?_) | apply (zs73 ?_) | fail)
  rename_i g3 g4 g5 g6 g8
  have hln : x.rq.2 = x.rows.map (·.xs) := rfl
  obtain ⟨P, hP⟩ : ∃ P, badR n.net s.sch x.f = P := ⟨_, rfl⟩
  have hla : Zm n.net s.sch x.rq = (x.rows.map (·.xs)).any P := by unfold Zm; rw [hln, e1, hP]
  rw [hla]
  refine Yj (fun z : CkM => [(9, .int .i64 (z.i : Nat)), (8, .pointer (some ⟨g8, 0, none⟩)), (6, .pointer (some ⟨g6, 0, none⟩)), (5, .pointer (some ⟨g5, 0, none⟩)), (4, .pointer (some ⟨g4, 0, none⟩)), (3, .pointer (some ⟨g3, 0, none⟩))]) (fun z => clA g8 z.c :: clQ z.c :: clA g6 (nilC 0) :: schA g5 s :: rqA g4 x :: netA g3 n :: [many H])
    (fun z => z.i ≤ x.rows.length ∧ z.c.clm = Wh n.net s.sch x.rq ((x.rows.take z.i).map (·.xs)) ∧ z.c.lens ∧ ((x.rows.take z.i).map (·.xs)).any P = false) (fun z => x.rows.length - z.i) ⟨0, nilC x.f.1⟩ ⟨Nat.zero_le _, rfl, ⟨by unfold nilC; simp, by unfold nilC; simp, by unfold nilC; simp⟩, by simp⟩ ?_ ?_ ?_
  · exact zu
  · intro w hw
    have h1 := Ub x.f.1 hw
    have h2 : St B w0 (clQ (nilC x.f.1) :: clA g8 (nilC x.f.1) :: clA g6 (nilC 0) :: schA g5 s :: rqA g4 x :: netA g3 n :: [many H]) w := h1
    clear hw h1
    revert w
    exact zk
  rintro ⟨i, c⟩ ⟨hi, hcm, hlen, hno⟩ K hK
  dsimp only at hi hcm hlen hno ⊢
  have hrt : Rd B w0 (clA g8 c :: clQ c :: clA g6 (nilC 0) :: schA g5 s :: rqA g4 x :: netA g3 n :: [many H]) x.A (x.rows.flatMap rowF) := hx.rt.cons.cons.cons.cons.cons.cons
  by_cases hlt : i < x.rows.length
  rotate_left
  · obtain rfl : i = x.rows.length := by omega
    rw [List.take_length] at hcm hno
    rw [hno]
    clear hK
    repeat' (first | apply (zs1 ?_) | apply (zs2 ?_) | (apply zg2; refine zs6 ?_) | (apply zg3; first | refine zs7 ?_ | refine zs8 ?_) | (apply zg4; refine zs9 ?_) | (apply (zs17 ?_ ?_) <;> intro _ <;> try (exfalso; omega)) | (apply zg22; refine zs51 ?_) | apply (zs65 ?_) | apply (zs68 ?_) | apply (zs69 ?_) | apply (zs70 ?_) | (apply zg27; refine zs72 ?_) | apply (zs74 ?_) | apply (zs75 ?_) | apply (zs80 ?_) | apply (zs81 ?_) | fail)
    apply U5 T (H2 := clQ c :: H); exact rfl; exact rfl; exact rfl; exact zm; exact rfl; exact rfl
    · intro w hw
      have h5 : St B w0 (clQ c :: [many H]) w := by
        revert w
        exact zk
      exact h5.perm (.cons _ (.openT H))
    exact ⟨c, rfl, fun _ => ⟨hcm, hlen⟩, rfl⟩
  obtain ⟨r, hr⟩ : ∃ r, x.rows[i]? = some r := ⟨_, List.getElem?_eq_getElem hlt⟩
  have hrm := List.mem_of_getElem? hr
  have hri := hx.rw_ r hrm
  have p2 := fun {H' : List HP} {w : World} (hin : n.In B w0 H') (hrs : Rd B w0 H' s.A (s.cells.flatMap celF)) (hx : x.In B w0 H') (hw : St B w0 H' w) => p1 r hrm hin hrs hx hw
  try dsimp only at p2
  obtain ⟨⟨⟨m, wst, sx⟩, e⟩, hRt⟩ : ∃ z, Y5 n.net s.sch x.f r.xs = z := ⟨_, rfl⟩
  rw [hRt] at p2
  try dsimp only at p2
  unfold flwV at p2
  repeat' (first | apply (zs1 ?_) | (apply zg2; refine zs6 ?_) | (apply zg3; refine zs7 ?_) | (apply zg4; refine zs9 ?_) | (apply (zs17 ?_ ?_) <;> intro _ <;> try (exfalso; omega)) | apply (zs65 ?_) | apply (zs68 ?_) | apply (zs69 ?_) | apply (zs70 ?_) | (apply zg27; refine zs71 ?_) | apply (zs73 ?_) | apply (zs76 ?_) | fail)
  apply YB [0, 1, 2, 3, 4, 5, 6, 7, 8, 9, 10, 11, 12, 13, 14, 15, 16, 17, 18] []
  kernel_rfl
  kernel_rfl
  (simp only [Yk, nthO]; rfl)
  exact rfl
  repeat' (first | (apply Xh T; exact rfl; exact zm; exact rfl; exact zv; exact rfl; exact rfl) | apply (zs1 ?_) | (apply zg2; refine zs6 ?_) | (apply zg3; first | refine zs7 ?_ | refine zs60 ?_) | (apply zg5; refine zs57 ?_) | apply (zs87 ?_) | fail)
  apply Yq _ YjI
  exact za
  exact rfl
  exact fun _ hw => (p2 (hin.mono zk) (hrs.mono zk) (hx.mono zk) (hw))
  rintro _ _ ⟨A2, cap2, rfl, rfl⟩
  have hPr : P r.xs = decide (e ≠ 0 ∨ x.f.2.2.2.2.2 < m) := by rw [← hP]; unfold badR; rw [hRt]
  by_cases hbad : e ≠ 0 ∨ x.f.2.2.2.2.2 < m
  · rw [decide_eq_true hbad] at hPr
    have hany : (x.rows.map (·.xs)).any P = true := List.any_eq_true.2 ⟨r.xs, List.mem_map_of_mem hrm, hPr⟩
    rw [hany]
    clear hK
    by_cases he0 : e = 0
    all_goals (
      repeat' (first | apply (zs1 ?_) | apply (zs2 ?_) | (apply zg1; first | refine zs3 ?_ | refine zs4 ?_) | (apply zg2; refine zs6 ?_) | (apply zg3; refine zs7 ?_) | (apply zg6; first | refine zs11 ?_ | refine zs12 ?_) | apply (zs13 ?_) | (apply zg8; (refine zs16 ?_ ?_ <;> intro _ <;> try (exfalso; omega))) | (apply (zs19 ?_ ?_) <;> intro _ <;> try (exfalso; omega)) | (apply zg22; refine zs51 ?_) | (apply zg25; refine zs55 ?_) | apply (zs65 ?_) | (apply Yo; exact zp) | apply (zs68 ?_) | apply (zs69 ?_) | apply (zs70 ?_) | (apply zg27; refine zs71 ?_) | apply (zs74 ?_) | apply (zs77 ?_) | apply (zs78 ?_) | (apply Yl; (repeat (first | with_reducible exact Yh | (with_reducible apply Yf; (repeat (first | with_reducible exact Yg | with_reducible apply Ye)))))) | apply (zs93 ?_) | apply (zs94 ?_) | fail)
      all_goals (try exact ZJ _)
      repeat' (first | fail)
      apply U5 T (H2 := clQ (nilC 0) :: H); exact rfl; exact rfl; exact rfl; exact zm; exact rfl; exact rfl
      · intro w hw
        have h5 : St B w0 [many H] w := by
          revert w
          exact zk
        exact Ub 0 (h5.perm (.openT H))
      exact ⟨nilC 0, rfl, (fun h => by cases h), rfl⟩)
  rw [decide_eq_false hbad] at hPr
  have he0 : e = 0 := Decidable.byContradiction fun h => hbad (.inl h)
  have hml : m ≤ x.f.2.2.2.2.2 := by omega
  subst he0
  obtain ⟨hri9, hsx9⟩ : r.xs.length ≤ 9 ∧ sx.length ≤ 72 := by
    have h0 : (Y5 n.net s.sch x.f r.xs).2 = 0 := by rw [hRt]
    obtain ⟨h1, b, h2, h3⟩ := YdB h0
    have hok := Qh (x := ⟨n, s, x.f, r.A, r.cap, r.xs⟩) h1
    have h4 := Ya5 hok h2
    rw [hRt] at h3
    injection h3 with h3 _
    rw [← h3] at h4
    exact ⟨hok.len.2, h4⟩
  have hinv : ∀ (A1 : Option Addr) (c1 : Nat) (r8 : RowM) (_ : r8.xs = r.xs) (A3 : Option Addr) (c3 : Nat) (A4 : Option Addr) (c4 : Nat) (A5 : Option Addr) (c5 : Nat), (i + 1 ≤ x.rows.length ∧ (ClM.mk c.flow A1 c1 (c.rs ++ [r8]) A3 c3 (c.bs ++ [m]) A4 c4 (c.ws ++ [wst]) A5 c5 (c.ss ++ [⟨A2, cap2, sx⟩])).clm = Wh n.net s.sch x.rq ((x.rows.take (i + 1)).map (·.xs)) ∧ (ClM.mk c.flow A1 c1 (c.rs ++ [r8]) A3 c3 (c.bs ++ [m]) A4 c4 (c.ws ++ [wst]) A5 c5 (c.ss ++ [⟨A2, cap2, sx⟩])).lens ∧ ((x.rows.take (i + 1)).map (·.xs)).any P = false) := by
    intro A1 c1 r8 hr8 A3 c3 A4 c4 A5 c5
    have hst : (x.rows.take (i + 1)).map (·.xs) = (x.rows.take i).map (·.xs) ++ [r.xs] := by
      rw [List.take_add_one, hr, Option.toList_some, List.map_append]; rfl
    have hli : ((x.rows.take i).map (·.xs)).length = i := by rw [List.length_map, List.length_take]; omega
    rw [hst]
    unfold ClM.clm Wh at hcm
    injection hcm with f1 f2 f3 f4 f5
    have l1 : c.rs.length = i := by rw [← hli, ← f2, List.length_map]
    have l2 : c.bs.length = i := by rw [f3, List.length_map, hli]
    have l3 : c.ws.length = i := by rw [f4, List.length_map, hli]
    have l4 : c.ss.length = i := by
      have := congrArg List.length f5
      rw [List.length_map, List.length_map, hli] at this
      exact this
    refine ⟨by omega, ?_, ⟨?_, ?_, ?_⟩, ?_⟩
    · unfold ClM.clm Wh
      simp only [List.map_append, List.map_cons, List.map_nil, hr8, f1, f2, f3, f4, f5, e1, hRt]
    · simp only [List.length_append, List.length_cons, List.length_nil, l1, l2, l3, l4]
      omega
    · intro q hq
      rcases List.mem_append.1 hq with h | h
      · exact hlen.2.1 q h
      · rw [List.mem_singleton.1 h, hr8]; omega
    · intro q hq
      rcases List.mem_append.1 hq with h | h
      · exact hlen.2.2 q h
      · rw [List.mem_singleton.1 h]; show sx.length ≤ 1000; omega
    · rw [List.any_append, hno]
      simp [hPr]
  repeat' (first | apply (zs1 ?_) | apply (zs2 ?_) | (apply zg1; refine zs4 ?_) | (apply zg2; refine zs6 ?_) | (apply zg3; refine zs7 ?_) | (apply zg6; refine zs12 ?_) | apply (zs13 ?_) | (apply zg8; (refine zs16 ?_ ?_ <;> intro _ <;> try (exfalso; omega))) | (apply (zs19 ?_ ?_) <;> intro _ <;> try (exfalso; omega)) | apply (zs65 ?_) | (apply Yo; exact zp) | apply (zs68 ?_) | apply (zs69 ?_) | apply (zs70 ?_) | (apply zg27; refine zs72 ?_) | apply (zs76 ?_) | (apply Yl; (repeat (first | with_reducible exact Yh | (with_reducible apply Yf; (repeat (first | with_reducible exact Yg | with_reducible apply Ye)))))) | apply (zs93 ?_) | apply (zs94 ?_) | fail)
  all_goals (try exact ZJ _)
  repeat' (first | fail)
  refine UZ (nrs A2 cap2 sx :: clA g8 c :: sl 72 1 c.rA c.rs.length c.rcap (c.rs.flatMap rowF) :: many (c.rs.map rowQ) :: nrs c.bA c.bcap c.bs :: nrs c.wA c.wcap c.ws :: sl 24 1 c.sA c.ss.length c.scap (c.ss.flatMap rowF) :: many (c.ss.map rowQ) :: clA g6 (nilC 0) :: schA g5 s :: rqA g4 x :: netA g3 n :: [many H]) (fun w hw => ?_) ?_
  · have h5 : St B w0 (nrs A2 cap2 sx :: clA g8 c :: clQ c :: clA g6 (nilC 0) :: schA g5 s :: rqA g4 x :: netA g3 n :: [many H]) w := by
      revert w
      exact zk
    exact h5.perm (.cons _ (.cons _ (.open_ (clP c) _)))
  have hl1 := hlen.1
  have hr4 : Rd B w0 [rqA g4 x, many H] x.A (x.rows.flatMap rowF) := hx.rt.cons
  refine UY (fun z : M8 r.xs => [(9, .int .i64 (i : Nat)), (8, .pointer (some ⟨g8, 0, none⟩)), (6, .pointer (some ⟨g6, 0, none⟩)), (5, .pointer (some ⟨g5, 0, none⟩)), (4, .pointer (some ⟨g4, 0, none⟩)), (3, .pointer (some ⟨g3, 0, none⟩)), (12, .slice A2 sx.length cap2), (11, .int .i64 wst), (10, .int .i64 m)])
    (fun z => nrs A2 cap2 sx :: blk g8 (.cells #[.int .i64 c.flow, .slice z.A1 (c.rs ++ [z.r]).length z.c1, .slice c.bA c.bs.length c.bcap, .slice c.wA c.ws.length c.wcap, .slice c.sA c.ss.length c.scap] 61 (0, 0)) :: sl 72 1 z.A1 (c.rs ++ [z.r]).length z.c1 ((c.rs ++ [z.r]).flatMap rowF) :: many ((c.rs ++ [z.r]).map rowQ) :: nrs c.bA c.bcap c.bs :: nrs c.wA c.wcap c.ws :: sl 24 1 c.sA c.ss.length c.scap (c.ss.flatMap rowF) :: many (c.ss.map rowQ) :: clA g6 (nilC 0) :: schA g5 s :: rqA g4 x :: netA g3 n :: [many H]) ?_ ?_
  · intro K8 hK8
    apply XD [0, 1, 3, 4, 5, 6, 7, 2, 8, 9, 10, 11] [12] [false, true, false, false, false, false, false, false, false, false, true, false, true]
    kernel_rfl
    kernel_rfl
    exact zy
    (simp only [Yk, nthO]; rfl)
    (simp only [Yk, nthO]; rfl)
    have hr5 : Rd B w0 [clA g8 c, rqA g4 x, many H] x.A (x.rows.flatMap rowF) := hr4.cons
    repeat' (first | (apply YW T; exact rfl; exact rfl; intro g9) | (apply Jc T (f := numF) (l2 := r.xs) (e := 3) (size := 1) (xs := []); exact rfl; exact rfl; exact rfl; exact hri.mono zk; exact (fun _ => rfl); exact (fun _ => rfl); exact rfl; (intro _ _; exact zd); omega; intro A8 cap8) | apply (zs1 ?_) | (apply zg2; refine zs6 ?_) | (apply zg3; first | refine zs7 ?_ | refine zs60 ?_) | (apply zg5; refine zs57 ?_) | (apply zg21; (refine zs49 ?_; intro _ _)) | (apply zg22; refine zs50 ?_) | (apply zg26; (refine zs56 ?_; intro _)) | apply (zs65 ?_) | (apply Yo; exact zp) | apply (zs87 ?_) | (apply Yl; (repeat (first | with_reducible exact Yh | (with_reducible apply Yf; (repeat (first | with_reducible exact Yg | with_reducible apply Ye)))))) | apply (zs93 ?_) | apply (zs94 ?_) | fail)
    all_goals (
      rename_i A1 c1
      refine hK8 ⟨A1, c1, ⟨A8, cap8, r.xs⟩, rfl, none, 0⟩ _ _ zu ?_
      intro w hw
      rw [show 0 + r.xs.length = r.xs.length from Nat.zero_add _, List.nil_append] at hw
      have q1 : sl 72 1 A1 (c.rs.length + 1) c1 (c.rs.flatMap rowF ++ #[Value.slice A8 r.xs.length cap8].toList) = sl 72 1 A1 (c.rs ++ [(⟨A8, cap8, r.xs⟩ : RowM)]).length c1 ((c.rs ++ [(⟨A8, cap8, r.xs⟩ : RowM)]).flatMap rowF) := J2 _ _ _ _ ⟨A8, cap8, r.xs⟩
      rw [q1, show c.rs.length + 1 = (c.rs ++ [(⟨A8, cap8, r.xs⟩ : RowM)]).length by simp] at hw
      have h5 : St B w0 (nrs A2 cap2 sx :: blk g8 (.cells #[.int .i64 c.flow, .slice A1 (c.rs ++ [(⟨A8, cap8, r.xs⟩ : RowM)]).length c1, .slice c.bA c.bs.length c.bcap, .slice c.wA c.ws.length c.wcap, .slice c.sA c.ss.length c.scap] 61 (0, 0)) :: sl 72 1 A1 (c.rs ++ [(⟨A8, cap8, r.xs⟩ : RowM)]).length c1 ((c.rs ++ [(⟨A8, cap8, r.xs⟩ : RowM)]).flatMap rowF) :: sl 3 1 A8 r.xs.length cap8 (r.xs.flatMap numF) :: many (c.rs.map rowQ) :: nrs c.bA c.bcap c.bs :: nrs c.wA c.wcap c.ws :: sl 24 1 c.sA c.ss.length c.scap (c.ss.flatMap rowF) :: many (c.ss.map rowQ) :: clA g6 (nilC 0) :: schA g5 s :: rqA g4 x :: netA g3 n :: [many H]) w := by
        clear q1
        revert w
        exact zk
      exact h5.perm (.cons _ (.cons _ (.cons _ (Jh rowQ c.rs ⟨A8, cap8, r.xs⟩ _)))))
  rintro ⟨A1, c1, r8, hr8, _, _⟩
  dsimp only
  repeat' (first | fail)
  apply VJ (.n1 0 (.n1 1 (.n1 2 (.n1 5 (.n1 6 (.n1 7 (.n1 10 (.n1 11 (.n1 12 (.n3 3 (.n3 4 (.n1 15 (.n2 8 (.n2 9 (.n1 13 (.n1 14 .done)) 13 (.n1 9 (.n1 14 .done))) 13 (.n1 8 (.n1 9 (.n1 14 .done))))) 8 (.n2 4 (.n1 15 (.n2 9 (.n1 13 (.n1 14 .done)) 13 (.n1 9 (.n1 14 .done)))) 13 (.n1 4 (.n1 15 (.n1 9 (.n1 14 .done))))) 13 (.n2 4 (.n1 15 (.n1 8 (.n1 9 (.n1 14 .done)))) 8 (.n1 4 (.n1 15 (.n1 9 (.n1 14 .done)))))) 8 (.n2 3 (.n2 4 (.n1 15 (.n2 9 (.n1 13 (.n1 14 .done)) 13 (.n1 9 (.n1 14 .done)))) 13 (.n1 4 (.n1 15 (.n1 9 (.n1 14 .done))))) 13 (.n1 3 (.n1 4 (.n1 15 (.n1 9 (.n1 14 .done)))))) 13 (.n2 3 (.n2 4 (.n1 15 (.n1 8 (.n1 9 (.n1 14 .done)))) 8 (.n1 4 (.n1 15 (.n1 9 (.n1 14 .done))))) 8 (.n1 3 (.n1 4 (.n1 15 (.n1 9 (.n1 14 .done)))))))))))))))) [16, 17, 18, 19, 20] [false, true]
  kernel_rfl
  kernel_rfl
  exact zy
  (simp only [Yk, nthO]; rfl)
  repeat' (first | (apply Yiy; (simp only [nthO]; rfl); (simp only [nthO]; rfl); (simp only [nthO]; rfl)) | (apply YcL; (simp only [nthO]; rfl); (simp only [nthO]; rfl)) | (apply YcK; (simp only [nthO]; rfl)) | (apply VO; (repeat (first | with_reducible exact Yh | (with_reducible apply Yf; (repeat (first | with_reducible exact Yg | with_reducible apply Ye)))))) | (apply U6; exact zp) | apply (zs1 ?_) | apply (zs2 ?_) | (apply zg2; refine zs6 ?_) | (apply zg3; refine zs7 ?_) | (apply zg13; refine zs30 ?_) | (apply zg21; (refine zs49 ?_; intro _ _)) | (apply zg22; refine zs50 ?_) | (apply zg26; (refine zs56 ?_; intro _)) | apply (zs65 ?_) | (apply Yo; exact zp) | apply (zs68 ?_) | apply (zs70 ?_) | apply (zs79 ?_) | apply (zs87 ?_) | (apply Yl; (repeat (first | with_reducible exact Yh | (with_reducible apply Yf; (repeat (first | with_reducible exact Yg | with_reducible apply Ye)))))) | apply (zs93 ?_) | apply (zs94 ?_) | fail)
  all_goals (
    first
      | (rename_i A3 c3 g A4 c4 g2 A5 c5; guard_hyp A3 : Option Addr; guard_hyp g : Nat; guard_hyp A4 : Option Addr; guard_hyp A5 : Option Addr)
      | (rename_i A3 c3 g g2 A4 c4 A5 c5; guard_hyp A3 : Option Addr; guard_hyp g : Nat; guard_hyp A4 : Option Addr; guard_hyp A5 : Option Addr)
      | (rename_i A3 c3 g A4 c4 A5 c5; guard_hyp A3 : Option Addr; guard_hyp A4 : Option Addr; guard_hyp A5 : Option Addr)
      | (rename_i A3 c3 A4 c4 g A5 c5; guard_hyp A3 : Option Addr; guard_hyp A4 : Option Addr; guard_hyp A5 : Option Addr)
      | (rename_i A3 c3 A4 c4 A5 c5; guard_hyp A3 : Option Addr; guard_hyp A4 : Option Addr; guard_hyp A5 : Option Addr)
    refine hK ⟨i + 1, ⟨c.flow, A1, c1, c.rs ++ [r8], A3, c3, c.bs ++ [m], A4, c4, c.ws ++ [wst], A5, c5, c.ss ++ [⟨A2, cap2, sx⟩]⟩⟩ ?_ ?_ _ _ zu ?_
    · exact hinv A1 c1 r8 hr8 A3 c3 A4 c4 A5 c5
    · dsimp only; omega
    intro w hw
    have q1 : sl 24 1 A5 (c.ss.length + 1) c5 (c.ss.flatMap rowF ++ #[Value.slice A2 sx.length cap2].toList) = sl 24 1 A5 (c.ss ++ [(⟨A2, cap2, sx⟩ : RowM)]).length c5 ((c.ss ++ [(⟨A2, cap2, sx⟩ : RowM)]).flatMap rowF) := J2 _ _ _ _ ⟨A2, cap2, sx⟩
    rw [q1, X3, X3, show c.ss.length + 1 = (c.ss ++ [(⟨A2, cap2, sx⟩ : RowM)]).length by simp, show c.ws.length + 1 = (c.ws ++ [wst]).length by simp, show c.bs.length + 1 = (c.bs ++ [m]).length by simp] at hw
    have h5 : St B w0 (blk g8 (.cells #[.int .i64 c.flow, .slice A1 (c.rs ++ [r8]).length c1, .slice A3 (c.bs ++ [m]).length c3, .slice A4 (c.ws ++ [wst]).length c4, .slice A5 (c.ss ++ [(⟨A2, cap2, sx⟩ : RowM)]).length c5] 61 (0, 0)) :: sl 72 1 A1 (c.rs ++ [r8]).length c1 ((c.rs ++ [r8]).flatMap rowF) :: many ((c.rs ++ [r8]).map rowQ) :: nrs A3 c3 (c.bs ++ [m]) :: nrs A4 c4 (c.ws ++ [wst]) :: sl 24 1 A5 (c.ss ++ [(⟨A2, cap2, sx⟩ : RowM)]).length c5 ((c.ss ++ [(⟨A2, cap2, sx⟩ : RowM)]).flatMap rowF) :: nrs A2 cap2 sx :: many (c.ss.map rowQ) :: clA g6 (nilC 0) :: schA g5 s :: rqA g4 x :: netA g3 n :: [many H]) w := by
      clear q1
      revert w
      exact zk
    have h6 := h5.perm (.cons _ (.cons _ (.cons _ (.cons _ (.cons _ (.cons _ (Jh rowQ c.ss ⟨A2, cap2, sx⟩ _)))))))
    exact h6.perm (.cons _ (.close [_, _, _, _, _, _] _)))
open Go.RowKit Go.Eng Go.Nw Go.Rt
set_option maxRecDepth 10000 in
theorem YdI (n : NetM) (l : List Flw) (s : SchM) (hlf : l.length ≤ 9223372036854775807) (hl : s.cells.length ≤ 1000000000000) {A : Option Addr} {cap B : Nat} {w0 : World} {H : List HP} {w : World} (hin : n.In B w0 H) (hrf : Rd B w0 H A (l.flatMap flwF)) (hr : Rd B w0 H s.A (s.cells.flatMap celF)) (hw : St B w0 H w) :
    Calls Tryz.prog 71 [n.val, .slice A l.length cap, s.val].toArray w (Post B w0 fun v K => v = .bool (decide ((schE n.net l s.sch).2 = 0)) ∧ K = H) := by
  refine Yc Tryz.func71 Tryz.ntmps71 rfl rfl hw ?_
  have p1 := fun {H' : List HP} {w : World} (hin : n.In B w0 H') (hrf : Rd B w0 H' A (l.flatMap flwF)) (hr : Rd B w0 H' s.A (s.cells.flatMap celF)) (hw : St B w0 H' w) => Yaf n l s hlf hl (cap := cap) hin hrf hr hw
  obtain ⟨⟨ri, re⟩, hR⟩ : ∃ R, schE n.net l s.sch = R := ⟨_, rfl⟩
  rw [hR] at p1 ⊢
  dsimp only at p1 ⊢
  unfold NetM.val SchM.val
  unfold NetM.val SchM.val at p1
  repeat' (first | apply (zs1 ?_) | apply (zs2 ?_) | (apply zg3; refine zs8 ?_) | (apply zg23; (refine zs52 ?_; intro _)) | apply (zs65 ?_) | apply (zs68 ?_) | apply (zs69 ?_) | apply (zs70 ?_) | fail)
  first | apply Ya YiD | apply Yb YiD
  exact za
  exact rfl
  exact fun _ hw => (p1 (hin.mono zk) (hrf.mono zk) (hr.mono zk) hw)
  repeat' (first | (apply YhM; exact rfl; exact rfl; exact rfl) | apply (zs1 ?_) | apply (zs2 ?_) | apply (zs13 ?_) | apply (zs65 ?_) | apply (zs68 ?_) | apply (zs69 ?_) | apply (zs70 ?_) | apply (zs74 ?_) | fail)
  apply Yi H
  · exact zk
  apply Yd; exact rfl; exact rfl; exact ⟨rfl, rfl⟩
set_option maxRecDepth 10000 in
set_option maxHeartbeats 8000000 in
theorem Yae (n : NetM) (q : List RqM) (s : SchM) {A : Option Addr} {cap B : Nat} {w0 : World} {H : List HP} {w : World} (hin : n.In B w0 H) (hq : QIn B w0 H A q) (hrs : Rd B w0 H s.A (s.cells.flatMap celF)) (hsl : s.cells.length ≤ 1000000000000) (hw : St B w0 H w) :
    Calls Tryz.prog 20 [n.val, .slice A q.length cap, s.val].toArray w (Post B w0 (OutC H (XS n.net (q.map RqM.rq) s.sch))) := by
  refine Yc Tryz.func20 Tryz.ntmps20 rfl rfl hw ?_
  have hop : ∀ w, St B w0 [many H] w → St B w0 H w := fun w hw => hw.perm (.openT H)
  have hin := hin.mono hop
  have hrs := hrs.mono hop
  have hq := hq.mono hop
  refine UZ [many H] (fun w hw => hw.perm (.closeT H)) ?_
  have hql := hq.ln
  have hqr := hq.rd
  have p1 := fun {H' : List HP} {w : World} (hin : n.In B w0 H') (hq : QIn B w0 H' A q) (hw : St B w0 H' w) => YaQ n q (cap := cap) hin hq hw
  have p2 := fun {H' : List HP} {w : World} (hq : QIn B w0 H' A q) (hw : St B w0 H' w) => OH q (cap := cap) hql hq.rd hw
  have p3 := fun {A2 : Option Addr} {cap2 : Nat} {H' : List HP} {w : World} (hin : n.In B w0 H') (hf : Rd B w0 H' A2 ((RqM.fl q).flatMap flwF)) (hrs : Rd B w0 H' s.A (s.cells.flatMap celF)) (hw : St B w0 H' w) => YdI n (RqM.fl q) s (by unfold RqM.fl; rw [List.length_map]; omega) hsl (cap := cap2) hin hf hrs hw
  have p4 := fun {H' : List HP} {w : World} (x : RqM) (h9 : x.rows.length ≤ 9) (hin : n.In B w0 H') (hrs : Rd B w0 H' s.A (s.cells.flatMap celF)) (hx : x.In B w0 H') (hw : St B w0 H' w) => Ydx n s x hin hrs hsl hx h9 hw
  obtain ⟨R, hR⟩ : ∃ R, XS n.net (q.map RqM.rq) s.sch = R := ⟨_, rfl⟩
  rw [hR]
  unfold XS at hR
  rw [List.length_map] at hR
  have hrq : (rqsE n.net (q.map RqM.rq)).2 = 0 → ∀ x ∈ q, x.rows.length ≤ 9 := fun h x hx => by
    unfold rqsE at h
    split at h
    · cases h
    split at h
    · exact absurd h (by assumption)
    obtain ⟨k, hk⟩ := List.mem_iff_getElem?.1 hx
    have h1 := Y2.1 h k (Nat.zero_le _) (by rw [List.length_map]; have := (List.getElem?_eq_some_iff.1 hk).1; omega)
    rw [J3 hk] at h1
    have h2 := Yfd h1
    have h3 : x.rq.2.length = x.rows.length := by unfold RqM.rq; rw [List.length_map]
    omega
  obtain ⟨⟨ri, re⟩, hr⟩ : ∃ r, rqsE n.net (q.map RqM.rq) = r := ⟨_, rfl⟩
  obtain ⟨⟨ci, ce⟩, hc⟩ : ∃ r, schE n.net (Z3 (q.map RqM.rq)) s.sch = r := ⟨_, rfl⟩
  obtain ⟨F, hF⟩ : ∃ F : Nat → Int, (fun i => if Zm n.net s.sch (rqAt (q.map RqM.rq) i) = true then 15 else 0) = F := ⟨_, rfl⟩
  rw [hr] at p1 hR hrq
  rw [Ybm] at p3
  rw [hc] at p3 hR
  rw [hF] at hR
  have hFv : ∀ {k : Nat} {x : RqM}, q[k]? = some x → F k = if Zm n.net s.sch x.rq = true then 15 else 0 := fun h => by rw [← hF]; show (if Zm _ _ _ = true then _ else _) = _; rw [J3 h]
  rw [← Ybm] at p3
  dsimp only at p1 p3 hR hrq
  unfold NetM.val SchM.val
  unfold NetM.val at p1
  unfold NetM.val SchM.val at p3 p4
  unfold rqV clV at p4
  have hno : ∀ w, St B w0 [many H] w → St B w0 (clsP none 0 [] :: many (([] : List ClM).map clQ) :: H) w := fun w hw => JL (hw.perm (.openT H))
  by_cases h0 : re = 0
  rotate_left
  · rw [if_pos h0] at hR
    subst hR
    repeat' (first | apply (zs1 ?_) | apply (zs2 ?_) | (apply zg3; refine zs8 ?_) | (apply zg23; (refine zs52 ?_; intro _)) | apply (zs65 ?_) | apply (zs68 ?_) | apply (zs69 ?_) | apply (zs70 ?_) | fail)
    first | apply Ya en70 | apply Yb en70
    exact za
    exact rfl
    exact fun _ hw => (p1 (hin.mono zk) (hq.mono zk) hw)
    repeat' (first | apply (zs1 ?_) | apply (zs2 ?_) | apply (zs13 ?_) | (apply zg8; (refine zs16 ?_ ?_ <;> intro _ <;> try (exfalso; omega))) | apply (zs65 ?_) | apply (zs68 ?_) | apply (zs69 ?_) | apply (zs70 ?_) | (apply zg27; refine zs71 ?_) | apply (zs74 ?_) | apply (zs77 ?_) | fail)
    apply Yi (clsP none 0 [] :: many (([] : List ClM).map clQ) :: H)
    · intro w hw
      refine hno w ?_
      revert w
      exact zk
    apply Xu; exact rfl; exact rfl; exact rfl; exact rfl
    exact ZS rfl rfl
  subst h0
  rw [if_neg (fun e => e rfl)] at hR
  have hrq := hrq rfl
  by_cases h1 : ce = 0
  rotate_left
  · rw [if_pos h1] at hR
    subst hR
    rw [decide_eq_false h1] at p3
    repeat' (first | apply (zs1 ?_) | apply (zs2 ?_) | (apply zg3; refine zs8 ?_) | (apply zg23; (refine zs52 ?_; intro _)) | apply (zs65 ?_) | apply (zs68 ?_) | apply (zs69 ?_) | apply (zs70 ?_) | fail)
    first | apply Ya en70 | apply Yb en70
    exact za
    exact rfl
    exact fun _ hw => (p1 (hin.mono zk) (hq.mono zk) hw)
    repeat' (first | apply (zs1 ?_) | apply (zs2 ?_) | apply (zs13 ?_) | (apply zg8; (refine zs16 ?_ ?_ <;> intro _ <;> try (exfalso; omega))) | apply (zs65 ?_) | apply (zs68 ?_) | apply (zs69 ?_) | apply (zs70 ?_) | (apply zg27; refine zs72 ?_) | apply (zs76 ?_) | fail)
    apply XD [0, 1, 3, 2, 4, 5] [] [true, true]
    kernel_rfl
    kernel_rfl
    exact zy
    (simp only [Yk, nthO]; rfl)
    exact rfl
    repeat' (first | apply (zs1 ?_) | (apply zg3; refine zs8 ?_) | apply (zs87 ?_) | fail)
    apply Yq _ en32
    exact za
    exact rfl
    exact fun _ hw => (p2 (hq.mono zk) (hw))
    rintro _ _ ⟨A2, cap2, rfl, rfl⟩
    repeat' (first | apply (zs65 ?_) | apply (zs87 ?_) | (apply Yl; (repeat (first | with_reducible exact Yh | (with_reducible apply Yf; (repeat (first | with_reducible exact Yg | with_reducible apply Ye)))))) | fail)
    first | apply Ya en71 | apply Yb en71
    exact za
    exact rfl
    exact fun _ hw => (p3 (hin.mono zk) (Rd.sl zm) (hrs.mono zk) hw)
    repeat' (first | apply (zs2 ?_) | (apply zg20; refine zs48 ?_) | apply (zs65 ?_) | (apply Yo; exact zp) | apply (zs68 ?_) | apply (zs69 ?_) | apply (zs70 ?_) | (apply zg27; refine zs71 ?_) | apply (zs74 ?_) | apply (zs77 ?_) | (apply Yl; (repeat (first | with_reducible exact Yh | (with_reducible apply Yf; (repeat (first | with_reducible exact Yg | with_reducible apply Ye)))))) | apply (zs93 ?_) | apply (zs94 ?_) | fail)
    apply Yi (clsP none 0 [] :: many (([] : List ClM).map clQ) :: H)
    · intro w hw
      refine hno w ?_
      revert w
      exact zk
    apply Xu; exact rfl; exact rfl; exact rfl; exact rfl
    exact ZS rfl rfl
  subst h1
  rw [if_neg (fun e => e rfl)] at hR
  rw [decide_eq_true rfl] at p3
  repeat' (first | apply (zs1 ?_) | apply (zs2 ?_) | (apply zg3; refine zs8 ?_) | (apply zg23; (refine zs52 ?_; intro _)) | apply (zs65 ?_) | apply (zs68 ?_) | apply (zs69 ?_) | apply (zs70 ?_) | fail)
  rename_i g3 g5
  first | apply Ya en70 | apply Yb en70
  exact za
  exact rfl
  exact fun _ hw => (p1 (hin.mono zk) (hq.mono zk) hw)
  repeat' (first | apply (zs1 ?_) | apply (zs2 ?_) | apply (zs13 ?_) | (apply zg8; (refine zs16 ?_ ?_ <;> intro _ <;> try (exfalso; omega))) | apply (zs65 ?_) | apply (zs68 ?_) | apply (zs69 ?_) | apply (zs70 ?_) | (apply zg27; refine zs72 ?_) | apply (zs76 ?_) | fail)
  apply XD [0, 1, 3, 2, 4, 5] [] [true, true]
  kernel_rfl
  kernel_rfl
  exact zy
  (simp only [Yk, nthO]; rfl)
  exact rfl
  repeat' (first | apply (zs1 ?_) | (apply zg3; refine zs8 ?_) | apply (zs87 ?_) | fail)
  apply Yq _ en32
  exact za
  exact rfl
  exact fun _ hw => (p2 (hq.mono zk) (hw))
  rintro _ _ ⟨A2, cap2, rfl, rfl⟩
  repeat' (first | apply (zs65 ?_) | apply (zs87 ?_) | (apply Yl; (repeat (first | with_reducible exact Yh | (with_reducible apply Yf; (repeat (first | with_reducible exact Yg | with_reducible apply Ye)))))) | fail)
  first | apply Ya en71 | apply Yb en71
  exact za
  exact rfl
  exact fun _ hw => (p3 (hin.mono zk) (Rd.sl zm) (hrs.mono zk) hw)
  repeat' (first | (apply YW T; exact rfl; exact rfl; intro gO) | apply (zs2 ?_) | (apply zg20; refine zs47 ?_) | apply (zs65 ?_) | (apply Yo; exact zp) | apply (zs68 ?_) | apply (zs69 ?_) | apply (zs70 ?_) | (apply zg27; refine zs72 ?_) | apply (zs73 ?_) | apply (zs76 ?_) | (apply Yl; (repeat (first | with_reducible exact Yh | (with_reducible apply Yf; (repeat (first | with_reducible exact Yg | with_reducible apply Ye)))))) | apply (zs93 ?_) | apply (zs94 ?_) | fail)
  refine Yj (fun z : MkM => [(12, .int .i64 (z.i : Nat)), (11, .slice z.A z.C.length z.cap), (1, .slice A q.length cap), (5, .pointer (some ⟨g5, 0, none⟩)), (3, .pointer (some ⟨g3, 0, none⟩))]) (fun z => clsP z.A z.cap z.C :: many (z.C.map clQ) :: schA g5 s :: netA g3 n :: [many H])
    (fun z => z.i ≤ q.length ∧ z.C.map ClM.clm = (q.take z.i).map (fun x => clmE n.net s.sch x.rq) ∧ (∀ c ∈ z.C, c.lens) ∧ ∀ j, 0 ≤ j → j < z.i → F j = 0) (fun z => q.length - z.i) ⟨0, some ⟨gO, 0, none⟩, 0, []⟩ ⟨Nat.zero_le _, rfl, (fun c hc => by cases hc), fun j _ h => absurd h (Nat.not_lt_zero _)⟩ ?_ ?_ ?_
  · exact zu
  · intro w hw
    have h5 : St B w0 (sl 61 5 (some ⟨gO, 0, none⟩) 0 0 [] :: schA g5 s :: netA g3 n :: [many H]) w := by
      revert w
      exact zk
    exact h5.perm (.cons _ (.noMany _))
  rintro ⟨i, A3, cap3, C⟩ ⟨hi, hC, hCl, hz⟩ K hK
  dsimp only at hi hC hCl hz ⊢
  have hCn : C.length ≤ q.length := by
    have := congrArg List.length hC
    rw [List.length_map, List.length_map, List.length_take] at this
    omega
  by_cases hlt : i < q.length
  rotate_left
  · obtain rfl : i = q.length := by omega
    have hfe := Y9 (f := F) (r := q.length) (i0 := 0) fun j h1 h2 => hz j h1 (by omega)
    rw [hfe, if_neg (fun e => e rfl)] at hR
    subst hR
    rw [List.take_length] at hC
    clear hK
    repeat' (first | apply (zs1 ?_) | apply (zs2 ?_) | (apply zg4; refine zs9 ?_) | (apply (zs17 ?_ ?_) <;> intro _ <;> try (exfalso; omega)) | apply (zs65 ?_) | apply (zs68 ?_) | apply (zs69 ?_) | apply (zs70 ?_) | (apply zg27; refine zs72 ?_) | apply (zs74 ?_) | apply (zs75 ?_) | apply (zs80 ?_) | apply (zs81 ?_) | fail)
    apply Yi (clsP A3 cap3 C :: many (C.map clQ) :: H)
    · intro w hw
      have h5 : St B w0 (clsP A3 cap3 C :: many (C.map clQ) :: [many H]) w := by
        revert w
        exact zk
      exact h5.perm (.cons _ (.cons _ (.openT H)))
    apply Xu; exact rfl; exact rfl; exact rfl; exact rfl
    exact ⟨A3, cap3, C, rfl, by rw [hC, List.map_map]; rfl, hCl, rfl⟩
  obtain ⟨x, hx⟩ : ∃ x, q[i]? = some x := ⟨_, List.getElem?_eq_getElem hlt⟩
  have hxm := List.mem_of_getElem? hx
  have hFx := hFv hx
  have p5 := fun {H' : List HP} {w : World} (hin : n.In B w0 H') (hrs : Rd B w0 H' s.A (s.cells.flatMap celF)) (hxi : x.In B w0 H') (hw : St B w0 H' w) => p4 x (hrq x hxm) hin hrs hxi hw
  have hxi := hq.x x hxm
  have hqr2 : Rd B w0 [schA g5 s, netA g3 n, many H] A (q.flatMap rqF) := hqr.cons.cons
  cases hlb : Zm n.net s.sch x.rq with
  | true =>
    rw [hlb, if_pos rfl] at hFx
    rw [hlb] at p5
    have hfe := YV (f := F) (r := q.length) (i0 := 0) (i := i) (fun j h1 h2 => hz j h1 h2) (Nat.zero_le _) (by omega) (by rw [hFx]; decide)
    rw [hfe, hFx] at hR
    rw [if_pos (show (15 : Int) ≠ 0 from by decide)] at hR
    subst hR
    clear hK
    repeat' (first | apply (zs1 ?_) | (apply zg4; refine zs9 ?_) | (apply (zs17 ?_ ?_) <;> intro _ <;> try (exfalso; omega)) | apply (zs65 ?_) | apply (zs68 ?_) | apply (zs69 ?_) | apply (zs70 ?_) | (apply zg27; refine zs71 ?_) | apply (zs73 ?_) | apply (zs76 ?_) | fail)
    apply Uk (.n1 0 (.n1 1 (.n1 2 (.n1 3 (.n1 4 (.n1 5 (.n2 6 (.n1 7 (.n1 8 (.n1 9 (.n1 10 (.n1 11 (.n1 12 .done)))))) 10 (.n1 6 (.n1 7 (.n1 8 (.n1 9 (.n1 11 (.n1 12 .done))))))))))))) [] [false, false, true, true, true]
    kernel_rfl
    kernel_rfl
    exact zy
    exact rfl
    repeat' (first | ((apply Yq _ en72); exact za; exact rfl; exact fun _ hw => p5 (hin.mono zk) (hrs.mono zk) (hxi.mono zk) hw; rintro _ _ ⟨c, rfl, _, rfl⟩) | apply (zs1 ?_) | apply (zs2 ?_) | (apply zg3; first | refine zs8 ?_ | refine zs61 ?_) | (apply zg5; refine zs57 ?_) | apply (zs13 ?_) | (apply zg20; refine zs48 ?_) | (apply zg22; refine zs51 ?_) | (apply zg24; (refine zs54 ?_; intro _)) | apply (zs65 ?_) | (apply Yo; exact zp) | apply (zs68 ?_) | apply (zs69 ?_) | apply (zs70 ?_) | (apply zg27; refine zs71 ?_) | apply (zs74 ?_) | apply (zs77 ?_) | apply (zs78 ?_) | apply (zs87 ?_) | (apply Yl; (repeat (first | with_reducible exact Yh | (with_reducible apply Yf; (repeat (first | with_reducible exact Yg | with_reducible apply Ye)))))) | (apply Um; exact zp) | apply (zs90 ?_) | apply (zs91 ?_ ?_) | (apply X0; (repeat (first | with_reducible exact Yh | (with_reducible apply Yf; (repeat (first | with_reducible exact Yg | with_reducible apply Ye)))))) | apply (zs93 ?_) | apply (zs94 ?_) | fail)
    all_goals (
      apply Yi (clsP none 0 [] :: many (([] : List ClM).map clQ) :: H)
      · intro w hw
        refine hno w ?_
        revert w
        exact zk
      apply Xu; exact rfl; exact rfl; exact rfl; exact rfl
      exact ZS rfl rfl)
  | false =>
    rw [hlb, if_neg (by decide)] at hFx
    rw [hlb] at p5
    repeat' (first | apply (zs1 ?_) | (apply zg4; refine zs9 ?_) | (apply (zs17 ?_ ?_) <;> intro _ <;> try (exfalso; omega)) | apply (zs65 ?_) | apply (zs68 ?_) | apply (zs69 ?_) | apply (zs70 ?_) | (apply zg27; refine zs71 ?_) | apply (zs73 ?_) | apply (zs76 ?_) | fail)
    apply Uk (.n1 0 (.n1 1 (.n1 2 (.n1 3 (.n1 4 (.n1 5 (.n2 6 (.n1 7 (.n1 8 (.n1 9 (.n1 10 (.n1 11 (.n1 12 .done)))))) 10 (.n1 6 (.n1 7 (.n1 8 (.n1 9 (.n1 11 (.n1 12 .done))))))))))))) [] [false, false, true, true, true]
    kernel_rfl
    kernel_rfl
    exact zy
    exact rfl
    repeat' (first | ((apply Yq _ en72); exact za; exact rfl; exact fun _ hw => p5 (hin.mono zk) (hrs.mono zk) (hxi.mono zk) hw; rintro _ _ ⟨c, rfl, hcc, rfl⟩) | apply (zs1 ?_) | apply (zs2 ?_) | (apply zg3; first | refine zs8 ?_ | refine zs61 ?_) | (apply zg5; refine zs57 ?_) | apply (zs13 ?_) | (apply zg13; refine zs30 ?_) | (apply zg20; refine zs47 ?_) | (apply zg21; (refine zs49 ?_; intro _ _)) | (apply zg22; refine zs51 ?_) | (apply zg24; (refine zs54 ?_; intro _)) | (apply zg26; (refine zs56 ?_; intro _)) | apply (zs65 ?_) | (apply Yo; exact zp) | apply (zs68 ?_) | apply (zs69 ?_) | apply (zs70 ?_) | (apply zg27; refine zs72 ?_) | apply (zs76 ?_) | apply (zs79 ?_) | apply (zs87 ?_) | (apply Yl; (repeat (first | with_reducible exact Yh | (with_reducible apply Yf; (repeat (first | with_reducible exact Yg | with_reducible apply Ye)))))) | (apply Um; exact zp) | apply (zs90 ?_) | apply (zs91 ?_ ?_) | (apply X0; (repeat (first | with_reducible exact Yh | (with_reducible apply Yf; (repeat (first | with_reducible exact Yg | with_reducible apply Ye)))))) | apply (zs93 ?_) | apply (zs94 ?_) | fail)
    all_goals (
      obtain ⟨hcm, hcl⟩ := hcc rfl
      rename_i A4 cap4
      rw [Qy, show C.length + 1 = (C ++ [c]).length by simp]
      apply hK ⟨i + 1, A4, cap4, C ++ [c]⟩
      · refine ⟨by show i + 1 ≤ _; omega, ?_, fun y hy => ?_, fun j h1 h2 => ?_⟩
        · show (C ++ [c]).map ClM.clm = _
          rw [List.take_add_one, hx, Option.toList_some, List.map_append, List.map_append, hC]
          simp [hcm]
        · rcases List.mem_append.1 hy with h | h
          · exact hCl y h
          · rw [List.mem_singleton.1 h]; exact hcl
        · rcases Nat.lt_succ_iff_lt_or_eq.1 h2 with h | rfl
          · exact hz j h1 h
          · exact hFx
      · dsimp only; omega
      · exact zu
      · intro w hw
        have h5 : St B w0 (clsP A4 cap4 (C ++ [c]) :: clQ c :: many (C.map clQ) :: schA g5 s :: netA g3 n :: [many H]) w := by
          revert w
          exact zk
        exact h5.perm (.cons _ (ZG clQ C c _)))
open Go.RowKit Go.Eng Go.Nw Go.Rt
set_option maxRecDepth 10000 in
set_option maxHeartbeats 8000000 in
theorem YaL (n : NetM) (q : List RqM) (s : SchM) (c : List ClM) {A A1 : Option Addr} {cap cap1 B : Nat} {w0 : World} {H : List HP} {w : World} (hin : n.In B w0 H) (hq : QIn B w0 H A q) (hrs : Rd B w0 H s.A (s.cells.flatMap celF)) (hsl : s.cells.length ≤ 1000000000000) (hc : CIn B w0 H A1 c) (hw : St B w0 H w) :
    Calls Tryz.prog 24 [n.val, .slice A q.length cap, s.val, .slice A1 c.length cap1].toArray w (Post B w0 fun v K => v = .tuple #[.int .i64 (chkE n.net (q.map RqM.rq) s.sch (c.map ClM.clm)).1, .int .i64 (chkE n.net (q.map RqM.rq) s.sch (c.map ClM.clm)).2] ∧ K = H) := by
  refine Yc Tryz.func24 Tryz.ntmps24 rfl rfl hw ?_
  have hcl := hc.ln
  have hcr := hc.rd
  have p1 := fun {H' : List HP} {w : World} (hin : n.In B w0 H') (hq : QIn B w0 H' A q) (hrs : Rd B w0 H' s.A (s.cells.flatMap celF)) (hw : St B w0 H' w) => Yae n q s (cap := cap) hin hq hrs hsl hw
  obtain ⟨⟨RC, ri, re⟩, hR⟩ : ∃ R, XS n.net (q.map RqM.rq) s.sch = R := ⟨_, rfl⟩
  unfold chkE
  rw [List.length_map]
  rw [hR] at p1 ⊢
  unfold OutC at p1
  dsimp only at p1 ⊢
  unfold NetM.val SchM.val
  by_cases h0 : re = 0
  rotate_left
  · rw [if_pos h0]
    repeat' (first | apply (zs1 ?_) | apply (zs2 ?_) | (apply zg3; refine zs8 ?_) | (apply zg23; (refine zs52 ?_; intro _)) | apply (zs65 ?_) | apply (zs68 ?_) | apply (zs69 ?_) | apply (zs70 ?_) | fail)
    apply Yq _ en20
    exact za
    exact rfl
    exact fun _ hw => (p1 (hin.mono zk) (hq.mono zk) (hrs.mono zk) (hw))
    rintro _ _ ⟨A2, cap2, C, rfl, hC, hCl, rfl⟩
    repeat' (first | apply (zs1 ?_) | apply (zs2 ?_) | apply (zs13 ?_) | (apply zg8; (refine zs16 ?_ ?_ <;> intro _ <;> try (exfalso; omega))) | apply (zs65 ?_) | apply (zs68 ?_) | apply (zs69 ?_) | apply (zs70 ?_) | (apply zg27; refine zs71 ?_) | apply (zs74 ?_) | apply (zs77 ?_) | fail)
    apply Yi H
    · exact zk
    apply Yp; exact rfl; exact rfl; exact rfl; exact ⟨rfl, rfl⟩
  subst h0
  rw [if_neg (fun e => e rfl)]
  repeat' (first | apply (zs1 ?_) | apply (zs2 ?_) | (apply zg3; refine zs8 ?_) | (apply zg23; (refine zs52 ?_; intro _)) | apply (zs65 ?_) | apply (zs68 ?_) | apply (zs69 ?_) | apply (zs70 ?_) | fail)
  apply Yq _ en20
  exact za
  exact rfl
  exact fun _ hw => (p1 (hin.mono zk) (hq.mono zk) (hrs.mono zk) (hw))
  rintro _ _ ⟨A2, cap2, C, rfl, hC, hCl, rfl⟩
  subst hC
  rw [List.length_map]
  by_cases h1 : c.length = C.length
  rotate_left
  · rw [if_pos h1]
    repeat' (first | apply (zs1 ?_) | apply (zs2 ?_) | (apply zg4; refine zs9 ?_) | apply (zs13 ?_) | (apply zg8; (refine zs16 ?_ ?_ <;> intro _ <;> try (exfalso; omega))) | apply (zs65 ?_) | apply (zs68 ?_) | apply (zs69 ?_) | apply (zs70 ?_) | (apply zg27; first | refine zs71 ?_ | refine zs72 ?_) | apply (zs74 ?_) | apply (zs76 ?_) | apply (zs77 ?_) | fail)
    apply Yi H
    · exact zk
    apply Yp; exact rfl; exact rfl; exact rfl; exact ⟨rfl, rfl⟩
  rw [if_neg (fun e => e h1)]
  obtain ⟨F, hF⟩ : ∃ F : Nat → Int, (fun i => if ZU (c.map ClM.clm) i = ZU (C.map ClM.clm) i then (0 : Int) else 20) = F := ⟨_, rfl⟩
  rw [hF]
  have hFv : ∀ {k : Nat} {x y : ClM}, c[k]? = some x → C[k]? = some y → F k = if x.clm = y.clm then 0 else 20 := fun hx hy => by rw [← hF]; show (if _ = _ then _ else _) = _; rw [Zb hx, Zb hy]
  repeat' (first | apply (zs1 ?_) | apply (zs2 ?_) | (apply zg4; refine zs9 ?_) | apply (zs13 ?_) | (apply zg8; (refine zs16 ?_ ?_ <;> intro _ <;> try (exfalso; omega))) | apply (zs65 ?_) | apply (zs68 ?_) | apply (zs69 ?_) | apply (zs70 ?_) | (apply zg27; refine zs72 ?_) | apply (zs73 ?_) | apply (zs76 ?_) | fail)
  refine Yj (fun k : Nat => [(13, .int .i64 (k : Nat)), (10, .slice A2 C.length cap2), (3, .slice A1 c.length cap1)]) (fun _ => clsP A2 cap2 C :: many (C.map clQ) :: H) (fun k => k ≤ C.length ∧ ∀ j, 0 ≤ j → j < k → F j = 0) (fun k => C.length - k) 0 ⟨Nat.zero_le _, fun j _ h => absurd h (Nat.not_lt_zero _)⟩ ?_ ?_ ?_
  · exact zu
  · exact zk
  rintro k ⟨hk, hz⟩ K hK
  have hcr' : Rd B w0 (clsP A2 cap2 C :: many (C.map clQ) :: H) A1 (c.flatMap clF) := hcr.cons.cons
  have hCr' : Rd B w0 (clsP A2 cap2 C :: many (C.map clQ) :: H) A2 (C.flatMap clF) := .sl (.head _)
  by_cases hlt : k < C.length
  · obtain ⟨x, hx⟩ : ∃ x, c[k]? = some x := ⟨_, List.getElem?_eq_getElem (by omega)⟩
    obtain ⟨y, hy⟩ : ∃ y, C[k]? = some y := ⟨_, List.getElem?_eq_getElem hlt⟩
    have hym := List.mem_of_getElem? hy
    have hFk := hFv hx hy
    have hxi := hc.x x (List.mem_of_getElem? hx)
    have p2 := fun {H' : List HP} {w : World} (hx : x.In B w0 H') (hy : y.In B w0 H') (hw : St B w0 H' w) => VF x y hx hy hw
    by_cases he : x.clm = y.clm
    · rw [if_pos he] at hFk
      rw [decide_eq_true he] at p2
      repeat' (first | apply (zs1 ?_) | (apply zg4; refine zs9 ?_) | (apply (zs17 ?_ ?_) <;> intro _ <;> try (exfalso; omega)) | apply (zs65 ?_) | apply (zs68 ?_) | apply (zs69 ?_) | apply (zs70 ?_) | (apply zg27; refine zs71 ?_) | apply (zs73 ?_) | apply (zs76 ?_) | fail)
      apply YB [0, 1, 2, 3, 4, 5, 6, 7, 8, 9] []
      kernel_rfl
      kernel_rfl
      (simp only [Yk, nthO]; rfl)
      exact rfl
      repeat' (first | apply (zs1 ?_) | (apply zg3; refine zs61 ?_) | (apply zg5; first | refine zs10 ?_ | refine zs57 ?_) | apply (zs87 ?_) | fail)
      first | apply Ya en73 | apply Yb en73
      exact za
      exact rfl
      exact fun _ hw => (p2 (hxi.mono zk) (Vq zm hym (hCl y hym)) hw)
      repeat' (first | apply (zs1 ?_) | apply (zs2 ?_) | (apply zg13; refine zs30 ?_) | (apply zg20; refine zs47 ?_) | apply (zs65 ?_) | (apply Yo; exact zp) | apply (zs68 ?_) | apply (zs70 ?_) | (apply zg27; refine zs72 ?_) | apply (zs76 ?_) | apply (zs79 ?_) | (apply Yl; (repeat (first | with_reducible exact Yh | (with_reducible apply Yf; (repeat (first | with_reducible exact Yg | with_reducible apply Ye)))))) | apply (zs93 ?_) | apply (zs94 ?_) | fail)
      · show Perm H (H ++ [])
        rw [List.append_nil]; exact Perm.refl _
      repeat' (first | fail)
      apply hK (k + 1)
      · exact ⟨by omega, fun j h1 h2 => by
          rcases Nat.lt_succ_iff_lt_or_eq.1 h2 with h | rfl
          · exact hz j h1 h
          · exact hFk⟩
      · omega
      · exact zu
      · exact zk
    · rw [if_neg he] at hFk
      rw [decide_eq_false he] at p2
      have hfe := YV (f := F) (r := c.length) (i0 := 0) (i := k) (fun j h1 h2 => hz j h1 h2) (Nat.zero_le _) (by omega) (by rw [hFk]; decide)
      rw [hfe, hFk]
      clear hK
      repeat' (first | apply (zs1 ?_) | (apply zg4; refine zs9 ?_) | (apply (zs17 ?_ ?_) <;> intro _ <;> try (exfalso; omega)) | apply (zs65 ?_) | apply (zs68 ?_) | apply (zs69 ?_) | apply (zs70 ?_) | (apply zg27; refine zs71 ?_) | apply (zs73 ?_) | apply (zs76 ?_) | fail)
      apply YB [0, 1, 2, 3, 4, 5, 6, 7, 8, 9] []
      kernel_rfl
      kernel_rfl
      (simp only [Yk, nthO]; rfl)
      exact rfl
      repeat' (first | apply (zs1 ?_) | (apply zg3; refine zs61 ?_) | (apply zg5; first | refine zs10 ?_ | refine zs57 ?_) | apply (zs87 ?_) | fail)
      first | apply Ya en73 | apply Yb en73
      exact za
      exact rfl
      exact fun _ hw => (p2 (hxi.mono zk) (Vq zm hym (hCl y hym)) hw)
      repeat' (first | apply (zs1 ?_) | apply (zs2 ?_) | (apply zg20; refine zs48 ?_) | apply (zs65 ?_) | (apply Yo; exact zp) | apply (zs68 ?_) | apply (zs69 ?_) | apply (zs70 ?_) | (apply zg27; refine zs71 ?_) | apply (zs74 ?_) | apply (zs77 ?_) | apply (zs78 ?_) | (apply Yl; (repeat (first | with_reducible exact Yh | (with_reducible apply Yf; (repeat (first | with_reducible exact Yg | with_reducible apply Ye)))))) | apply (zs93 ?_) | apply (zs94 ?_) | fail)
      · show Perm H (H ++ [])
        rw [List.append_nil]; exact Perm.refl _
      repeat' (first | fail)
      apply Yi H
      · exact zk
      apply Yp; exact rfl; exact rfl; exact rfl; exact ⟨rfl, rfl⟩
  · obtain rfl : k = C.length := by omega
    have hfe := Y9 (f := F) (r := c.length) (i0 := 0) fun j h1 h2 => hz j h1 (by omega)
    rw [hfe]
    clear hK
    repeat' (first | apply (zs1 ?_) | apply (zs2 ?_) | (apply zg4; refine zs9 ?_) | (apply (zs17 ?_ ?_) <;> intro _ <;> try (exfalso; omega)) | apply (zs65 ?_) | apply (zs68 ?_) | apply (zs69 ?_) | apply (zs70 ?_) | (apply zg27; refine zs72 ?_) | apply (zs74 ?_) | apply (zs75 ?_) | apply (zs80 ?_) | apply (zs81 ?_) | fail)
    apply Yi H
    · exact zk
    apply Yp; exact rfl; exact rfl; exact rfl; exact ⟨rfl, rfl⟩
open Go.RowKit Go.Eng Go.Nw
theorem JY {n : Int} (h : 0 ≤ n ∧ n < 10) : Lib.itoa n = [UInt8.ofNat (48 + n.toNat)] := by
  rw [JX h.1, Lib.decDigits_one (by omega)]
end Go.Proofs.YtmalhidldgfeoaaGreatDoor
namespace Go.Eng
open Go.RowKit
theorem Yfn {P : Program} {B : Nat} {w0 : World} {env : Env} {H : List HP} {n : Nat} (T : Tab P) {fn : Func} {Φ : Value → List HP → Prop} {p g k u p2 g2 k2 rt rt2 : Nat} {x : Value} {cs cs2 : Array Value} {tt tt2 : TypeId} {fr fr2 : Nat × Nat} (hr : fn.results = #[.cell p rt, .tmp u, .cell p2 rt2]) (hp : get env p = some (.pointer (some ⟨g, 0, none⟩))) (hu : get env u = some x) (hp2 : get env p2 = some (.pointer (some ⟨g2, 0, none⟩)))
    (hm : blk g (.cells cs tt fr) ∈ H) (hm2 : blk g2 (.cells cs2 tt2 fr2) ∈ H) (ht : look T.ag rt = some k) (ht2 : look T.ag rt2 = some k2) (hk : cs.size = k) (hk2 : cs2.size = k2) {H2 : List HP} (hH : ∀ w, St B w0 H w → St B w0 H2 w) (h : Φ (.tuple #[.agg cs, x, .agg cs2]) H2) : VQ ⟨n, [], none⟩ B w0 (bodyPost P fn (Post B w0 Φ)) .ret env H := by
  refine ⟨fun a w ha hw => bodyPost_ret (v := .tuple #[.agg cs, x, .agg cs2]) ?_ ha.defers ⟨_, H2, rfl, hH w hw, h⟩⟩
  have hp' := ha.slot p _ hp
  have hp2' := ha.slot p2 _ hp2
  simp [results, hr, Array.getD_eq_getD_getElem?, hp', hp2', ha.slot u _ hu, asAddr, Jg T (hw.blk hm).1 ht hk, Jg T (hw.blk hm2).1 ht2 hk2]
end Go.Eng
namespace Go.Proofs.YtmalhidldgfeoaaGreatDoor
open Go.RowKit Go.Eng Go.Nw Go.Rt
def exN8 : Net := ⟨3, [[0, 9, 9], [9, 0, 9], [9, 9, 0]], 1, 1000, [(0, 1, 1), (1, 0, 0), (1, 2, 1), (2, 1, 0)], [9, 9, 9, 9]⟩
def exQ : List Rqs := [((3, 0, 2, 6, 0, 6), [[0, 1, 2]])]
def exZ : Sch := ⟨6, 1, [(0, 0, 0, 1, 3), (1, 0, 1, 2, 3), (2, 0, 0, 1, 3), (3, 0, 1, 2, 3), (4, 0, 1, 2, 3)]⟩
set_option maxRecDepth 10000 in
set_option maxHeartbeats 4000000 in
theorem Yee {B : Nat} {w0 : World} {H : List HP} {w : World} (hw : St B w0 H w) :
    Calls Tryz.prog 65 [].toArray w (Post B w0 fun v K => ∃ (n : NetM) (A : Option Addr) (cap : Nat) (q : List RqM) (s : SchM), v = .tuple #[n.val, .slice A q.length cap, s.val] ∧ n.net = exN8 ∧ q.map RqM.rq = exQ ∧ s.sch = exZ ∧ n.In B w0 K ∧ QIn B w0 K A q ∧ Rd B w0 K s.A (s.cells.flatMap celF) ∧ ∀ w, St B w0 K w → St B w0 H w) := by
  refine Yc Tryz.func65 Tryz.ntmps65 rfl rfl hw ?_
  repeat' (first | apply (zs2 ?_) | (apply zg2; refine zs6 ?_) | (apply zg22; first | refine zs50 ?_ | refine zs51 ?_) | (apply zg24; (refine zs54 ?_; intro _)) | (apply zg25; refine zs55 ?_) | (apply zg26; (refine zs56 ?_; intro _)) | apply (zs65 ?_) | apply (zs68 ?_) | apply (zs69 ?_) | apply (zs70 ?_) | fail)
  rename_i g0 g2 r5 r6 r7 gp gm g3 gl gc g4
  apply Uk (.n1 0 (.n1 1 (.n1 6 (.n2 2 (.n2 3 (.n1 4 (.n2 5 (.n1 7 (.n1 8 .done)) 7 (.n1 5 (.n1 8 .done)))) 7 (.n1 3 (.n1 4 (.n1 5 (.n1 8 .done))))) 7 (.n1 2 (.n1 3 (.n1 4 (.n1 5 (.n1 8 .done))))))))) [9] [true, false, false, true]
  kernel_rfl
  kernel_rfl
  exact zy
  (simp only [Yk, nthO]; rfl)
  repeat' (first | apply (zs2 ?_) | (apply zg3; refine zs8 ?_) | (apply zg22; refine zs51 ?_) | (apply zg25; refine zs55 ?_) | (apply zg26; (refine zs56 ?_; intro _)) | apply (zs65 ?_) | (apply Yo; exact zp) | apply (zs68 ?_) | apply (zs74 ?_) | apply (zs87 ?_) | (apply Yl; (repeat (first | with_reducible exact Yh | (with_reducible apply Yf; (repeat (first | with_reducible exact Yg | with_reducible apply Ye)))))) | (apply Um; exact zp) | apply (zs90 ?_) | apply (zs91 ?_ ?_) | (apply X0; (repeat (first | with_reducible exact Yh | (with_reducible apply Yf; (repeat (first | with_reducible exact Yg | with_reducible apply Ye)))))) | apply (zs93 ?_) | apply (zs94 ?_) | fail)
  all_goals (
    rename_i gi gr gq
    apply Yfn T; exact rfl; exact rfl; exact rfl; exact rfl; exact zm; exact zm; exact rfl; exact rfl; exact rfl; exact rfl; exact fun w hw => hw
    refine ⟨⟨3, (some ⟨gp, 0, none⟩), 3, [⟨(some ⟨r5, 0, none⟩), 3, [0, 9, 9]⟩, ⟨(some ⟨r6, 0, none⟩), 3, [9, 0, 9]⟩, ⟨(some ⟨r7, 0, none⟩), 3, [9, 9, 0]⟩], 1, 1000, (some ⟨gl, 0, none⟩), 4, [(0, 1, 1), (1, 0, 0), (1, 2, 1), (2, 1, 0)], (some ⟨gm, 0, none⟩), 4, [9, 9, 9, 9]⟩, (some ⟨gq, 0, none⟩), 1, [⟨(3, 0, 2, 6, 0, 6), (some ⟨gr, 0, none⟩), 1, [⟨(some ⟨gi, 0, none⟩), 3, [0, 1, 2]⟩]⟩], ⟨6, 1, (some ⟨gc, 0, none⟩), 5, exZ.cells⟩, rfl, rfl, rfl, rfl, ?_, ?_, ?_, ?_⟩
    · refine ⟨Rd.blk (cs := #[.slice (some ⟨r5, 0, none⟩) 3 3, .slice (some ⟨r6, 0, none⟩) 3 3, .slice (some ⟨r7, 0, none⟩) 3 3]) (t := 24) (fr := (0, 0)) zm, fun r hr => ?_, Rd.blk (cs := #[.int .i64 0, .int .i64 1, .int .i64 1, .int .i64 1, .int .i64 0, .int .i64 0, .int .i64 1, .int .i64 2, .int .i64 1, .int .i64 2, .int .i64 1, .int .i64 0]) (t := 172) (fr := (0, 0)) zm, Rd.blk (cs := #[.int .i64 9, .int .i64 9, .int .i64 9, .int .i64 9]) (t := 3) (fr := (0, 0)) zm, by show 3 ≤ _; omega, fun r hr => ?_, by show 4 ≤ _; omega, by show 4 ≤ _; omega⟩
      · simp only [List.mem_cons, List.not_mem_nil, or_false] at hr
        rcases hr with rfl | rfl | rfl
        · exact Rd.blk (cs := #[.int .i64 0, .int .i64 9, .int .i64 9]) (t := 3) (fr := (0, 0)) zm
        · exact Rd.blk (cs := #[.int .i64 9, .int .i64 0, .int .i64 9]) (t := 3) (fr := (0, 0)) zm
        · exact Rd.blk (cs := #[.int .i64 9, .int .i64 9, .int .i64 0]) (t := 3) (fr := (0, 0)) zm
      · simp only [List.mem_cons, List.not_mem_nil, or_false] at hr
        rcases hr with rfl | rfl | rfl <;> (show 3 ≤ _; omega)
    · refine ⟨Rd.blk (cs := #[.int .i64 3, .int .i64 0, .int .i64 2, .int .i64 6, .int .i64 0, .int .i64 6, .slice (some ⟨gr, 0, none⟩) 1 1]) (t := 70) (fr := (0, 0)) zm, fun x hx => ?_, by show 1 ≤ _; omega⟩
      obtain rfl := List.mem_singleton.1 hx
      refine ⟨Rd.blk (cs := #[.slice (some ⟨gi, 0, none⟩) 3 3]) (t := 72) (fr := (0, 0)) zm, fun r hr => ?_, by show 1 ≤ _; omega, fun r hr => ?_⟩
      · obtain rfl := List.mem_singleton.1 hr
        exact Rd.blk (cs := #[.int .i64 0, .int .i64 1, .int .i64 2]) (t := 3) (fr := (0, 0)) zm
      · obtain rfl := List.mem_singleton.1 hr
        exact ⟨by show 3 ≤ _; omega, by show 3 ≤ 3; omega⟩
    · exact Rd.blk (cs := #[.int .i64 0, .int .i64 0, .int .i64 0, .int .i64 1, .int .i64 3, .int .i64 1, .int .i64 0, .int .i64 1, .int .i64 2, .int .i64 3, .int .i64 2, .int .i64 0, .int .i64 0, .int .i64 1, .int .i64 3, .int .i64 3, .int .i64 0, .int .i64 1, .int .i64 2, .int .i64 3, .int .i64 4, .int .i64 0, .int .i64 1, .int .i64 2, .int .i64 3]) (t := 40) (fr := (0, 0)) zm
    · exact zk)
open Go.RowKit Go.Eng Go.Nw Go.Rt
def exK : Clm := ⟨3, [[0, 1, 2]], [5], [0], [[0, 2, 3, 4]]⟩
theorem Ye5 : XS exN8 exQ exZ = ([exK], (-1, 0)) := by decide
theorem Ybk : VB [exK] = true := by decide
theorem Yg1 : bndE [exK] 3 = (5, true) := by decide
def QI : List UInt8 := [102, 108, 111, 119, 32, 51, 10, 114, 111, 117, 116, 101, 32, 48, 32, 49, 32, 50, 10, 98, 111, 117, 110, 100, 32, 53, 32, 48, 10, 115, 108, 111, 116, 115, 32, 48, 32, 50, 32, 51, 32, 52, 10]
theorem Ybl : ON [exK] = QI := by
  have h0 : Lib.itoa 0 = [48] := JY (by omega)
  have h1 : Lib.itoa 1 = [49] := JY (by omega)
  have h2 : Lib.itoa 2 = [50] := JY (by omega)
  have h3 : Lib.itoa 3 = [51] := JY (by omega)
  have h4 : Lib.itoa 4 = [52] := JY (by omega)
  have h5 : Lib.itoa 5 = [53] := JY (by omega)
  unfold ON Zy exK
  simp only [List.flatMap_cons, List.flatMap_nil, List.length_cons, List.length_nil, show List.range (0 + 1) = [0] from rfl]
  unfold YdC YO rtAt
  simp [h0, h1, h2, h3, h4, h5, QI, wordF, wordR, wordB, wordL]
set_option maxRecDepth 10000 in
set_option maxHeartbeats 4000000 in
theorem OQ {B : Nat} {w0 : World} {H : List HP} {w : World} (ht : TabsB B w0) (hw : St B w0 H w) :
    Calls Tryz.prog 17 [].toArray w (Post B w0 fun v K => v = .bool true ∧ K = H) := by
  refine Yc Tryz.func17 Tryz.ntmps17 rfl rfl hw ?_
  have hpr : Ue [exK] = (QI, 0) := by unfold Ue; rw [Ybk, if_neg (by decide), Ybl]
  have hpa : WY QI = ([exK], (-1, 0)) := by rw [← Ybl]; exact Yci Ybk
  repeat' (first | apply (zs2 ?_) | apply (zs65 ?_) | apply (zs68 ?_) | apply (zs69 ?_) | apply (zs70 ?_) | fail)
  apply Yq _ en65
  exact za
  exact rfl
  exact fun _ hw => (Yee (hw))
  rintro _ K0 ⟨n, A, cap, q, s, rfl, hn, hq, hs, hin, hqin, hrs, hback⟩
  have hsl : s.cells.length ≤ 1000000000000 := by
    have h1 : s.sch.cells.length = 5 := by rw [hs]; rfl
    have h2 : s.cells.length = 5 := h1
    omega
  have p1 : ∀ {H' : List HP} {w : World}, n.In B w0 H' → QIn B w0 H' A q → Rd B w0 H' s.A (s.cells.flatMap celF) → St B w0 H' w → Calls Tryz.prog 19 [n.val, .slice A q.length cap, s.val].toArray w (Post B w0 (OutC H' ([exK], (-1, 0)))) := fun hin hqin hrs hw => by
    have h := WW n q s (cap := cap) ht hin hqin hrs hsl hw
    rw [hn, hq, hs, Ye5] at h
    exact h
  have hchk : chkE exN8 exQ exZ [exK] = (-1, 0) := by unfold chkE; rw [Ye5]; decide
  unfold NetM.val SchM.val
  unfold NetM.val SchM.val at p1
  repeat' (first | apply (zs1 ?_) | apply (zs2 ?_) | (apply zg3; refine zs8 ?_) | apply (zs13 ?_) | (apply zg22; refine zs51 ?_) | (apply zg24; (refine zs54 ?_; intro _)) | apply (zs65 ?_) | apply (zs68 ?_) | apply (zs69 ?_) | apply (zs70 ?_) | fail)
  apply Yq _ en19
  exact za
  exact rfl
  exact fun _ hw => (p1 (hin.mono zk) (hqin.mono zk) (hrs.mono zk) (hw))
  rintro _ _ ⟨A2, cap2, C, rfl, hC, hCl, rfl⟩
  have hC : C.map ClM.clm = [exK] := hC
  have hCn : C.length = 1 := by have := congrArg List.length hC; rwa [List.length_map] at this
  have hcin : ∀ {H' : List HP}, clsP A2 cap2 C ∈ H' → many (C.map clQ) ∈ H' → CIn B w0 H' A2 C := fun h1 h2 => ⟨.sl h1, fun x hx => Vq h2 hx (hCl x hx), by omega⟩
  have p2 : ∀ {H' : List HP} {w : World}, CIn B w0 H' A2 C → St B w0 H' w → Calls Tryz.prog 25 [.slice A2 C.length cap2].toArray w (Post B w0 fun v K => v = .tuple #[strV QI, .int .i64 0] ∧ K = H') := fun hc hw => by
    have h := YcZ C (cap := cap2) ht hc hw
    rw [hC, hpr] at h
    exact h
  have p3 : ∀ {H' : List HP} {w : World}, n.In B w0 H' → QIn B w0 H' A q → Rd B w0 H' s.A (s.cells.flatMap celF) → CIn B w0 H' A2 C → St B w0 H' w → Calls Tryz.prog 23 [n.val, .slice A q.length cap, s.val, .slice A2 C.length cap2].toArray w (Post B w0 fun v K => v = .tuple #[.int .i64 (-1), .int .i64 0] ∧ K = H') := fun hin hqin hrs hc hw => by
    have h := Wf n q s C (cap := cap) (cap1 := cap2) ht hin hqin hrs hsl hc hw
    rw [hn, hq, hs, hC, hchk] at h
    exact h
  have p4 : ∀ {H' : List HP} {w : World}, St B w0 H' w → Calls Tryz.prog 27 [strV QI].toArray w (Post B w0 (OutC H' ([exK], (-1, 0)))) := fun hw => by
    have h := YcY QI (by decide) ht hw
    rw [hpa] at h
    exact h
  have p5 : ∀ {H' : List HP} {w : World}, CIn B w0 H' A2 C → St B w0 H' w → Calls Tryz.prog 37 [.slice A2 C.length cap2, .int .i64 3].toArray w (Post B w0 fun v K => v = .tuple #[.int .i64 5, .bool true] ∧ K = H') := fun hc hw => by
    have h := YcQ C 3 (cap := cap2) hc hw
    rw [hC, Yg1] at h
    exact h
  unfold NetM.val SchM.val at p3
  repeat' (first | apply (zs1 ?_) | apply (zs2 ?_) | apply (zs13 ?_) | apply (zs65 ?_) | apply (zs68 ?_) | apply (zs69 ?_) | apply (zs70 ?_) | fail)
  first | apply Ya en25 | apply Yb en25
  exact za
  exact rfl
  exact fun _ hw => (p2 (hcin zm zm) hw)
  repeat' (first | apply (zs1 ?_) | apply (zs2 ?_) | (apply zg3; refine zs8 ?_) | apply (zs13 ?_) | apply (zs65 ?_) | apply (zs68 ?_) | apply (zs69 ?_) | apply (zs70 ?_) | fail)
  first | apply Ya en23 | apply Yb en23
  exact za
  exact rfl
  exact fun _ hw => (p3 (hin.mono zk) (hqin.mono zk) (hrs.mono zk) (hcin zm zm) hw)
  repeat' (first | apply (zs1 ?_) | apply (zs2 ?_) | apply (zs13 ?_) | apply (zs65 ?_) | apply (zs68 ?_) | apply (zs69 ?_) | apply (zs70 ?_) | fail)
  apply Yq _ en27
  exact za
  exact rfl
  exact fun _ hw => (p4 (hw))
  rintro _ _ ⟨A3, cap3, C3, rfl, hC3, hCl3, rfl⟩
  have hC3 : C3.map ClM.clm = [exK] := hC3
  have hCn3 : C3.length = 1 := by have := congrArg List.length hC3; rwa [List.length_map] at this
  have hcin3 : ∀ {H' : List HP}, clsP A3 cap3 C3 ∈ H' → many (C3.map clQ) ∈ H' → CIn B w0 H' A3 C3 := fun h1 h2 => ⟨.sl h1, fun x hx => Vq h2 hx (hCl3 x hx), by omega⟩
  have p6 : ∀ {H' : List HP} {w : World}, CIn B w0 H' A2 C → CIn B w0 H' A3 C3 → St B w0 H' w → Calls Tryz.prog 21 [.slice A2 C.length cap2, .slice A3 C3.length cap3].toArray w (Post B w0 fun v K => v = .bool true ∧ K = H') := fun hc hd hw => by
    have h := Uh C C3 (cap := cap2) (cap2 := cap3) hc hd hw
    rw [hC, hC3, decide_eq_true rfl] at h
    exact h
  dsimp only
  repeat' (first | apply (zs1 ?_) | apply (zs2 ?_) | apply (zs13 ?_) | apply (zs65 ?_) | apply (zs68 ?_) | apply (zs69 ?_) | apply (zs70 ?_) | fail)
  first | apply Ya en37 | apply Yb en37
  exact za
  exact rfl
  exact fun _ hw => (p5 (hcin zm zm) hw)
  repeat' (first | (apply YhW; exact rfl; exact rfl; exact rfl; all_goals (intro hE; try (exact absurd rfl hE))) | apply (zs1 ?_) | apply (zs2 ?_) | (apply zg1; refine zs4 ?_) | (apply zg6; refine zs11 ?_) | apply (zs13 ?_) | (apply zg7; (refine zs15 ?_ ?_ <;> intro _ <;> try (exfalso; omega))) | apply (zs65 ?_) | apply (zs68 ?_) | apply (zs69 ?_) | apply (zs70 ?_) | fail)
  first | apply Ya en21 | apply Yb en21
  exact za
  exact rfl
  exact fun _ hw => (p6 (hcin zm zm) (hcin3 zm zm) hw)
  repeat' (first | apply (zs1 ?_) | apply (zs2 ?_) | (apply zg1; refine zs4 ?_) | (apply zg6; refine zs11 ?_) | (apply zg7; (refine zs15 ?_ ?_ <;> intro _ <;> try (exfalso; omega))) | apply (zs65 ?_) | apply (zs68 ?_) | apply (zs74 ?_) | fail)
  apply Yi H
  · intro w hw
    refine hback w ?_
    revert w
    exact zk
  apply Yd; exact rfl; exact rfl
  exact ⟨rfl, rfl⟩
open Go.RowKit Go.Eng Go.Nw Go.Rt
theorem ClM.Bg.mono {B : Nat} {w0 : World} {H H' : List HP} {c : ClM} (h : c.Bg B w0 H) (hH : ∀ w, St B w0 H' w → St B w0 H w) : c.Bg B w0 H' := ⟨h.rt.mono hH, fun r hr => (h.rw_ r hr).mono hH, h.bd.mono hH, h.ws.mono hH, h.st.mono hH, fun r hr => (h.sw r hr).mono hH, h.ln, h.rl, h.sl⟩
theorem CBg.mono {B : Nat} {w0 : World} {H H' : List HP} {A : Option Addr} {c : List ClM} (h : CBg B w0 H A c) (hH : ∀ w, St B w0 H' w → St B w0 H w) : CBg B w0 H' A c := ⟨h.rd.mono hH, fun x hx => (h.x x hx).mono hH, h.ln⟩
set_option maxRecDepth 10000 in
set_option maxHeartbeats 4000000 in
theorem YiZ (n : NetM) (q : List RqM) (s : SchM) {A : Option Addr} {cap B : Nat} {w0 : World} {H : List HP} {w : World} (ht : TabsB B w0) (hin : n.In B w0 H) (hqb : QBg B w0 H A q) (hrs : Rd B w0 H s.A (s.cells.flatMap celF)) (hsl : s.cells.length ≤ 9223372036854775807) (hw : St B w0 H w) :
    Calls Tryz.prog 4 [n.val, .slice A q.length cap, s.val].toArray w (Post B w0 fun v K => v = .bool true ∧ K = H) := by
  refine Yc Tryz.func4 Tryz.ntmps4 rfl rfl hw ?_
  have p0 := fun {H' : List HP} {w : World} (hin : n.In B w0 H') (hqb : QBg B w0 H' A q) (hw : St B w0 H' w) => QK n q s (cap := cap) hin hqb hsl hw
  unfold NetM.val SchM.val
  unfold NetM.val SchM.val at p0
  repeat' (first | apply (zs2 ?_) | (apply zg23; (refine zs52 ?_; intro _)) | apply (zs65 ?_) | apply (zs68 ?_) | apply (zs69 ?_) | apply (zs70 ?_) | fail)
  first | apply Ya en17 | apply Yb en17
  exact za
  exact rfl
  exact fun _ hw => (OQ ht hw)
  repeat' (first | apply (zs1 ?_) | (apply zg3; refine zs8 ?_) | (apply zg20; refine zs47 ?_) | apply (zs65 ?_) | apply (zs68 ?_) | apply (zs69 ?_) | apply (zs70 ?_) | (apply zg27; refine zs72 ?_) | apply (zs76 ?_) | fail)
  apply Yq _ en18
  exact za
  exact rfl
  exact fun _ hw => (p0 (hin.mono zk) (hqb.mono zk) (hw))
  rintro _ _ ⟨⟨b, rfl, hfew⟩, hK0⟩
  rw [hK0]
  cases b with
  | false =>
    repeat' (first | apply (zs2 ?_) | (apply zg20; refine zs48 ?_) | apply (zs65 ?_) | apply (zs68 ?_) | apply (zs69 ?_) | apply (zs70 ?_) | (apply zg27; refine zs71 ?_) | apply (zs74 ?_) | apply (zs77 ?_) | fail)
    apply Yi H
    · exact zk
    apply Yd; exact rfl; exact rfl; exact ⟨rfl, rfl⟩
  | true =>
  have hfew := hfew rfl
  have hq := hqb.small hfew
  have hsl2 : s.cells.length ≤ 1000000000000 := by have := hfew.2.1; omega
  have hq4 := hfew.1
  obtain ⟨⟨RC, ri, re⟩, hR⟩ : ∃ R, XS n.net (q.map RqM.rq) s.sch = R := ⟨_, rfl⟩
  have hRl : RC.length ≤ q.length := by
    by_cases he : re = 0
    · have hce := Yh6 (n := n.net) (q := q.map RqM.rq) (s := s.sch) (by rw [hR]; exact he)
      rw [hR] at hce
      injection hce with e1 _
      rw [e1, List.length_map, List.length_map]
      exact Nat.le_refl _
    · have hb := (YgQ (n := n.net) (q := q.map RqM.rq) (s := s.sch) (by rw [hR]; exact he)).1
      rw [hR] at hb
      have hb : RC = [] := hb
      rw [hb]; exact Nat.zero_le _
  have p1 := fun {H' : List HP} {w : World} (hin : n.In B w0 H') (hq : QIn B w0 H' A q) (hrs : Rd B w0 H' s.A (s.cells.flatMap celF)) (hw : St B w0 H' w) => WW n q s (cap := cap) ht hin hq hrs hsl2 hw
  have p2 := fun {H' : List HP} {w : World} (hin : n.In B w0 H') (hq : QIn B w0 H' A q) (hrs : Rd B w0 H' s.A (s.cells.flatMap celF)) (hw : St B w0 H' w) => Yae n q s (cap := cap) hin hq hrs hsl2 hw
  rw [hR] at p1 p2
  unfold OutC NetM.val SchM.val at p1 p2
  dsimp only at p1 p2
  repeat' (first | apply (zs1 ?_) | (apply zg3; refine zs8 ?_) | (apply zg20; refine zs47 ?_) | apply (zs65 ?_) | apply (zs68 ?_) | apply (zs69 ?_) | apply (zs70 ?_) | (apply zg27; refine zs72 ?_) | apply (zs76 ?_) | fail)
  apply Yq _ en19
  exact za
  exact rfl
  exact fun _ hw => (p1 (hin.mono zk) (hq.mono zk) (hrs.mono zk) (hw))
  rintro _ _ ⟨A2, cap2, C, rfl, hC, hCl, rfl⟩
  have hCn : C.length ≤ q.length := by have := congrArg List.length hC; rw [List.length_map] at this; omega
  repeat' (first | apply (zs1 ?_) | apply (zs2 ?_) | (apply zg3; refine zs8 ?_) | apply (zs13 ?_) | apply (zs65 ?_) | apply (zs68 ?_) | apply (zs69 ?_) | apply (zs70 ?_) | fail)
  apply Yq _ en20
  exact za
  exact rfl
  exact fun _ hw => (p2 (hin.mono zk) (hq.mono zk) (hrs.mono zk) (hw))
  rintro _ _ ⟨A3, cap3, D, rfl, hD, hDl, rfl⟩
  have hDn : D.length ≤ q.length := by have := congrArg List.length hD; rw [List.length_map] at this; omega
  have hcin : ∀ {H' : List HP}, clsP A2 cap2 C ∈ H' → many (C.map clQ) ∈ H' → CIn B w0 H' A2 C := fun h1 h2 => ⟨.sl h1, fun x hx => Vq h2 hx (hCl x hx), by omega⟩
  have hdin : ∀ {H' : List HP}, clsP A3 cap3 D ∈ H' → many (D.map clQ) ∈ H' → CIn B w0 H' A3 D := fun h1 h2 => ⟨.sl h1, fun x hx => Vq h2 hx (hDl x hx), by omega⟩
  have p6 : ∀ {H' : List HP} {w : World}, CIn B w0 H' A2 C → CIn B w0 H' A3 D → St B w0 H' w → Calls Tryz.prog 21 [.slice A2 C.length cap2, .slice A3 D.length cap3].toArray w (Post B w0 fun v K => v = .bool true ∧ K = H') := fun hc hd hw => by
    have h := Uh C D (cap := cap2) (cap2 := cap3) hc hd hw
    rw [hC, hD, decide_eq_true rfl] at h
    exact h
  repeat' (first | apply (zs1 ?_) | apply (zs2 ?_) | apply (zs13 ?_) | apply (zs65 ?_) | apply (zs68 ?_) | apply (zs69 ?_) | apply (zs70 ?_) | fail)
  first | apply Ya en21 | apply Yb en21
  exact za
  exact rfl
  exact fun _ hw => (p6 (hcin zm zm) (hdin zm zm) hw)
  repeat' (first | apply (zs1 ?_) | apply (zs2 ?_) | (apply zg1; refine zs4 ?_) | (apply zg6; refine zs11 ?_) | (apply zg7; (refine zs15 ?_ ?_ <;> intro _ <;> try (exfalso; omega))) | apply (zs65 ?_) | apply (zs68 ?_) | apply (zs74 ?_) | fail)
  apply Yi H
  · exact zk
  apply Yd; exact rfl; exact rfl; exact ⟨rfl, rfl⟩
set_option maxRecDepth 10000 in
set_option maxHeartbeats 4000000 in
theorem Yib (n : NetM) (q : List RqM) (s : SchM) (c : List ClM) {A A1 : Option Addr} {cap cap1 B : Nat} {w0 : World} {H : List HP} {w : World} (ht : TabsB B w0) (hin : n.In B w0 H) (hqb : QBg B w0 H A q) (hrs : Rd B w0 H s.A (s.cells.flatMap celF)) (hsl : s.cells.length ≤ 9223372036854775807) (hcb : CBg B w0 H A1 c) (hw : St B w0 H w) :
    Calls Tryz.prog 5 [n.val, .slice A q.length cap, s.val, .slice A1 c.length cap1].toArray w (Post B w0 fun v K => v = .bool true ∧ K = H) := by
  refine Yc Tryz.func5 Tryz.ntmps5 rfl rfl hw ?_
  have p0 := fun {H' : List HP} {w : World} (hin : n.In B w0 H') (hqb : QBg B w0 H' A q) (hw : St B w0 H' w) => QK n q s (cap := cap) hin hqb hsl hw
  have p9 := fun {H' : List HP} {w : World} (hc : CBg B w0 H' A1 c) (hw : St B w0 H' w) => QL c (cap := cap1) hc hw
  unfold NetM.val SchM.val
  unfold NetM.val SchM.val at p0
  repeat' (first | apply (zs2 ?_) | (apply zg23; (refine zs52 ?_; intro _)) | apply (zs65 ?_) | apply (zs68 ?_) | apply (zs69 ?_) | apply (zs70 ?_) | fail)
  first | apply Ya en17 | apply Yb en17
  exact za
  exact rfl
  exact fun _ hw => (OQ ht hw)
  repeat' (first | apply (zs1 ?_) | (apply zg3; refine zs8 ?_) | (apply zg20; refine zs47 ?_) | apply (zs65 ?_) | apply (zs68 ?_) | apply (zs69 ?_) | apply (zs70 ?_) | (apply zg27; refine zs72 ?_) | apply (zs76 ?_) | fail)
  apply Yq _ en18
  exact za
  exact rfl
  exact fun _ hw => (p0 (hin.mono zk) (hqb.mono zk) (hw))
  rintro _ _ ⟨⟨b, rfl, hfew⟩, hK0⟩
  rw [hK0]
  cases b with
  | false =>
    repeat' (first | apply (zs1 ?_) | apply (zs2 ?_) | (apply zg1; refine zs3 ?_) | (apply zg6; refine zs11 ?_) | (apply zg20; refine zs48 ?_) | apply (zs65 ?_) | apply (zs68 ?_) | apply (zs69 ?_) | apply (zs70 ?_) | (apply zg27; refine zs71 ?_) | apply (zs74 ?_) | apply (zs77 ?_) | fail)
    apply Yi H
    · exact zk
    apply Yd; exact rfl; exact rfl; exact ⟨rfl, rfl⟩
  | true =>
  have hfew := hfew rfl
  have hq := hqb.small hfew
  have hsl2 : s.cells.length ≤ 1000000000000 := by have := hfew.2.1; omega
  repeat' (first | apply (zs1 ?_) | (apply zg1; refine zs4 ?_) | (apply zg20; refine zs47 ?_) | fail)
  apply Yq _ en22
  exact za
  exact rfl
  exact fun _ hw => (p9 (hcb.mono zk) (hw))
  rintro _ _ ⟨⟨b2, rfl, hfc⟩, hK1⟩
  rw [hK1]
  cases b2 with
  | false =>
    repeat' (first | apply (zs2 ?_) | (apply zg1; refine zs4 ?_) | (apply zg6; refine zs12 ?_) | (apply zg20; refine zs48 ?_) | apply (zs65 ?_) | apply (zs68 ?_) | apply (zs69 ?_) | apply (zs70 ?_) | (apply zg27; refine zs71 ?_) | apply (zs74 ?_) | apply (zs77 ?_) | fail)
    apply Yi H
    · exact zk
    apply Yd; exact rfl; exact rfl; exact ⟨rfl, rfl⟩
  | true =>
  have hc := hcb.small (hfc rfl)
  obtain ⟨⟨ri, re⟩, hR⟩ : ∃ R, chkE n.net (q.map RqM.rq) s.sch (c.map ClM.clm) = R := ⟨_, rfl⟩
  have p1 := fun {H' : List HP} {w : World} (hin : n.In B w0 H') (hq : QIn B w0 H' A q) (hrs : Rd B w0 H' s.A (s.cells.flatMap celF)) (hc : CIn B w0 H' A1 c) (hw : St B w0 H' w) => Wf n q s c (cap := cap) (cap1 := cap1) ht hin hq hrs hsl2 hc hw
  have p2 := fun {H' : List HP} {w : World} (hin : n.In B w0 H') (hq : QIn B w0 H' A q) (hrs : Rd B w0 H' s.A (s.cells.flatMap celF)) (hc : CIn B w0 H' A1 c) (hw : St B w0 H' w) => YaL n q s c (cap := cap) (cap1 := cap1) hin hq hrs hsl2 hc hw
  rw [hR] at p1 p2
  unfold NetM.val SchM.val at p1 p2
  dsimp only at p1 p2
  repeat' (first | apply (zs1 ?_) | (apply zg1; refine zs4 ?_) | (apply zg3; refine zs8 ?_) | (apply zg6; refine zs12 ?_) | (apply zg20; refine zs47 ?_) | apply (zs65 ?_) | apply (zs68 ?_) | apply (zs69 ?_) | apply (zs70 ?_) | (apply zg27; refine zs72 ?_) | apply (zs76 ?_) | fail)
  first | apply Ya en23 | apply Yb en23
  exact za
  exact rfl
  exact fun _ hw => (p1 (hin.mono zk) (hq.mono zk) (hrs.mono zk) (hc.mono zk) hw)
  repeat' (first | apply (zs1 ?_) | apply (zs2 ?_) | (apply zg3; refine zs8 ?_) | apply (zs13 ?_) | apply (zs65 ?_) | apply (zs68 ?_) | apply (zs69 ?_) | apply (zs70 ?_) | fail)
  first | apply Ya en24 | apply Yb en24
  exact za
  exact rfl
  exact fun _ hw => (p2 (hin.mono zk) (hq.mono zk) (hrs.mono zk) (hc.mono zk) hw)
  repeat' (first | apply (zs1 ?_) | apply (zs2 ?_) | (apply zg1; refine zs4 ?_) | (apply zg6; refine zs11 ?_) | apply (zs13 ?_) | (apply zg7; (refine zs15 ?_ ?_ <;> intro _ <;> try (exfalso; omega))) | apply (zs65 ?_) | apply (zs68 ?_) | apply (zs69 ?_) | apply (zs70 ?_) | apply (zs74 ?_) | fail)
  apply Yi H
  · exact zk
  apply Yd; exact rfl; exact rfl; exact ⟨rfl, rfl⟩
open Go.ChangeShapes Go.WideShapes Go.ChangeAt Go.RowKit Go.Eng
section
variable {H : Type} {enc : TypeId × Value → H}
theorem Ye7 {a : Assume} {C : Checked} {os : Os} {f : FuncId} {fn : Func} {s : ChangeSpec} {conds : List PathCond} {apart fresh handsOn again : Bool} {X : World → Prop} (hX : ∀ w w' : World, w.heap = w'.heap → X w → X w')
    (own : ownKnob C.prog.godebug = none) (started : os.Started) (noInit : C.prog.inits.idxOf? f = none) (hfn : C.prog.funcs[f]? = some fn)
    (witness : ∃ (w : World) (tape : Tape) (i : Input), w.os = os ∧ (w.forCall tape i).Shaped C.prog ∧ i.vars = [] ∧ Input.okWide C.prog (w.forCall tape i) .any w.heap.size f i ∧
      ((s.pre enc C.prog fn conds apart (w.forCall tape i).memory i.args ∧ X (w.forCall tape i).memory) ∧ sizedMet enc C.prog fn (OpenSpec.ofChange s) apart (w.forCall tape i).memory i.args) ∧ a.holds C.prog (lone (Frame.enter C.prog f i.args .normal) [] (w.forCall tape i)))
    (contract : ∀ (W : World) (base : Nat) (args : Array Value) (ds gs : List (DataW H)) (before : List MemPlace),
      (∀ (j : Nat) t v, fn.params[j]? = some t → args[j]? = some v → Value.okWide C.prog W .any base t v) →
      DataW.Whole enc C.prog fn.params.toList s.vars apart W args.toList ds gs before → X W → W.ShapedOpen C.prog →
      Calls C.prog f args W fun e W' => ∃ v, e = .returned v ∧ s.post enc C.prog fn apart fresh handsOn again W args v W') :
    ReturnsInHanded a C os f .any (fun w args => (s.pre enc C.prog fn conds apart w args ∧ X w) ∧ sizedMet enc C.prog fn (OpenSpec.ofChange s) apart w args) (s.post enc C.prog fn apart fresh handsOn again) := by
  refine returnsInHanded_of_calls own started noInit witness ?_
  intro w tape i _ hsh _ hok hpre _
  obtain ⟨_, _, _, fn', hfn', _, _, _, _, hval⟩ := hok
  have e : fn' = fn := Option.some.inj (hfn'.symm.trans hfn)
  subst e
  obtain ⟨⟨⟨ds, gs, before, hw, _⟩, hx⟩, _⟩ := hpre
  have hw' := DataW.Whole.of_heap (w' := w.forCall tape i) (by rfl) hw
  refine (contract (w.forCall tape i) w.heap.size i.args ds gs before hval hw' (hX _ _ (by rfl) hx) hsh).mono fun e W' ⟨v, he, hp⟩ => ?_
  subst he
  exact ChangeSpec.post_blind hp
end
def QX : List (String × DataW Unit) := [("math/bits.deBruijn32tab", Rows.laid_math_bits_deBruijn32tab), ("math/bits.deBruijn64tab", Rows.laid_math_bits_deBruijn64tab), ("internal/strconv.uint64pow10", Rows.laid_internal_strconv_uint64pow10), ("unicode/utf8.acceptRanges", Rows.laid_unicode_utf8_acceptRanges), ("strconv.ErrRange", Rows.laid_strconv_ErrRange), ("strconv.ErrSyntax", Rows.laid_strconv_ErrSyntax), ("unicode/utf8.first", Rows.laid_unicode_utf8_first)]
def litV : DataW Unit → Value
  | .lit (.int k z) => .int k z
  | _ => .bool false
def Yj7 : DataW Unit → List Value
  | .agg l => l.map litV
  | _ => []
noncomputable def Ybv (os : Os) : World :=
  let w0 := World.doorLaid Tryz.prog 72 os
  { w0 with heap := w0.heap.modify ((Tryz.prog.globalNamed "unicode/utf8.first").getD 0) fun
      | .cells _ t frozen => .cells (Yj7 Go.Pinned.utf8First).toArray t frozen
      | o => o }
theorem Oz (w : World) : laidMetH Tryz.prog QX w = laidMet Tryz.prog QX w := MakeChecks.laidMetH_plain _ _ _ (by kernel_rfl)
theorem YhI (os : Os) (args : Array Value) : laidMetH Tryz.prog QX ((Ybv os).forCall (fun _ _ => 0) ⟨#[], args, []⟩).memory := by
  rw [Oz]
  exact laidMet_of_run3 8 (by kernel_rfl) (by kernel_rfl) (by kernel_rfl)
theorem YfG (os : Os) (args : Array Value) : ((Ybv os).forCall (fun _ _ => 0) ⟨#[], args, []⟩).Shaped Tryz.prog := World.shaped_of_RefB (by kernel_rfl) (by kernel_rfl)
theorem W7 {W w : World} {n : String} {cs : Array Value} (h : W.var? Tryz.prog n = some cs) (hb : Below W.heap.size W w) : w.var? Tryz.prog n = some cs := by
  unfold World.var? at h ⊢
  cases hg : Tryz.prog.globalNamed n with
  | none => rw [hg] at h; cases h
  | some g =>
    rw [hg] at h
    simp only [Option.bind_some] at h ⊢
    rcases Nat.lt_or_ge g W.heap.size with hlt | hge
    · rw [hb.block g hlt]; exact h
    · rw [Array.getElem?_eq_none hge] at h; cases h
theorem Yc2 {W : World} {n : String} {s : String} {d : DataW Unit} (hT : (Tryz.prog.globalNamed n).bind (fun g => (Tryz.prog.globals[g]?).map (·.type)) = some 134) (h : Lib.VarReads Tryz.prog W n (.iface s d)) : ∃ tp p, W.var? Tryz.prog n = some #[.iface tp p] := by
  obtain ⟨g, t, cs, fuel, p, h1, h2, h3, h4⟩ := h
  rw [h1] at hT
  obtain rfl : t = 134 := Option.some.inj (h2.symm.trans hT)
  obtain ⟨_, u, v, e, _⟩ := iface_of_trod Tryz.underlying134 h4
  refine ⟨u, v, ?_⟩
  rw [h3, Array.eq_one_of_toList e]
theorem tabs_of {W : World} (hL : laidMetH Tryz.prog QX W) (hsh : W.ShapedOpen Tryz.prog) : TabsB W.heap.size W := by
  rw [Oz] at hL
  have hpow : Lib.TabIs Tryz.prog W "internal/strconv.uint64pow10" .u64 Lib.pow10Tab := by
    obtain ⟨g, t, cs, fuel, p, h1, h2, h3, h4⟩ := Lib.laidMet.reads hL (n := "internal/strconv.uint64pow10") (d := Rows.laid_internal_strconv_uint64pow10) (by unfold QX; simp)
    have hT : (Tryz.prog.globalNamed "internal/strconv.uint64pow10").bind (fun g => (Tryz.prog.globals[g]?).map (·.type)) = some 334 := by kernel_rfl
    rw [h1] at hT
    obtain rfl : t = 334 := Option.some.inj (h2.symm.trans hT)
    have h5 : Rows.laid_internal_strconv_uint64pow10 (H := Unit) = Lib.tabData .u64 Lib.pow10Tab := by kernel_rfl
    rw [h5] at h4
    have h6 := Lib.cells_of_tab Tryz.underlying334 Tryz.underlying277 (by kernel_rfl) (by kernel_rfl) h4
    unfold Lib.TabIs
    rw [h3, ← h6]
  obtain ⟨tp1, p1, hsy⟩ := Yc2 (n := "strconv.ErrSyntax") (by kernel_rfl) (Lib.laidMet.reads hL (n := "strconv.ErrSyntax") (d := Rows.laid_strconv_ErrSyntax) (by unfold QX; simp))
  obtain ⟨tp2, p2, hrg⟩ := Yc2 (n := "strconv.ErrRange") (by kernel_rfl) (Lib.laidMet.reads hL (n := "strconv.ErrRange") (d := Rows.laid_strconv_ErrRange) (by unfold QX; simp))
  obtain ⟨m, hm⟩ := Go.Proofs.cell_of_shapedOpen_int (P := Tryz.prog) (g := 0) (k := .i64) (zero := #[.int .i64 0]) (t := 3) hsh (of_decide_eq_true (by kernel_rfl)) (by kernel_rfl) rfl (by kernel_rfl) (by kernel_rfl) Tryz.underlying3
  intro w hb
  refine ⟨W7 hpow hb, ⟨tp1, p1, W7 hsy hb⟩, ⟨tp2, p2, W7 hrg hb⟩, m, ?_⟩
  have hlt : 0 < W.heap.size := by
    rcases Nat.eq_zero_or_pos W.heap.size with h | h
    · simp [World.cell?, Array.getElem?_eq_none (show W.heap.size ≤ 0 by omega)] at hm
    · exact h
  exact (hb.cell (p := ⟨0, 0, none⟩) hlt).trans hm
theorem Tryz.own : ownKnob Tryz.prog.godebug = none := by kernel_rfl
theorem Tryz.laidOut : laidOutB Tryz.prog = true := by kernel_rfl
end Go.Proofs.YtmalhidldgfeoaaGreatDoor
