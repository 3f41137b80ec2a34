/- Lemmas for the claim, part 4. -/
import Derived.Test.YtmalhidldgfeoaaGreatDoorQ3

namespace Go.Proofs.YtmalhidldgfeoaaGreatDoor
open Go.RowKit Go.Eng Go.Nw Go.Rt
def runW (x : WayM) (a : Int) : List (Cel × Int) := runP x.s.len (V4 x.s.sch x.f.1) (a + x.f.2.2.2.1) (YJ x.n.net x.r) a
def cntV (z : Cel × Int) : List Value := [celV z.1, .int .i64 z.2]
def YeP (x : WayM) (a : Int) : List (List Value) := (runW x a).map cntV
structure CtM where
  c : Nat
  a : Int
  L : List HP
structure CuM where
  k : Nat
  slot : Int
  a : Int
  c : Nat
  L : List HP
structure CvM where
  j : Nat
  k : Nat
  a : Int
  c : Nat
  L : List HP
theorem YhB {α : Type} {W r : List α} {c : Nat} {z : α} (hc : c ≤ W.length) (h : W = W.take c ++ z :: r) : W[c]? = some z ∧ c + 1 ≤ W.length ∧ W = W.take (c + 1) ++ r := by
  have hl : (W.take c).length = c := by rw [List.length_take]; omega
  have hg : W[c]? = some z := by
    rw [h, List.getElem?_append_right (by omega), hl, Nat.sub_self]; rfl
  refine ⟨hg, (List.getElem?_eq_some_iff.1 hg).1, ?_⟩
  rw [List.take_add_one, hg]
  conv => lhs; rw [h]
  simp
theorem YdS {α : Type} {W : List α} {c : Nat} (hc : c ≤ W.length) (h : W = W.take c ++ []) : c = W.length := by
  rw [List.append_nil] at h
  have := congrArg List.length h
  rw [List.length_take] at this
  omega
set_option maxRecDepth 10000 in
set_option maxHeartbeats 8000000 in
theorem Yb4 (x : WayM) (at0 : Int) (hok : Z6 x) (hat : 0 ≤ at0 ∧ at0 ≤ 1000000) (ga gw : Nat) {B : Nat} {w0 : World} {H : List HP} (hi : x.In B w0 H) :
    YaZ Tryz.prog 247 [.pointer (some ⟨ga, 0, none⟩), .pointer (some ⟨gw, 0, none⟩)] (YeP x at0) B w0 (intB ga at0 :: wayB gw x :: H) := by
  refine Yfi Tryz.func247 Tryz.ntmps247 rfl rfl ?_
  intro l SS XX hy L0 h0
  have hper := hok.per
  have hslen := hok.slen
  obtain ⟨W, hW⟩ : ∃ W, runW x at0 = W := ⟨_, rfl⟩
  have hxs : YeP x at0 = W.map cntV := by unfold YeP; rw [hW]
  rw [hxs] at hy ⊢
  rw [List.length_map]
  obtain ⟨endd, hend⟩ : ∃ e, at0 + x.f.2.2.2.1 = e := ⟨_, rfl⟩
  unfold runW at hW
  rw [hend] at hW
  unfold intB at hy ⊢
  iterate 3 (first | (apply zg23; (refine zs53 ?_; intro _)) | apply (zs69 ?_) | apply (zs70 ?_) | fail)
  rename_i gy
  apply Ygv
  apply O6
  apply XH
  refine UY (fun z : Nat × Nat => [(5, .pointer (some ⟨z.2, 0, none⟩)), (4, .pointer (some ⟨z.1, 0, none⟩)), (3, .pointer (some ⟨gy, 0, none⟩)), (1, .pointer (some ⟨ga, 0, none⟩)), (2, .pointer (some ⟨gw, 0, none⟩))])
    (fun z => intB z.1 at0 :: many L0 :: intB z.2 endd :: blk gy (.cells #[.func (.yield l) #[] #[]] 291 (0, 0)) :: intB ga at0 :: wayB gw x :: H) ?_ ?_
  · intro K hK
    repeat' (first | fail)
    apply Uk (.n1 0 (.n1 1 (.n1 2 (.n1 3 (.n1 4 (.n1 5 (.n2 6 (.n1 7 (.n1 8 .done)) 7 (.n1 6 (.n1 8 .done))))))))) [9] [false, false, true, true]
    kernel_rfl
    kernel_rfl
    exact zy
    (simp only [Yk, nthO]; rfl)
    repeat' (first | (apply zg2; refine zs6 ?_) | (apply zg3; refine zs7 ?_) | (apply zg13; refine zs30 ?_) | (apply zg22; refine zs50 ?_) | (apply zg24; (refine zs54 ?_; intro _)) | apply (zs65 ?_) | (apply Yo; exact zp) | apply (zs87 ?_) | (apply Yl; (repeat (first | with_reducible exact Yh | (with_reducible apply Yf; (repeat (first | with_reducible exact Yg | with_reducible apply Ye)))))) | (apply Um; exact zp) | apply (zs90 ?_) | apply (zs91 ?_ ?_) | (apply X0; (repeat (first | with_reducible exact Yh | (with_reducible apply Yf; (repeat (first | with_reducible exact Yg | with_reducible apply Ye)))))) | apply (zs93 ?_) | apply (zs94 ?_) | fail)
    · rename_i a b
      rw [hend]
      apply hK (a, b)
      · exact zu
      · unfold intB
        dsimp only
        exact zk
    · rename_i a b
      rw [hend]
      apply hK (b, a)
      · exact zu
      · unfold intB
        dsimp only
        exact zk
  rintro ⟨g4, g5⟩
  unfold intB
  dsimp only
  repeat' (first | (apply zg3; refine zs8 ?_) | apply (zs69 ?_) | apply (zs70 ?_) | fail)
  apply Yq _ YiV
  exact za
  exact rfl
  exact fun _ hw => (Q3 x (hw))
  rintro _ _ ⟨g2, rfl, rfl⟩
  repeat' (first | apply (zs65 ?_) | apply (zs68 ?_) | apply (zs73 ?_) | fail)
  have hiK : x.In B w0 (wayB g2 x :: blk g5 (.cells #[.int .i64 endd] 3 (0, 0)) :: blk gy (.cells #[.func (.yield l) #[] #[]] 291 (0, 0)) :: blk ga (.cells #[.int .i64 at0] 3 (0, 0)) :: wayB gw x :: H) := hi.cons.cons.cons.cons.cons
  refine Zf (gf := 285) (lb := [.pointer (some ⟨g2, 0, none⟩)]) (xs := ZD x) (wayB g2 x :: blk g5 (.cells #[.int .i64 endd] 3 (0, 0)) :: blk gy (.cells #[.func (.yield l) #[] #[]] 291 (0, 0)) :: blk ga (.cells #[.int .i64 at0] 3 (0, 0)) :: wayB gw x :: H) (fun y : CtM => [blk g4 (.cells #[.int .i64 y.a] 3 (0, 0)), many y.L])
    (fun k y => y.c ≤ W.length ∧ W = W.take y.c ++ runP x.s.len (V4 x.s.sch x.f.1) endd ((YJ x.n.net x.r).drop k) y.a ∧ SS y.c y.L ∧ at0 ≤ y.a ∧ y.a ≤ endd)
    (fun e K => e = .ret ∧ ∃ a L, (SS W.length L ∨ XX L) ∧ K = [blk g4 (.cells #[.int .i64 a] 3 (0, 0)), many L]) ⟨0, at0, L0⟩ rfl YiY (OB x g2 hok hiK (.head _)) rfl ?_ (by kernel_rfl) (by kernel_rfl) ?_ ⟨Nat.zero_le _, by simpa using hW.symm, h0, Int.le_refl _, by show at0 ≤ endd; omega⟩ ?_ ?_ ?_
  · intro args h
    obtain ⟨k, hk⟩ := List.mem_iff_getElem?.1 h
    obtain ⟨l, _, rfl⟩ := Vk hk
    rfl
  · simp only [List.cons_append, List.nil_append]
    exact zk
  · rintro l2 k args R ⟨c, a, L⟩ hk ⟨hc, hWk, hS, ha0, ha1⟩
    obtain ⟨lk, hlk, rfl⟩ := Vk hk
    have hbd := V5 hok hlk
    dsimp only at hc hWk hS ha0 ha1
    dsimp only [Uf, List.cons_append, List.nil_append]
    unfold lkV
    repeat' (first | (apply zg22; refine zs51 ?_) | (apply zg24; (refine zs54 ?_; intro _)) | apply (zs65 ?_) | apply (zs70 ?_) | fail)
    rename_i gl
    apply JN (Ye Yg)
    intro R'
    repeat' (first | apply (zs2 ?_) | (apply zg2; refine zs6 ?_) | (apply zg3; first | refine zs7 ?_ | refine zs8 ?_) | (apply zg13; refine zs30 ?_) | apply (zs65 ?_) | apply (zs68 ?_) | apply (zs69 ?_) | apply (zs70 ?_) | apply (zs73 ?_) | fail)
    have hfew := hok.few
    apply Yq _ Yj3
    exact za
    exact rfl
    exact fun _ hw => (Yd6 x lk (by omega) (hi.mono zk).s (hw))
    rintro _ _ ⟨A, cap, rfl, rfl⟩
    have hcsl : (V4 x.s.sch x.f.1 lk).length ≤ 512 := Nat.le_trans (List.length_filter_le _ _) hfew
    have hdk : (YJ x.n.net x.r).drop k = lk :: (YJ x.n.net x.r).drop (k + 1) := by
      obtain ⟨h1, h2⟩ := List.getElem?_eq_some_iff.1 hlk
      rw [← h2]; exact List.drop_eq_getElem_cons h1
    rw [hdk, Yhw] at hWk
    obtain ⟨cs, hcs⟩ : ∃ cs, V4 x.s.sch x.f.1 lk = cs := ⟨_, rfl⟩
    obtain ⟨ls, hls⟩ : ∃ ls, (YJ x.n.net x.r).drop (k + 1) = ls := ⟨_, rfl⟩
    obtain ⟨C, hC⟩ : ∃ C, V4 x.s.sch x.f.1 = C := ⟨_, rfl⟩
    rw [hcs, hls, hC] at hWk
    rw [hcs] at hcsl ⊢
    rw [hC, hls]
    unfold cels
    repeat' (first | apply (zs2 ?_) | (apply zg3; refine zs7 ?_) | apply (zs65 ?_) | apply (zs68 ?_) | apply (zs69 ?_) | apply (zs70 ?_) | apply (zs73 ?_) | fail)
    rw [show lk.2.2 + 1 = ((YX lk : Nat) : Int) from by unfold YX; omega]
    have hnl8 : YX lk ≤ 8 := by unfold YX; omega
    refine Yj (fun z : CuM => [(9, .int .i64 z.slot), (7, .int .i64 (z.k : Nat)), (8, .slice A cs.length cap), (6, .pointer (some ⟨gl, 0, none⟩)), (5, .pointer (some ⟨g5, 0, none⟩)), (4, .pointer (some ⟨g4, 0, none⟩)), (3, .pointer (some ⟨gy, 0, none⟩)), (1, .pointer (some ⟨ga, 0, none⟩)), (2, .pointer (some ⟨gw, 0, none⟩))])
      (fun z => R' :: blk g4 (.cells #[.int .i64 z.a] 3 (0, 0)) :: many z.L :: sl 40 5 A cs.length cap (cs.flatMap celF) :: blk gl (.cells #[.int .i64 lk.1, .int .i64 lk.2.1, .int .i64 lk.2.2] 172 (0, 0)) :: wayB g2 x :: blk g5 (.cells #[.int .i64 endd] 3 (0, 0)) :: blk gy (.cells #[.func (.yield l) #[] #[]] 291 (0, 0)) :: blk ga (.cells #[.int .i64 at0] 3 (0, 0)) :: wayB gw x :: H)
      (fun z => z.c ≤ W.length ∧ W = W.take z.c ++ VG x.s.len C endd cs ls (endd - z.slot).toNat z.k z.slot z.a ∧ SS z.c z.L ∧ (at0 ≤ z.a ∧ z.a ≤ endd) ∧ (at0 ≤ z.slot ∧ z.slot ≤ endd) ∧ z.k ≤ 8) (fun z => (endd - z.slot).toNat) ⟨YX lk, a, a, c, L⟩ ⟨hc, hWk, hS, ⟨ha0, ha1⟩, ⟨ha0, ha1⟩, hnl8⟩ ?_ ?_ ?_
    · exact zu
    · exact zk
    rintro ⟨kk, slot, a, c, L⟩ ⟨hc, hWk, hS, ⟨ha0, ha1⟩, ⟨hs0, hs1⟩, hk8⟩ K hK
    dsimp only at hc hWk hS ha0 ha1 hs0 hs1 hk8 ⊢
    by_cases hk0 : kk = 0
    · subst hk0
      rw [Yf9] at hWk
      clear hK
      repeat' (first | apply (zs1 ?_) | (apply (zs19 ?_ ?_) <;> intro _ <;> try (exfalso; omega)) | apply (zs65 ?_) | apply (zs68 ?_) | apply (zs69 ?_) | apply (zs70 ?_) | (apply zg27; refine zs72 ?_) | apply (zs75 ?_) | apply (zs79 ?_) | apply (zs80 ?_) | apply (zs81 ?_) | fail)
      apply Va (CtM.mk c a L)
      · exact ⟨hc, hWk, hS, ha0, ha1⟩
      · dsimp only [List.cons_append, List.nil_append]
        exact zk
    by_cases hse : endd ≤ slot
    · rw [show (endd - slot).toNat = 0 by omega, YhA hk0] at hWk
      have hce := YdS hc hWk
      rw [hce] at hS
      clear hK
      repeat' (first | apply (zs1 ?_) | (apply zg3; refine zs7 ?_) | (apply (zs19 ?_ ?_) <;> intro _ <;> try (exfalso; omega)) | (apply (zs20 ?_ ?_) <;> intro _ <;> try (exfalso; omega)) | apply (zs65 ?_) | apply (zs68 ?_) | apply (zs69 ?_) | apply (zs70 ?_) | (apply zg27; refine zs71 ?_) | apply (zs73 ?_) | apply (zs74 ?_) | apply (zs76 ?_) | apply (zs77 ?_) | apply (zs78 ?_) | fail)
      apply Qq [blk g4 (.cells #[.int .i64 a] 3 (0, 0)), many L]
      · exact ⟨rfl, a, L, .inl hS, rfl⟩
      · dsimp only [List.cons_append, List.nil_append]
        exact zk
    obtain ⟨f, hf⟩ : ∃ f, (endd - (slot + 1)).toNat = f := ⟨_, rfl⟩
    have hf1 : (endd - slot).toNat = f + 1 := by omega
    have hmt : slot.tmod x.s.len = slot % x.s.len := Int.tmod_eq_emod_of_nonneg (by omega)
    rw [hf1, ← Yht] at hWk
    repeat' (first | apply (zs1 ?_) | (apply zg3; refine zs7 ?_) | (apply zg4; refine zs9 ?_) | (apply (zs19 ?_ ?_) <;> intro _ <;> try (exfalso; omega)) | (apply (zs20 ?_ ?_) <;> intro _ <;> try (exfalso; omega)) | apply (zs65 ?_) | apply (zs68 ?_) | apply (zs69 ?_) | apply (zs70 ?_) | (apply zg27; first | refine zs71 ?_ | refine zs72 ?_) | apply (zs73 ?_) | apply (zs76 ?_) | fail)
    refine Yj (fun y : CvM => [(37, .int .i64 (y.j : Nat)), (36, .int .i64 cs.length), (35, .slice A cs.length cap), (9, .int .i64 slot), (7, .int .i64 (y.k : Nat)), (8, .slice A cs.length cap), (6, .pointer (some ⟨gl, 0, none⟩)), (5, .pointer (some ⟨g5, 0, none⟩)), (4, .pointer (some ⟨g4, 0, none⟩)), (3, .pointer (some ⟨gy, 0, none⟩)), (1, .pointer (some ⟨ga, 0, none⟩)), (2, .pointer (some ⟨gw, 0, none⟩))])
      (fun y => R' :: blk g4 (.cells #[.int .i64 y.a] 3 (0, 0)) :: many y.L :: sl 40 5 A cs.length cap (cs.flatMap celF) :: blk gl (.cells #[.int .i64 lk.1, .int .i64 lk.2.1, .int .i64 lk.2.2] 172 (0, 0)) :: wayB g2 x :: blk g5 (.cells #[.int .i64 endd] 3 (0, 0)) :: blk gy (.cells #[.func (.yield l) #[] #[]] 291 (0, 0)) :: blk ga (.cells #[.int .i64 at0] 3 (0, 0)) :: wayB gw x :: H)
      (fun y => y.j ≤ cs.length ∧ y.c ≤ W.length ∧ W = W.take y.c ++ UK x.s.len C endd cs (cs.drop y.j) ls f y.k slot y.a ∧ SS y.c y.L ∧ (at0 ≤ y.a ∧ y.a ≤ endd) ∧ y.k ≤ 8) (fun y => cs.length - y.j) ⟨0, kk, a, c, L⟩ ⟨Nat.zero_le _, hc, hWk, hS, ⟨ha0, ha1⟩, hk8⟩ ?_ ?_ ?_
    · exact zu
    · exact zk
    clear hWk hS hc hk0 hk8 ha0 ha1
    rintro ⟨j, kk, a, c, L⟩ ⟨hj, hc, hWk, hS, ⟨ha0, ha1⟩, hk8⟩ K2 hK2
    dsimp only at hj hc hWk hS ha0 ha1 hk8 ⊢
    by_cases hjl : j < cs.length
    rotate_left
    · obtain rfl : j = cs.length := by omega
      rw [List.drop_length, Yhu] at hWk
      clear hK2
      repeat' (first | apply (zs1 ?_) | apply (zs2 ?_) | (apply (zs17 ?_ ?_) <;> intro _ <;> try (exfalso; omega)) | (apply zg13; refine zs30 ?_) | apply (zs65 ?_) | apply (zs68 ?_) | apply (zs69 ?_) | apply (zs70 ?_) | (apply zg27; refine zs72 ?_) | apply (zs75 ?_) | apply (zs79 ?_) | apply (zs80 ?_) | apply (zs81 ?_) | fail)
      apply hK ⟨kk, slot + 1, a, c, L⟩
      · exact ⟨hc, by rw [hf]; exact hWk, hS, ⟨ha0, ha1⟩, ⟨by show at0 ≤ slot + 1; omega, by show slot + 1 ≤ endd; omega⟩, hk8⟩
      · dsimp only; omega
      · exact zu
      · exact fun w hw => hw
    obtain ⟨d, hd⟩ : ∃ d, cs[j]? = some d := ⟨_, List.getElem?_eq_getElem hjl⟩
    have hdj : cs.drop j = d :: cs.drop (j + 1) := by
      obtain ⟨h1, h2⟩ := List.getElem?_eq_some_iff.1 hd
      rw [← h2]; exact List.drop_eq_getElem_cons h1
    rw [hdj] at hWk
    by_cases hcd : d.1 = slot % x.s.len ∧ kk ≠ 0
    · obtain ⟨hcd1, hcd2⟩ := hcd
      obtain ⟨k3, rfl⟩ : ∃ k3, kk = k3 + 1 := ⟨kk - 1, by omega⟩
      rw [Yhv (by rw [hmt]; exact hcd1) hcd2, Nat.add_sub_cancel] at hWk
      obtain ⟨hx, hc1, hW1⟩ := YhB hc hWk
      have hx : (W.map cntV)[c]? = some [celV d, .int .i64 slot] := by rw [List.getElem?_map, hx]; rfl
      repeat' (first | (refine YbO 3 57 rfl rfl rfl ?_) | apply (zs1 ?_) | apply (zs2 ?_) | (apply zg1; refine zs4 ?_) | (apply zg2; refine zs6 ?_) | (apply zg3; first | refine zs7 ?_ | refine zs8 ?_ | refine zs61 ?_) | (apply zg5; refine zs10 ?_) | (apply zg6; refine zs12 ?_) | (apply zg7; (refine zs15 ?_ ?_ <;> intro _ <;> try (exfalso; omega))) | (apply zg8; (refine zs16 ?_ ?_ <;> intro _ <;> try (exfalso; omega))) | (apply (zs17 ?_ ?_) <;> intro _ <;> try (exfalso; omega)) | (apply zg13; refine zs30 ?_) | (apply zg14; refine zs31 ?_) | (apply zg17; refine zs37 ?_) | (apply zg22; first | refine zs50 ?_ | refine zs51 ?_) | (apply zg24; (refine zs54 ?_; intro _)) | apply (zs65 ?_) | apply (zs66 ?_) | apply (zs68 ?_) | apply (zs69 ?_) | apply (zs70 ?_) | (apply zg27; first | refine zs71 ?_ | refine zs72 ?_) | apply (zs73 ?_) | apply (zs76 ?_) | (apply zg28; refine zs83 ?_) | fail)
      first | (rename_i gc _ _; guard_hyp gc : Nat) | (rename_i gc _; guard_hyp gc : Nat) | (rename_i gc _ _ _; guard_hyp gc : Nat)
      rw [show ((k3 + 1 : Nat) : Int) - 1 = (k3 : Int) by omega]
      apply Yi (R' :: blk gc (.cells #[.int .i64 d.1, .int .i64 d.2.1, .int .i64 d.2.2.1, .int .i64 d.2.2.2.1, .int .i64 d.2.2.2.2] 40 (0, 0)) :: sl 40 5 A cs.length cap (cs.flatMap celF) :: blk gl (.cells #[.int .i64 lk.1, .int .i64 lk.2.1, .int .i64 lk.2.2] 172 (0, 0)) :: blk g4 (.cells #[.int .i64 (slot + 1)] 3 (0, 0)) :: wayB g2 x :: blk g5 (.cells #[.int .i64 endd] 3 (0, 0)) :: blk gy (.cells #[.func (.yield l) #[] #[]] 291 (0, 0)) :: many L :: blk ga (.cells #[.int .i64 at0] 3 (0, 0)) :: wayB gw x :: H)
      · exact zk
      have hY := hy c _ hx [R', blk gc (.cells #[.int .i64 d.1, .int .i64 d.2.1, .int .i64 d.2.2.1, .int .i64 d.2.2.2.1, .int .i64 d.2.2.2.2] 40 (0, 0)), sl 40 5 A cs.length cap (cs.flatMap celF), blk gl (.cells #[.int .i64 lk.1, .int .i64 lk.2.1, .int .i64 lk.2.2] 172 (0, 0)), blk g4 (.cells #[.int .i64 (slot + 1)] 3 (0, 0)), wayB g2 x, blk g5 (.cells #[.int .i64 endd] 3 (0, 0)), blk gy (.cells #[.func (.yield l) #[] #[]] 291 (0, 0))] L hS
      apply Yfo _ _ (hy := hY)
      · exact OR
      · exact rfl
      · exact za
      · exact rfl
      · rintro ⟨_, _, h⟩; exact h
      · exact rfl
      · rintro _ ⟨L', hS', rfl⟩
        dsimp only [List.cons_append, List.nil_append]
        repeat' (first | apply (zs1 ?_) | (apply zg13; refine zs30 ?_) | (apply zg20; refine zs47 ?_) | apply (zs65 ?_) | apply (zs68 ?_) | apply (zs70 ?_) | (apply zg27; refine zs72 ?_) | apply (zs76 ?_) | apply (zs79 ?_) | fail)
        apply hK2 ⟨j + 1, k3, slot + 1, c + 1, L'⟩
        · exact ⟨by show j + 1 ≤ _; omega, hc1, hW1, hS', ⟨by show at0 ≤ slot + 1; omega, by show slot + 1 ≤ endd; omega⟩, by show k3 ≤ 8; omega⟩
        · dsimp only; omega
        · exact zu
        · exact zk
      · rintro _ ⟨L', hX', rfl⟩
        dsimp only [List.cons_append, List.nil_append]
        repeat' (first | (apply zg20; refine zs48 ?_) | apply (zs65 ?_) | apply (zs68 ?_) | (apply zg27; refine zs71 ?_) | apply (zs74 ?_) | apply (zs77 ?_) | apply (zs78 ?_) | fail)
        apply Qq [blk g4 (.cells #[.int .i64 (slot + 1)] 3 (0, 0)), many L']
        · exact ⟨rfl, slot + 1, L', .inr hX', rfl⟩
        · dsimp only [List.cons_append, List.nil_append]
          exact zk
    · rw [Yin (by rw [hmt]; exact hcd)] at hWk
      repeat' (first | apply (zs1 ?_) | (apply zg1; first | refine zs3 ?_ | refine zs4 ?_) | (apply zg2; refine zs6 ?_) | (apply zg3; first | refine zs7 ?_ | refine zs61 ?_) | (apply zg5; refine zs10 ?_) | (apply zg6; first | refine zs11 ?_ | refine zs12 ?_) | (apply zg7; (refine zs15 ?_ ?_ <;> intro _ <;> try (exfalso; omega))) | (apply zg8; (refine zs16 ?_ ?_ <;> intro _ <;> try (exfalso; omega))) | (apply (zs17 ?_ ?_) <;> intro _ <;> try (exfalso; omega)) | (apply zg13; refine zs30 ?_) | (apply zg17; refine zs37 ?_) | (apply zg22; refine zs51 ?_) | (apply zg24; (refine zs54 ?_; intro _)) | apply (zs65 ?_) | apply (zs66 ?_) | apply (zs68 ?_) | apply (zs69 ?_) | apply (zs70 ?_) | (apply zg27; refine zs71 ?_) | apply (zs73 ?_) | apply (zs75 ?_) | apply (zs76 ?_) | apply (zs80 ?_) | apply (zs81 ?_) | (apply zg28; refine zs83 ?_) | fail)
      all_goals (
        apply hK2 ⟨j + 1, kk, a, c, L⟩
        · exact ⟨by show j + 1 ≤ _; omega, hc, hWk, hS, ⟨ha0, ha1⟩, hk8⟩
        · dsimp only; omega
        · exact zu
        · exact zk)
  · rintro D ⟨c, a, L⟩ ⟨hc, hWk, hS, ha0, ha1⟩
    dsimp only at hc hWk hS ha0 ha1
    have hle : (ZD x).length = (YJ x.n.net x.r).length := by unfold ZD; rw [List.length_map]
    rw [hle, List.drop_length] at hWk
    have hce := YdS hc hWk
    rw [hce] at hS
    dsimp only [List.cons_append, List.nil_append]
    repeat' (first | apply (zs79 ?_) | fail)
    apply YhZ
    apply ZP Yg
    apply VQ_m
    apply Yi (many L :: blk ga (.cells #[.int .i64 at0] 3 (0, 0)) :: wayB gw x :: H)
    · exact zk
    apply U4; exact rfl
    exact .inl ⟨L, hS, rfl⟩
  · rintro D _ _ ⟨rfl, a, L, hSL, rfl⟩ _
    dsimp only [List.cons_append, List.nil_append]
    repeat' (first | apply (zs78 ?_) | fail)
    apply ZP Yg
    apply VQ_m
    apply Yi (many L :: blk ga (.cells #[.int .i64 at0] 3 (0, 0)) :: wayB gw x :: H)
    · exact zk
    apply U4; exact rfl
    rcases hSL with h | h
    · exact .inl ⟨L, h, rfl⟩
    · exact .inr ⟨L, h, rfl⟩
open Go.RowKit Go.Eng Go.Nw Go.Rt
def relE (x : WayM) (a : Int) : Int × List Int × Bool := match ZM x.n.net x.s.sch x.f x.r a with
  | none => (0, [], false)
  | some l => (XL l - a + 1, l.map (fun z => z - a), true)
theorem UA (x : WayM) (a : Int) : ZM x.n.net x.s.sch x.f x.r a = if (runW x a).length < XA (YJ x.n.net x.r) then none else some ((runW x a).map Prod.snd) := Yfe _ _ _ _ _
theorem YcX (x : WayM) (a : Int) {B : Nat} {w0 : World} {H : List HP} {w : World} (hw : St B w0 H w) :
    Calls Tryz.prog 207 [x.val, .int .i64 a].toArray w (Post B w0 fun v K => ∃ ga gw, v = .func (.func 247) #[] #[.pointer (some ⟨ga, 0, none⟩), .pointer (some ⟨gw, 0, none⟩)] ∧ K = intB ga a :: wayB gw x :: H) := by
  refine Yc Tryz.func207 Tryz.ntmps207 rfl rfl hw ?_
  unfold WayM.val intB
  repeat' (first | apply (zs2 ?_) | (apply zg23; first | (refine zs52 ?_; intro _) | (refine zs53 ?_; intro _)) | apply (zs65 ?_) | apply (zs68 ?_) | apply (zs69 ?_) | apply (zs70 ?_) | apply (zs74 ?_) | (apply zg29; (apply Ys; exact za ; exact rfl)) | fail)
  apply Yd; exact rfl; exact rfl
  exact ⟨_, _, rfl, rfl⟩
structure NlM where
  A : Option Addr
  cap : Nat
  l : List Int
theorem Ydo {x : WayM} (hok : Z6 x) : 1 ≤ XA (YJ x.n.net x.r) := by
  have hl := hok.len
  have h0 := Vl (n := x.n.net) (r := x.r) (i := 0) (by omega)
  have hbd := V5 hok h0
  have hne : (YJ x.n.net x.r) = Z5 x.n.net x.r 0 :: (YJ x.n.net x.r).tail := by
    cases h : YJ x.n.net x.r with
    | nil => rw [h] at h0; cases h0
    | cons a t => rw [h] at h0; cases h0; rfl
  rw [hne]
  unfold XA YX
  rw [List.map_cons, List.sum_cons]
  omega
set_option maxRecDepth 10000 in
set_option maxHeartbeats 4000000 in
theorem Ycm (x : WayM) (at0 : Int) (hok : Z6 x) (hat : 0 ≤ at0 ∧ at0 ≤ 1000000) {B : Nat} {w0 : World} {H : List HP} {w : World} (hi : x.In B w0 H) (hw : St B w0 H w) :
    Calls Tryz.prog 149 [x.val, .int .i64 at0].toArray w (Post B w0 fun v K => ∃ A cap, v = .tuple #[.int .i64 (relE x at0).1, .slice A (relE x at0).2.1.length cap, .bool (relE x at0).2.2] ∧ K = nrs A cap (relE x at0).2.1 :: H) := by
  refine Zd Tryz.func149 Tryz.ntmps149 rfl rfl hw ?_
  have hper := hok.per
  have hl9 := hok.len
  have hnp := Ydo hok
  have hnl : XA (YJ x.n.net x.r) ≤ 72 := by
    have h1 := Wq hok (YJ x.n.net x.r).length
    rw [List.take_length, ZF] at h1
    omega
  have hRE : relE x at0 = if (runW x at0).length < XA (YJ x.n.net x.r) then (0, [], false) else (XL ((runW x at0).map Prod.snd) - at0 + 1, ((runW x at0).map Prod.snd).map (fun z => z - at0), true) := by
    unfold relE
    rw [UA]
    by_cases h : (runW x at0).length < XA (YJ x.n.net x.r)
    · rw [if_pos h, if_pos h]
    · rw [if_neg h, if_neg h]
  have hWl : (runW x at0).length ≤ XA (YJ x.n.net x.r) := Qc _ _ _ _ _
  have hWs : ∀ z ∈ runW x at0, at0 ≤ z.2 ∧ z.2 < at0 + x.f.2.2.2.1 := fun z hz => Qd (by omega) hz
  have hiter := fun {ga gw : Nat} {H' : List HP} (hi : x.In B w0 H') => Yb4 x at0 hok hat ga gw hi
  have hxs : YeP x at0 = (runW x at0).map cntV := rfl
  rw [hxs] at hiter
  obtain ⟨W, hW⟩ : ∃ W, runW x at0 = W := ⟨_, rfl⟩
  obtain ⟨nd, hnd⟩ : ∃ nd, XA (YJ x.n.net x.r) = nd := ⟨_, rfl⟩
  have hned := fun {H' : List HP} {w : World} (hi : x.In B w0 H') (hw : St B w0 H' w) => Ydp x hok hi hw
  rw [hW, hnd] at hRE hWl
  rw [hW] at hWs hiter
  rw [hnd] at hnp hnl hned
  rw [hRE]
  unfold WayM.val
  unfold intB at hiter
  repeat' (first | apply (zs2 ?_) | (apply zg3; first | refine zs7 ?_ | refine zs8 ?_) | (apply zg23; first | (refine zs52 ?_; intro _) | (refine zs53 ?_; intro _)) | (apply zg24; (refine zs54 ?_; intro _)) | apply (zs65 ?_) | apply (zs68 ?_) | apply (zs69 ?_) | apply (zs70 ?_) | fail)
  rename_i g2 g3 gO
  apply Yq _ YjW
  exact za
  exact rfl
  exact fun _ hw => (YcX x at0 (hw))
  rintro _ _ ⟨ga, gw, rfl, rfl⟩
  unfold intB
  repeat' (first | apply (zs65 ?_) | apply (zs68 ?_) | apply (zs73 ?_) | fail)
  refine Jv 3 1 ?_
  refine Zf (gf := 247) (lb := [.pointer (some ⟨ga, 0, none⟩), .pointer (some ⟨gw, 0, none⟩)]) (xs := W.map cntV) (blk ga (.cells #[.int .i64 at0] 3 (0, 0)) :: wayB gw x :: blk g3 (.cells #[.int .i64 at0] 3 (0, 0)) :: wayB g2 x :: H) (fun y : NlM => [blk gO (.cells #[.slice y.A y.l.length y.cap] 24 (0, 0)), nrs y.A y.cap y.l]) (fun i y => y.l = (W.take i).map (fun z => z.2 - at0)) (fun _ _ => False) ⟨none, 0, []⟩ rfl Yj2 (hiter hi.cons.cons) rfl ?_ (by kernel_rfl) (by kernel_rfl) ?_ rfl ?_ ?_ (fun _ _ _ h => h.elim)
  · intro args h
    obtain ⟨z, _, rfl⟩ := List.mem_map.1 h
    rfl
  · simp only [List.cons_append, List.nil_append, List.length_nil]
    intro w hw
    have h1 : St B w0 (nrs none 0 [] :: blk ga (.cells #[.int .i64 at0] 3 (0, 0)) :: wayB gw x :: blk gO (.cells #[.slice none 0 0] 24 (0, 0)) :: blk g3 (.cells #[.int .i64 at0] 3 (0, 0)) :: wayB g2 x :: H) w := hw
    clear hw
    revert w
    exact zk
  · rintro l k args R ⟨A, cap, xs⟩ hk hI
    rw [List.getElem?_map] at hk
    obtain ⟨⟨d, sl⟩, hz, rfl⟩ : ∃ z, W[k]? = some z ∧ args = cntV z := by
      cases h : W[k]? with
      | none => rw [h] at hk; cases hk
      | some z => rw [h] at hk; exact ⟨z, rfl, (Option.some.inj hk).symm⟩
    have hzb := hWs _ (List.mem_of_getElem? hz)
    have hI : xs = (W.take k).map (fun z => z.2 - at0) := hI
    have hxl : xs.length ≤ 72 := by
      rw [hI, List.length_map, List.length_take]; omega
    dsimp only at hzb
    dsimp only [Uf, cntV, List.cons_append, List.nil_append]
    repeat' (first | apply (zs2 ?_) | apply (zs65 ?_) | apply (zs70 ?_) | fail)
    apply JN Yg
    intro R'
    repeat' (first | apply (zs1 ?_) | (apply zg3; refine zs7 ?_) | (apply zg14; refine zs31 ?_) | (apply zg21; (refine zs49 ?_; intro _ _)) | (apply zg22; refine zs50 ?_) | (apply zg26; (refine zs56 ?_; intro _)) | apply (zs65 ?_) | apply (zs70 ?_) | apply (zs73 ?_) | apply (zs79 ?_) | fail)
    rename_i A' cap'
    apply Va (NlM.mk A' cap' (xs ++ [sl - at0]))
    · show xs ++ [sl - at0] = _
      rw [List.take_add_one, hz, Option.toList_some, List.map_append, hI]; rfl
    · dsimp only [List.cons_append, List.nil_append]
      rw [X3, show xs.length + 1 = (xs ++ [sl - at0]).length by simp]
      exact zk
  · rintro D ⟨A, cap, xs⟩ hI
    have hI : xs = (W.take (W.map cntV).length).map (fun z => z.2 - at0) := hI
    rw [List.length_map, List.take_length] at hI
    have hxl : xs.length = W.length := by rw [hI, List.length_map]
    dsimp only [List.cons_append, List.nil_append]
    have hll : ((W.map Prod.snd).map (fun z => z - at0)) = xs := by rw [hI, List.map_map]; rfl
    by_cases hlt : W.length < nd
    · rw [if_pos hlt]
      repeat' (first | apply (zs68 ?_) | apply (zs69 ?_) | apply (zs79 ?_) | fail)
      apply YB [0, 1, 2, 3, 4] []
      kernel_rfl
      kernel_rfl
      (simp only [Yk, nthO]; rfl)
      exact rfl
      repeat' (first | (apply zg3; first | refine zs7 ?_ | refine zs8 ?_) | (apply zg4; refine zs9 ?_) | apply (zs87 ?_) | fail)
      first | apply Ya Ye2 | apply Yb Ye2
      exact za
      exact rfl
      exact fun _ hw => (hned (hi.mono zk) hw)
      repeat' (first | apply (zs65 ?_) | (apply Yl; (repeat (first | with_reducible exact Yh | (with_reducible apply Yf; (repeat (first | with_reducible exact Yg | with_reducible apply Ye)))))) | fail)
      · show Perm H (H ++ [])
        rw [List.append_nil]; exact Perm.refl _
      repeat' (first | apply (zs2 ?_) | (apply (zs17 ?_ ?_) <;> intro _ <;> try (exfalso; omega)) | apply (zs65 ?_) | (apply Yo; exact zp) | apply (zs68 ?_) | apply (zs69 ?_) | apply (zs70 ?_) | (apply zg27; refine zs71 ?_) | apply (zs74 ?_) | apply (zs77 ?_) | apply (zs93 ?_) | apply (zs94 ?_) | fail)
      apply ZP Yg
      apply VQ_m
      apply Yi (nrs none 0 [] :: H)
      · intro w hw
        have h5 : St B w0 H w := by
          revert w
          exact zk
        exact h5.nilSlice _ _
      apply Xu; exact rfl; exact rfl; exact rfl; exact rfl
      exact ⟨none, 0, rfl, rfl⟩
    · rw [if_neg hlt, hll]
      obtain ⟨z, hz⟩ : ∃ z, W[W.length - 1]? = some z := ⟨_, List.getElem?_eq_getElem (by omega)⟩
      have hzb := hWs _ (List.mem_of_getElem? hz)
      have hx1 : xs[((xs.length : Int) - 1).toNat]? = some (z.2 - at0) := by
        rw [show ((xs.length : Int) - 1).toNat = W.length - 1 by omega, hI, List.getElem?_map, hz]; rfl
      have hla : XL (W.map Prod.snd) = z.2 := by
        unfold XL
        rw [List.length_map, List.getD_eq_getElem?_getD, List.getElem?_map, hz]; rfl
      rw [hla]
      repeat' (first | apply (zs68 ?_) | apply (zs69 ?_) | apply (zs79 ?_) | fail)
      apply YB [0, 1, 2, 3, 4] []
      kernel_rfl
      kernel_rfl
      (simp only [Yk, nthO]; rfl)
      exact rfl
      repeat' (first | (apply zg3; first | refine zs7 ?_ | refine zs8 ?_) | (apply zg4; refine zs9 ?_) | apply (zs87 ?_) | fail)
      first | apply Ya Ye2 | apply Yb Ye2
      exact za
      exact rfl
      exact fun _ hw => (hned (hi.mono zk) hw)
      repeat' (first | apply (zs65 ?_) | (apply Yl; (repeat (first | with_reducible exact Yh | (with_reducible apply Yf; (repeat (first | with_reducible exact Yg | with_reducible apply Ye)))))) | fail)
      · show Perm H (H ++ [])
        rw [List.append_nil]; exact Perm.refl _
      repeat' (first | apply (zs2 ?_) | (apply zg3; first | refine zs7 ?_ | refine zs60 ?_) | (apply zg4; refine zs9 ?_) | (apply zg5; refine zs10 ?_) | (apply (zs17 ?_ ?_) <;> intro _ <;> try (exfalso; omega)) | (apply zg13; refine zs30 ?_) | (apply zg14; refine zs31 ?_) | apply (zs65 ?_) | apply (zs66 ?_) | (apply Yo; exact zp) | apply (zs68 ?_) | apply (zs69 ?_) | (apply zg27; refine zs72 ?_) | apply (zs74 ?_) | apply (zs76 ?_) | (apply zg28; refine zs83 ?_) | apply (zs93 ?_) | apply (zs94 ?_) | fail)
      apply ZP Yg
      apply VQ_m
      apply Yi (nrs A cap xs :: H)
      · exact zk
      apply Xu; exact rfl; exact rfl; exact rfl; exact rfl
      exact ⟨A, cap, rfl, rfl⟩
def Vb (R : Option (Int × Int × List Int)) : Int × Int × List Int × Bool := match R with
  | none => (0, 0, [], false)
  | some b => (b.1, b.2.1, b.2.2, true)
def XY (x : WayM) : Int × Int × List Int × Bool := Vb (Jo x.n.net x.s.sch x.f x.r)
theorem YdN {x : WayM} (hok : Z6 x) {a : Int} {l : List Int} (h : ZM x.n.net x.s.sch x.f x.r a = some l) : 1 ≤ l.length ∧ a ≤ XL l ∧ XL l < a + x.f.2.2.2.1 := by
  have hper := hok.per
  have hnp := Ydo hok
  rw [UA] at h
  split at h
  · cases h
  rename_i hge
  obtain rfl := Option.some.inj h
  rw [List.length_map]
  obtain ⟨z, hz⟩ : ∃ z, (runW x a)[(runW x a).length - 1]? = some z := ⟨_, List.getElem?_eq_getElem (by omega)⟩
  have hzb := Qd (by omega) (List.mem_of_getElem? hz)
  have hla : XL ((runW x a).map Prod.snd) = z.2 := by
    unfold XL
    rw [List.length_map, List.getD_eq_getElem?_getD, List.getElem?_map, hz]; rfl
  rw [hla]
  exact ⟨by omega, hzb⟩
structure BdM where
  k : Nat
  rel : Int
  b : Int × Int × List Int
  A : Option Addr
  cap : Nat
set_option maxRecDepth 10000 in
set_option maxHeartbeats 4000000 in
theorem Yd4 (x : WayM) (hok : Z6 x) {B : Nat} {w0 : World} {H : List HP} {w : World} (hi : x.In B w0 H) (hw : St B w0 H w) :
    Calls Tryz.prog 86 [x.val].toArray w (Post B w0 fun v K => ∃ A cap, v = .tuple #[.int .i64 (XY x).1, .int .i64 (XY x).2.1, .slice A (XY x).2.2.1.length cap, .bool (XY x).2.2.2] ∧ K = nrs A cap (XY x).2.2.1 :: H) := by
  refine Yc Tryz.func86 Tryz.ntmps86 rfl rfl hw ?_
  have hper := hok.per
  have hph := hok.ph
  have hsl := hok.slen
  obtain ⟨R, hR⟩ : ∃ R, Jo x.n.net x.s.sch x.f x.r = R := ⟨_, rfl⟩
  have hO : XY x = Vb R := by unfold XY; rw [hR]
  rw [hO]
  unfold Jo at hR
  rw [show x.s.sch.len = x.s.len from rfl] at hR
  obtain ⟨S, hS⟩ : ∃ S, ZM x.n.net x.s.sch x.f x.r = S := ⟨_, rfl⟩
  rw [hS] at hR
  have hrl := fun {H' : List HP} {w : World} (a : Int) (ha : 0 ≤ a ∧ a ≤ 1000000) (hi : x.In B w0 H') (hw : St B w0 H' w) => Ycm x a hok ha hi hw
  unfold WayM.val
  repeat' (first | apply (zs2 ?_) | (apply zg2; refine zs6 ?_) | (apply zg3; refine zs7 ?_) | (apply zg23; (refine zs52 ?_; intro _)) | apply (zs65 ?_) | apply (zs68 ?_) | apply (zs69 ?_) | apply (zs70 ?_) | apply (zs73 ?_) | fail)
  rename_i g
  refine Jv 3 1 ?_
  refine Yj (fun z : BdM => [(9, .int .i64 z.rel), (8, .slice z.A z.b.2.2.length z.cap), (7, .int .i64 z.b.2.1), (6, .int .i64 z.b.1), (1, .pointer (some ⟨g, 0, none⟩))]) (fun z => nrs z.A z.cap z.b.2.2 :: wayB g x :: H)
    (fun z => VX S x.s.len x.f.2.2.2.1 z.k z.rel z.b = R ∧ x.s.len - z.rel ≤ z.k ∧ 0 ≤ z.rel ∧ z.rel ≤ 2000 ∧ 0 ≤ z.b.1 ∧ z.b.1 ≤ 2000) (fun z => z.k) ⟨x.s.len.toNat, x.f.2.2.2.2.1, (0, 0, []), none, 0⟩ ⟨hR, by show x.s.len - x.f.2.2.2.2.1 ≤ ((x.s.len.toNat : Nat) : Int); omega, hph.1, by show x.f.2.2.2.2.1 ≤ 2000; omega, Int.le_refl _, by show (0 : Int) ≤ 2000; decide⟩ ?_ (fun w hw => hw) ?_
  · exact zu
  rintro ⟨k, rel, ⟨b1, b2, bl⟩, A, cap⟩ ⟨hb, hk, h0, h1, hb0, hb1⟩ K hK
  dsimp only at hb hk h0 h1 hb0 hb1 ⊢
  by_cases hge : x.s.len ≤ rel
  · have hRe : R = some (b1, b2, bl) := by
      rw [← hb]
      cases k with
      | zero => rfl
      | succ k => unfold VX; rw [if_pos hge]
    rw [hRe]
    clear hK
    repeat' (first | apply (zs1 ?_) | apply (zs2 ?_) | (apply zg2; refine zs6 ?_) | (apply zg3; refine zs7 ?_) | (apply (zs17 ?_ ?_) <;> intro _ <;> try (exfalso; omega)) | apply (zs65 ?_) | apply (zs68 ?_) | apply (zs69 ?_) | apply (zs70 ?_) | (apply zg27; refine zs72 ?_) | apply (zs74 ?_) | apply (zs75 ?_) | apply (zs80 ?_) | apply (zs81 ?_) | fail)
    apply Yi (nrs A cap bl :: H)
    · exact zk
    apply ZQ; exact rfl; exact rfl; exact rfl; exact rfl; exact rfl
    exact ⟨A, cap, rfl, rfl⟩
  obtain ⟨k, rfl⟩ : ∃ k', k = k' + 1 := ⟨k - 1, by omega⟩
  unfold VX at hb
  rw [if_neg hge] at hb
  have hrr := fun {H' : List HP} {w : World} (hi : x.In B w0 H') (hw : St B w0 H' w) => hrl rel (by omega) hi hw
  unfold relE at hrr
  rw [hS] at hrr
  cases hSr : S rel with
  | none =>
    rw [hSr] at hb hrr
    dsimp only at hb hrr
    rw [← hb]
    clear hK
    repeat' (first | apply (zs1 ?_) | (apply zg2; refine zs6 ?_) | (apply zg3; first | refine zs7 ?_ | refine zs8 ?_) | (apply (zs17 ?_ ?_) <;> intro _ <;> try (exfalso; omega)) | apply (zs65 ?_) | apply (zs68 ?_) | apply (zs69 ?_) | apply (zs70 ?_) | (apply zg27; refine zs71 ?_) | apply (zs73 ?_) | apply (zs76 ?_) | fail)
    apply Yq _ YiH
    exact za
    exact rfl
    exact fun _ hw => (hrr (hi.mono zk) (hw))
    rintro _ _ ⟨A2, cap2, rfl, rfl⟩
    repeat' (first | apply (zs1 ?_) | apply (zs2 ?_) | apply (zs13 ?_) | (apply zg20; refine zs48 ?_) | apply (zs65 ?_) | apply (zs68 ?_) | apply (zs69 ?_) | apply (zs70 ?_) | (apply zg27; refine zs71 ?_) | apply (zs74 ?_) | apply (zs77 ?_) | apply (zs78 ?_) | fail)
    apply Yi (nrs none 0 [] :: H)
    · intro w hw
      have h5 : St B w0 H w := by
        revert w
        exact zk
      exact h5.nilSlice _ _
    apply ZQ; exact rfl; exact rfl; exact rfl; exact rfl; exact rfl
    exact ⟨none, 0, rfl, rfl⟩
  | some l =>
    rw [hSr] at hb hrr
    dsimp only at hb hrr
    have hlb : 0 ≤ XL l - rel + 1 ∧ XL l - rel + 1 ≤ 513 := by
      have := YdN hok (a := rel) (l := l) (by rw [hS]; exact hSr)
      omega
    obtain ⟨m, hm⟩ : ∃ m, XL l - rel + 1 = m := ⟨_, rfl⟩
    rw [hm] at hb hrr hlb
    repeat' (first | apply (zs1 ?_) | (apply zg2; refine zs6 ?_) | (apply zg3; first | refine zs7 ?_ | refine zs8 ?_) | (apply (zs17 ?_ ?_) <;> intro _ <;> try (exfalso; omega)) | apply (zs65 ?_) | apply (zs68 ?_) | apply (zs69 ?_) | apply (zs70 ?_) | (apply zg27; refine zs71 ?_) | apply (zs73 ?_) | apply (zs76 ?_) | fail)
    apply Yq _ YiH
    exact za
    exact rfl
    exact fun _ hw => (hrr (hi.mono zk) (hw))
    rintro _ _ ⟨A2, cap2, rfl, rfl⟩
    by_cases hgt : b1 < m
    · rw [if_pos hgt] at hb
      repeat' (first | apply (zs1 ?_) | apply (zs2 ?_) | (apply zg2; refine zs6 ?_) | (apply zg3; refine zs7 ?_) | apply (zs13 ?_) | (apply (zs19 ?_ ?_) <;> intro _ <;> try (exfalso; omega)) | (apply zg13; refine zs30 ?_) | (apply zg20; refine zs47 ?_) | apply (zs65 ?_) | apply (zs68 ?_) | apply (zs69 ?_) | apply (zs70 ?_) | (apply zg27; first | refine zs71 ?_ | refine zs72 ?_) | apply (zs76 ?_) | apply (zs79 ?_) | fail)
      apply hK ⟨k, rel + x.f.2.2.2.1, (m, rel, l.map fun z => z - rel), A2, cap2⟩
      · exact ⟨hb, by show x.s.len - (rel + x.f.2.2.2.1) ≤ ((k : Nat) : Int); omega, by show 0 ≤ rel + x.f.2.2.2.1; omega, by show rel + x.f.2.2.2.1 ≤ 2000; omega, hlb.1, by show m ≤ 2000; omega⟩
      · dsimp only; omega
      · exact zu
      · exact zk
    · rw [if_neg hgt] at hb
      repeat' (first | apply (zs1 ?_) | apply (zs2 ?_) | (apply zg2; refine zs6 ?_) | (apply zg3; refine zs7 ?_) | apply (zs13 ?_) | (apply (zs19 ?_ ?_) <;> intro _ <;> try (exfalso; omega)) | (apply zg13; refine zs30 ?_) | (apply zg20; refine zs47 ?_) | apply (zs65 ?_) | apply (zs68 ?_) | apply (zs69 ?_) | apply (zs70 ?_) | (apply zg27; refine zs72 ?_) | apply (zs76 ?_) | apply (zs79 ?_) | fail)
      apply hK ⟨k, rel + x.f.2.2.2.1, (b1, b2, bl), A, cap⟩
      · exact ⟨hb, by show x.s.len - (rel + x.f.2.2.2.1) ≤ ((k : Nat) : Int); omega, by show 0 ≤ rel + x.f.2.2.2.1; omega, by show rel + x.f.2.2.2.1 ≤ 2000; omega, hb0, hb1⟩
      · dsimp only; omega
      · exact zu
      · exact zk
open Go.RowKit Go.Eng Go.Nw Go.Rt
set_option maxRecDepth 10000 in
set_option maxHeartbeats 4000000 in
theorem Yew (x : WayM) {B : Nat} {w0 : World} {H : List HP} {w : World} (ht : TabsB B w0) (hi : x.In B w0 H) (hw : St B w0 H w) :
    Calls Tryz.prog 34 [x.n.val, x.s.val, flwV x.f, .slice x.A x.r.length x.cap].toArray w (Post B w0 fun v K => ∃ A cap, v = .tuple #[.int .i64 (Y5 x.n.net x.s.sch x.f x.r).1.1, .int .i64 (Y5 x.n.net x.s.sch x.f x.r).1.2.1, .slice A (Y5 x.n.net x.s.sch x.f x.r).1.2.2.length cap, .int .i64 (Y5 x.n.net x.s.sch x.f x.r).2] ∧ K = nrs A cap (Y5 x.n.net x.s.sch x.f x.r).1.2.2 :: H) := by
  refine Yc Tryz.func34 Tryz.ntmps34 rfl rfl hw ?_
  have p1 := fun {H' : List HP} {w : World} (hi : x.In B w0 H') (hw : St B w0 H' w) => YdV x ht hi hw
  obtain ⟨R, hR⟩ : ∃ R, Y5 x.n.net x.s.sch x.f x.r = R := ⟨_, rfl⟩
  rw [hR]
  unfold Y5 at hR
  obtain ⟨e, he⟩ : ∃ e, wayE x.n.net x.s.sch x.f x.r = e := ⟨_, rfl⟩
  rw [he] at p1 hR
  unfold NetM.val SchM.val flwV
  by_cases h0 : e = 0
  rotate_left
  · rw [if_pos h0] at hR
    subst hR
    repeat' (first | ((first | apply Ya en85 | apply Yb en85); exact za; exact rfl; exact fun _ hw => (p1 (hi.mono zk) hw)) | apply (zs1 ?_) | apply (zs2 ?_) | (apply zg3; refine zs8 ?_) | (apply zg8; (refine zs16 ?_ ?_ <;> intro _ <;> try (exfalso; omega))) | (apply zg22; refine zs51 ?_) | (apply zg23; (refine zs52 ?_; intro _)) | (apply zg24; (refine zs54 ?_; intro _)) | (apply zg25; refine zs55 ?_) | apply (zs65 ?_) | apply (zs68 ?_) | apply (zs69 ?_) | apply (zs70 ?_) | (apply zg27; refine zs71 ?_) | apply (zs74 ?_) | apply (zs77 ?_) | fail)
    apply Yi (nrs none 0 [] :: H)
    · intro w hw
      have h5 : St B w0 H w := by
        revert w
        exact zk
      exact h5.nilSlice _ _
    apply ZQ; exact rfl; exact rfl; exact rfl; exact rfl; exact rfl
    exact ⟨none, 0, rfl, rfl⟩
  subst h0
  rw [if_neg (fun h => h rfl)] at hR
  have hok := Qh he
  have p2 := fun {H' : List HP} {w : World} (hi : x.In B w0 H') (hw : St B w0 H' w) => Yd4 x hok hi hw
  unfold XY at p2
  cases hb : Jo x.n.net x.s.sch x.f x.r with
  | none =>
    rw [hb] at hR p2
    dsimp only [Vb] at hR p2
    subst hR
    repeat' (first | ((first | apply Ya en85 | apply Yb en85); exact za; exact rfl; exact fun _ hw => (p1 (hi.mono zk) hw)) | apply (zs1 ?_) | apply (zs2 ?_) | (apply zg3; refine zs8 ?_) | (apply zg8; (refine zs16 ?_ ?_ <;> intro _ <;> try (exfalso; omega))) | (apply zg22; refine zs51 ?_) | (apply zg23; (refine zs52 ?_; intro _)) | (apply zg24; (refine zs54 ?_; intro _)) | (apply zg25; refine zs55 ?_) | apply (zs65 ?_) | apply (zs68 ?_) | apply (zs69 ?_) | apply (zs70 ?_) | (apply zg27; refine zs72 ?_) | apply (zs76 ?_) | fail)
    apply Yq _ en86
    exact za
    exact rfl
    exact fun _ hw => (p2 (hi.mono zk) (hw))
    rintro _ _ ⟨A2, cap2, rfl, rfl⟩
    repeat' (first | apply (zs1 ?_) | apply (zs2 ?_) | apply (zs13 ?_) | (apply zg20; refine zs48 ?_) | apply (zs65 ?_) | apply (zs68 ?_) | apply (zs69 ?_) | apply (zs70 ?_) | (apply zg27; refine zs71 ?_) | apply (zs74 ?_) | apply (zs77 ?_) | fail)
    apply Yi (nrs none 0 [] :: H)
    · intro w hw
      have h5 : St B w0 H w := by
        revert w
        exact zk
      exact h5.nilSlice _ _
    apply ZQ; exact rfl; exact rfl; exact rfl; exact rfl; exact rfl
    exact ⟨none, 0, rfl, rfl⟩
  | some b =>
    rw [hb] at hR p2
    dsimp only [Vb] at hR p2
    subst hR
    repeat' (first | ((first | apply Ya en85 | apply Yb en85); exact za; exact rfl; exact fun _ hw => (p1 (hi.mono zk) hw)) | apply (zs1 ?_) | apply (zs2 ?_) | (apply zg3; refine zs8 ?_) | (apply zg8; (refine zs16 ?_ ?_ <;> intro _ <;> try (exfalso; omega))) | (apply zg22; refine zs51 ?_) | (apply zg23; (refine zs52 ?_; intro _)) | (apply zg24; (refine zs54 ?_; intro _)) | (apply zg25; refine zs55 ?_) | apply (zs65 ?_) | apply (zs68 ?_) | apply (zs69 ?_) | apply (zs70 ?_) | (apply zg27; refine zs72 ?_) | apply (zs76 ?_) | fail)
    apply Yq _ en86
    exact za
    exact rfl
    exact fun _ hw => (p2 (hi.mono zk) (hw))
    rintro _ _ ⟨A2, cap2, rfl, rfl⟩
    repeat' (first | apply (zs1 ?_) | apply (zs2 ?_) | apply (zs13 ?_) | (apply zg20; refine zs47 ?_) | apply (zs65 ?_) | apply (zs68 ?_) | apply (zs69 ?_) | apply (zs70 ?_) | (apply zg27; refine zs72 ?_) | apply (zs74 ?_) | apply (zs76 ?_) | fail)
    apply Yi (nrs A2 cap2 b.2.2 :: H)
    · exact zk
    apply ZQ; exact rfl; exact rfl; exact rfl; exact rfl; exact rfl
    exact ⟨A2, cap2, rfl, rfl⟩
open Go.RowKit Go.Eng Go.Nw Go.Rt
set_option maxRecDepth 10000 in
theorem O1 (l : List Int) (hlen : l.length ≤ 1000) {A : Option Addr} {cap B : Nat} {w0 : World} {H : List HP} {w : World} (hr : Rd B w0 H A (l.flatMap numF)) (hw : St B w0 H w) :
    Calls Tryz.prog 122 [.slice A l.length cap].toArray w (Post B w0 fun v K => ∃ A' cap', v = .slice A' l.length cap' ∧ K = sl 3 1 A' l.length cap' (l.flatMap numF) :: H) := by
  cases A with
  | none =>
    have hl : l = [] := by
      cases l with
      | nil => rfl
      | cons x l =>
        obtain ⟨g, o, e, _⟩ := hr w hw 0 _ rfl
        cases e
    subst hl
    refine Yc Tryz.func122 Tryz.ntmps122 rfl rfl hw ?_
    repeat' (first | (apply Ul; exact rfl; exact rfl; exact rfl) | apply (zs1 ?_) | apply (zs2 ?_) | apply (zs65 ?_) | apply (zs68 ?_) | apply (zs69 ?_) | apply (zs70 ?_) | (apply zg27; refine zs71 ?_) | apply (zs74 ?_) | apply (zs77 ?_) | fail)
    apply Ob 3 1; apply Yd; exact rfl; exact rfl; exact ⟨none, 0, rfl, rfl⟩
  | some a =>
    refine Yc Tryz.func122 Tryz.ntmps122 rfl rfl hw ?_
    repeat' (first | (apply Ul; exact rfl; exact rfl; exact rfl) | (apply YW T; exact rfl; exact rfl; intro g2) | apply (zs1 ?_) | apply (zs2 ?_) | apply (zs65 ?_) | apply (zs68 ?_) | apply (zs69 ?_) | apply (zs70 ?_) | (apply zg27; refine zs72 ?_) | apply (zs76 ?_) | fail)
    apply Jc T (f := numF) (l2 := l) (e := 3) (size := 1) (xs := []); exact rfl; exact rfl; exact rfl; exact hr.cons; exact (fun _ => rfl); exact (fun _ => rfl); exact rfl; (intro _ _; exact zd); omega; intro A' cap'
    repeat' (first | apply (zs2 ?_) | apply (zs65 ?_) | apply (zs68 ?_) | apply (zs74 ?_) | fail)
    rw [Nat.zero_add, List.nil_append]
    apply Yd; exact rfl; exact rfl; exact ⟨A', cap', rfl, rfl⟩
abbrev clA (g : Nat) (c : ClM) : HP := blk g (.cells #[.int .i64 c.flow, .slice c.rA c.rs.length c.rcap, .slice c.bA c.bs.length c.bcap, .slice c.wA c.ws.length c.wcap, .slice c.sA c.ss.length c.scap] 61 (0, 0))
theorem J2 (e : Nat) (A : Option Addr) (cap : Nat) (l : List RowM) (r : RowM) : sl e 1 A (l.length + 1) cap (l.flatMap rowF ++ #[Value.slice r.A r.xs.length r.cap].toList) = sl e 1 A (l ++ [r]).length cap ((l ++ [r]).flatMap rowF) := by simp [List.flatMap_append, rowF]
theorem Jh (f : RowM → HP) (l : List RowM) (r : RowM) (H : List HP) : Perm (f r :: many (l.map f) :: H) (many ((l ++ [r]).map f) :: H) := by
  have := Perm.push (f r) (l.map f) [] H
  rw [List.append_nil] at this
  rw [List.map_append]
  exact this
theorem YcP {S : Int → Option (List Int)} {len per : Int} {N : Nat} (hS : ∀ a l, S a = some l → l.length ≤ N) : ∀ {k : Nat} {rel : Int} {b0 b : Int × Int × List Int}, b0.2.2.length ≤ N → VX S len per k rel b0 = some b → b.2.2.length ≤ N
  | 0, rel, b0, b, h0, h => by
    unfold VX at h
    rw [← Option.some.inj h]; exact h0
  | k + 1, rel, b0, b, h0, h => by
    unfold VX at h
    split at h
    · rw [← Option.some.inj h]; exact h0
    cases hs : S rel with
    | none => rw [hs] at h; cases h
    | some l =>
      rw [hs] at h
      refine YcP hS ?_ h
      split
      · show (l.map _).length ≤ N
        rw [List.length_map]; exact hS _ _ hs
      · exact h0
theorem Ya5 {x : WayM} (hok : Z6 x) {b : Int × Int × List Int} (h : Jo x.n.net x.s.sch x.f x.r = some b) : b.2.2.length ≤ 72 := by
  have hl := hok.len
  refine YcP (fun a l hs => ?_) (Nat.zero_le _) h
  rw [UA] at hs
  split at hs
  · cases hs
  rw [← Option.some.inj hs, List.length_map]
  have h1 : (runW x a).length ≤ XA (YJ x.n.net x.r) := Qc _ _ _ _ _
  have h2 := Wq hok (YJ x.n.net x.r).length
  rw [List.take_length, ZF] at h2
  omega
structure M8 (xs : List Int) where
  A1 : Option Addr
  c1 : Nat
  r : RowM
  hr : r.xs = xs
  A3 : Option Addr
  c3 : Nat
structure CkM where
  i : Nat
  c : ClM
def ClM.lens (c : ClM) : Prop := (c.rs.length ≤ 1000 ∧ c.bs.length ≤ 1000 ∧ c.ws.length ≤ 1000 ∧ c.ss.length ≤ 1000) ∧ (∀ r ∈ c.rs, r.xs.length ≤ 1000) ∧ ∀ r ∈ c.ss, r.xs.length ≤ 1000
set_option maxRecDepth 10000 in
set_option maxHeartbeats 8000000 in
theorem Yd8 (n : NetM) (s : SchM) (x : RqM) {B : Nat} {w0 : World} {H : List HP} {w : World} (ht : TabsB B w0) (hin : n.In B w0 H) (hrs : Rd B w0 H s.A (s.cells.flatMap celF)) (hsl : s.cells.length ≤ 1000000000000) (hx : x.In B w0 H) (hr9 : x.rows.length ≤ 9) (hw : St B w0 H w) :
    Calls Tryz.prog 69 [n.val, s.val, rqV x].toArray w (Post B w0 fun v K => ∃ c : ClM, v = .tuple #[clV c, .bool (!(Zm n.net s.sch x.rq))] ∧ (Zm n.net s.sch x.rq = false → c.clm = clmE n.net s.sch x.rq ∧ c.lens) ∧ K = clQ c :: H) := by
  refine Yc Tryz.func69 Tryz.ntmps69 rfl rfl hw ?_
  have e1 : x.rq.1 = x.f := rfl
  have p1 := fun {H' : List HP} {w : World} (r : RowM) (hr : r ∈ x.rows) (hin : n.In B w0 H') (hrs : Rd B w0 H' s.A (s.cells.flatMap celF)) (hx : x.In B w0 H') (hw : St B w0 H' w) => Yew ⟨n, s, x.f, r.A, r.cap, r.xs⟩ ht ⟨hin, hrs, hx.rw_ r hr, hsl, (hx.rl r hr).1, (hx.rl r hr).2⟩ hw
  unfold NetM.val SchM.val rqV
  repeat' (first | apply (zs1 ?_) | apply (zs2 ?_) | (apply zg2; refine zs6 ?_) | (apply zg3; refine zs7 ?_) | (apply zg4; refine zs9 ?_) | (apply zg22; refine zs51 ?_) | (apply zg23; (refine zs52 ?_; intro _)) | (apply zg24; (refine zs54 ?_; intro _)) | (apply zg25; refine zs55 ?_) | apply (zs65 ?_) | apply (zs68 ?_) | apply (zs69 ?_) | apply (zs70 ?_) | apply (zs73 ?_) | fail)
  rename_i g3 g4 g5 g6 g8
  have hln : x.rq.2 = x.rows.map (·.xs) := rfl
  obtain ⟨P, hP⟩ : ∃ P, badR n.net s.sch x.f = P := ⟨_, rfl⟩
  have hla : Zm n.net s.sch x.rq = (x.rows.map (·.xs)).any P := by unfold Zm; rw [hln, e1, hP]
  rw [hla]
  refine Yj (fun z : CkM => [(22, .int .i64 (z.i : Nat)), (21, .int .i64 x.rows.length), (20, .slice x.A x.rows.length x.cap), (8, .pointer (some ⟨g8, 0, none⟩)), (6, .pointer (some ⟨g6, 0, none⟩)), (5, .pointer (some ⟨g5, 0, none⟩)), (4, .pointer (some ⟨g4, 0, none⟩)), (3, .pointer (some ⟨g3, 0, none⟩))]) (fun z => clA g8 z.c :: clQ z.c :: clA g6 (nilC 0) :: rqA g5 x :: schA g4 s :: netA g3 n :: H)
    (fun z => z.i ≤ x.rows.length ∧ z.c.clm = Wh n.net s.sch x.rq ((x.rows.take z.i).map (·.xs)) ∧ z.c.lens ∧ ((x.rows.take z.i).map (·.xs)).any P = false) (fun z => x.rows.length - z.i) ⟨0, nilC x.f.1⟩ ⟨Nat.zero_le _, rfl, ⟨by unfold nilC; simp, by unfold nilC; simp, by unfold nilC; simp⟩, by simp⟩ ?_ ?_ ?_
  · exact zu
  · intro w hw
    have h1 := Ub x.f.1 hw
    have h2 : St B w0 (clQ (nilC x.f.1) :: clA g8 (nilC x.f.1) :: clA g6 (nilC 0) :: rqA g5 x :: schA g4 s :: netA g3 n :: H) w := h1
    clear hw h1
    revert w
    exact zk
  rintro ⟨i, c⟩ ⟨hi, hcm, hlen, hno⟩ K hK
  dsimp only at hi hcm hlen hno ⊢
  have hrt : Rd B w0 (clA g8 c :: clQ c :: clA g6 (nilC 0) :: rqA g5 x :: schA g4 s :: netA g3 n :: H) x.A (x.rows.flatMap rowF) := hx.rt.cons.cons.cons.cons.cons.cons
  by_cases hlt : i < x.rows.length
  rotate_left
  · obtain rfl : i = x.rows.length := by omega
    rw [List.take_length] at hcm hno
    rw [hno]
    clear hK
    repeat' (first | apply (zs2 ?_) | (apply zg3; refine zs8 ?_) | (apply (zs17 ?_ ?_) <;> intro _ <;> try (exfalso; omega)) | (apply zg22; refine zs51 ?_) | apply (zs65 ?_) | apply (zs68 ?_) | apply (zs69 ?_) | apply (zs70 ?_) | (apply zg27; refine zs72 ?_) | apply (zs74 ?_) | apply (zs75 ?_) | apply (zs80 ?_) | apply (zs81 ?_) | fail)
    apply U5 T (H2 := clQ c :: H); exact rfl; exact rfl; exact rfl; exact zm; exact rfl; exact rfl; exact zk
    exact ⟨c, rfl, fun _ => ⟨hcm, hlen⟩, rfl⟩
  obtain ⟨r, hr⟩ : ∃ r, x.rows[i]? = some r := ⟨_, List.getElem?_eq_getElem hlt⟩
  have hrm := List.mem_of_getElem? hr
  have hri := hx.rw_ r hrm
  have p2 := fun {H' : List HP} {w : World} (hin : n.In B w0 H') (hrs : Rd B w0 H' s.A (s.cells.flatMap celF)) (hx : x.In B w0 H') (hw : St B w0 H' w) => p1 r hrm hin hrs hx hw
  dsimp only at p2
  obtain ⟨⟨⟨m, wst, sx⟩, e⟩, hRt⟩ : ∃ z, Y5 n.net s.sch x.f r.xs = z := ⟨_, rfl⟩
  rw [hRt] at p2
  dsimp only at p2
  unfold flwV at p2
  repeat' (first | (apply Xh T; exact rfl; exact zm; exact rfl; exact zv; exact rfl; exact rfl) | apply (zs1 ?_) | apply (zs2 ?_) | (apply zg2; refine zs6 ?_) | (apply zg3; refine zs60 ?_) | (apply zg5; refine zs57 ?_) | (apply (zs17 ?_ ?_) <;> intro _ <;> try (exfalso; omega)) | apply (zs65 ?_) | apply (zs68 ?_) | apply (zs69 ?_) | apply (zs70 ?_) | (apply zg27; refine zs71 ?_) | apply (zs73 ?_) | apply (zs76 ?_) | fail)
  apply Yq _ en34
  exact za
  exact rfl
  exact fun _ hw => (p2 (hin.mono zk) (hrs.mono zk) (hx.mono zk) (hw))
  rintro _ _ ⟨A2, cap2, rfl, rfl⟩
  have hPr : P r.xs = decide (e ≠ 0 ∨ x.f.2.2.2.2.2 < m) := by rw [← hP]; unfold badR; rw [hRt]
  by_cases hbad : e ≠ 0 ∨ x.f.2.2.2.2.2 < m
  · rw [decide_eq_true hbad] at hPr
    have hany : (x.rows.map (·.xs)).any P = true := List.any_eq_true.2 ⟨r.xs, List.mem_map_of_mem hrm, hPr⟩
    rw [hany]
    clear hK
    by_cases he0 : e = 0
    all_goals (
      repeat' (first | apply (zs1 ?_) | apply (zs2 ?_) | (apply zg1; first | refine zs3 ?_ | refine zs4 ?_) | (apply zg2; refine zs6 ?_) | (apply zg3; refine zs7 ?_) | (apply zg6; first | refine zs11 ?_ | refine zs12 ?_) | apply (zs13 ?_) | (apply zg8; (refine zs16 ?_ ?_ <;> intro _ <;> try (exfalso; omega))) | (apply (zs19 ?_ ?_) <;> intro _ <;> try (exfalso; omega)) | (apply zg22; refine zs51 ?_) | (apply zg25; refine zs55 ?_) | apply (zs65 ?_) | apply (zs68 ?_) | apply (zs69 ?_) | apply (zs70 ?_) | (apply zg27; refine zs71 ?_) | apply (zs74 ?_) | apply (zs77 ?_) | apply (zs78 ?_) | fail)
      apply U5 T (H2 := clQ (nilC 0) :: H); exact rfl; exact rfl; exact rfl; exact zm; exact rfl; exact rfl
      · intro w hw
        have h5 : St B w0 H w := by
          revert w
          exact zk
        exact Ub 0 h5
      exact ⟨nilC 0, rfl, (fun h => by cases h), rfl⟩)
  rw [decide_eq_false hbad] at hPr
  have he0 : e = 0 := Decidable.byContradiction fun h => hbad (.inl h)
  have hml : m ≤ x.f.2.2.2.2.2 := by omega
  subst he0
  obtain ⟨hri9, hsx9⟩ : r.xs.length ≤ 9 ∧ sx.length ≤ 72 := by
    have h0 : (Y5 n.net s.sch x.f r.xs).2 = 0 := by rw [hRt]
    obtain ⟨h1, b, h2, h3⟩ := YdB h0
    have hok := Qh (x := ⟨n, s, x.f, r.A, r.cap, r.xs⟩) h1
    have h4 := Ya5 hok h2
    rw [hRt] at h3
    injection h3 with h3 _
    rw [← h3] at h4
    exact ⟨hok.len.2, h4⟩
  have hinv : ∀ (A1 : Option Addr) (c1 : Nat) (r8 : RowM) (_ : r8.xs = r.xs) (A3 : Option Addr) (c3 : Nat) (A4 : Option Addr) (c4 : Nat) (A5 : Option Addr) (c5 : Nat), (i + 1 ≤ x.rows.length ∧ (ClM.mk c.flow A1 c1 (c.rs ++ [r8]) A3 c3 (c.bs ++ [m]) A4 c4 (c.ws ++ [wst]) A5 c5 (c.ss ++ [⟨A2, cap2, sx⟩])).clm = Wh n.net s.sch x.rq ((x.rows.take (i + 1)).map (·.xs)) ∧ (ClM.mk c.flow A1 c1 (c.rs ++ [r8]) A3 c3 (c.bs ++ [m]) A4 c4 (c.ws ++ [wst]) A5 c5 (c.ss ++ [⟨A2, cap2, sx⟩])).lens ∧ ((x.rows.take (i + 1)).map (·.xs)).any P = false) := by
    intro A1 c1 r8 hr8 A3 c3 A4 c4 A5 c5
    have hst : (x.rows.take (i + 1)).map (·.xs) = (x.rows.take i).map (·.xs) ++ [r.xs] := by
      rw [List.take_add_one, hr, Option.toList_some, List.map_append]; rfl
    have hli : ((x.rows.take i).map (·.xs)).length = i := by rw [List.length_map, List.length_take]; omega
    rw [hst]
    unfold ClM.clm Wh at hcm
    injection hcm with f1 f2 f3 f4 f5
    have l1 : c.rs.length = i := by rw [← hli, ← f2, List.length_map]
    have l2 : c.bs.length = i := by rw [f3, List.length_map, hli]
    have l3 : c.ws.length = i := by rw [f4, List.length_map, hli]
    have l4 : c.ss.length = i := by
      have := congrArg List.length f5
      rw [List.length_map, List.length_map, hli] at this
      exact this
    refine ⟨by omega, ?_, ⟨?_, ?_, ?_⟩, ?_⟩
    · unfold ClM.clm Wh
      simp only [List.map_append, List.map_cons, List.map_nil, hr8, f1, f2, f3, f4, f5, e1, hRt]
    · simp only [List.length_append, List.length_cons, List.length_nil, l1, l2, l3, l4]
      omega
    · intro q hq
      rcases List.mem_append.1 hq with h | h
      · exact hlen.2.1 q h
      · rw [List.mem_singleton.1 h, hr8]; omega
    · intro q hq
      rcases List.mem_append.1 hq with h | h
      · exact hlen.2.2 q h
      · rw [List.mem_singleton.1 h]; show sx.length ≤ 1000; omega
    · rw [List.any_append, hno]
      simp [hPr]
  repeat' (first | apply (zs1 ?_) | apply (zs2 ?_) | (apply zg1; refine zs4 ?_) | (apply zg2; refine zs6 ?_) | (apply zg3; refine zs7 ?_) | (apply zg6; refine zs12 ?_) | apply (zs13 ?_) | (apply zg8; (refine zs16 ?_ ?_ <;> intro _ <;> try (exfalso; omega))) | (apply (zs19 ?_ ?_) <;> intro _ <;> try (exfalso; omega)) | apply (zs65 ?_) | apply (zs68 ?_) | apply (zs69 ?_) | apply (zs70 ?_) | (apply zg27; refine zs72 ?_) | apply (zs76 ?_) | fail)
  refine UZ (nrs A2 cap2 sx :: clA g8 c :: sl 72 1 c.rA c.rs.length c.rcap (c.rs.flatMap rowF) :: many (c.rs.map rowQ) :: nrs c.bA c.bcap c.bs :: nrs c.wA c.wcap c.ws :: sl 24 1 c.sA c.ss.length c.scap (c.ss.flatMap rowF) :: many (c.ss.map rowQ) :: clA g6 (nilC 0) :: rqA g5 x :: schA g4 s :: netA g3 n :: H) (fun w hw => hw.perm (.cons _ (.cons _ (.open_ (clP c) _)))) ?_
  have hl1 := hlen.1
  refine UY (fun z : M8 r.xs => [(22, .int .i64 (i : Nat)), (21, .int .i64 x.rows.length), (20, .slice x.A x.rows.length x.cap), (8, .pointer (some ⟨g8, 0, none⟩)), (6, .pointer (some ⟨g6, 0, none⟩)), (5, .pointer (some ⟨g5, 0, none⟩)), (4, .pointer (some ⟨g4, 0, none⟩)), (3, .pointer (some ⟨g3, 0, none⟩)), (13, .slice A2 sx.length cap2), (12, .int .i64 wst)])
    (fun z => nrs A2 cap2 sx :: blk g8 (.cells #[.int .i64 c.flow, .slice z.A1 (c.rs ++ [z.r]).length z.c1, .slice z.A3 (c.bs ++ [m]).length z.c3, .slice c.wA c.ws.length c.wcap, .slice c.sA c.ss.length c.scap] 61 (0, 0)) :: sl 72 1 z.A1 (c.rs ++ [z.r]).length z.c1 ((c.rs ++ [z.r]).flatMap rowF) :: many ((c.rs ++ [z.r]).map rowQ) :: nrs z.A3 z.c3 (c.bs ++ [m]) :: nrs c.wA c.wcap c.ws :: sl 24 1 c.sA c.ss.length c.scap (c.ss.flatMap rowF) :: many (c.ss.map rowQ) :: clA g6 (nilC 0) :: rqA g5 x :: schA g4 s :: netA g3 n :: H) ?_ ?_
  · intro K8 hK8
    apply VJ (.n1 0 (.n1 1 (.n1 2 (.n1 6 (.n1 7 (.n1 8 (.n2 3 (.n2 4 (.n2 5 (.n1 11 (.n1 9 (.n1 10 .done))) 9 (.n1 5 (.n1 11 (.n1 10 .done)))) 9 (.n1 4 (.n1 5 (.n1 11 (.n1 10 .done))))) 9 (.n1 3 (.n1 4 (.n1 5 (.n1 11 (.n1 10 .done)))))))))))) [12, 13, 14] [false, true]
    kernel_rfl
    kernel_rfl
    exact zy
    (simp only [Yk, nthO]; rfl)
    repeat' (first | ((apply Yq _ YjH); exact za; exact rfl; exact fun _ hw => O1 r.xs (by omega) (hri.mono zk) hw; rintro _ _ ⟨A8, cap8, rfl, rfl⟩) | (apply YcL; (simp only [nthO]; rfl); (simp only [nthO]; rfl)) | (apply YcK; (simp only [nthO]; rfl)) | (apply VO; (repeat (first | with_reducible exact Yh | (with_reducible apply Yf; (repeat (first | with_reducible exact Yg | with_reducible apply Ye)))))) | (apply U6; exact zp) | apply (zs1 ?_) | (apply zg2; refine zs6 ?_) | (apply zg3; refine zs7 ?_) | (apply zg21; (refine zs49 ?_; intro _ _)) | (apply zg22; refine zs50 ?_) | (apply zg26; (refine zs56 ?_; intro _)) | apply (zs65 ?_) | (apply Yo; exact zp) | apply (zs87 ?_) | (apply Yl; (repeat (first | with_reducible exact Yh | (with_reducible apply Yf; (repeat (first | with_reducible exact Yg | with_reducible apply Ye)))))) | apply (zs93 ?_) | apply (zs94 ?_) | fail)
    all_goals (
      first
        | (rename_i A1 c1 g A3 c3; guard_hyp g : Nat; guard_hyp A1 : Option Addr)
        | (rename_i A1 c1 A3 c3; guard_hyp A1 : Option Addr)
      refine hK8 ⟨A1, c1, ⟨A8, cap8, r.xs⟩, rfl, A3, c3⟩ _ _ zu ?_
      intro w hw
      have q1 : sl 72 1 A1 (c.rs.length + 1) c1 (c.rs.flatMap rowF ++ #[Value.slice A8 r.xs.length cap8].toList) = sl 72 1 A1 (c.rs ++ [(⟨A8, cap8, r.xs⟩ : RowM)]).length c1 ((c.rs ++ [(⟨A8, cap8, r.xs⟩ : RowM)]).flatMap rowF) := J2 _ _ _ _ ⟨A8, cap8, r.xs⟩
      rw [q1, X3, show c.rs.length + 1 = (c.rs ++ [(⟨A8, cap8, r.xs⟩ : RowM)]).length by simp, show c.bs.length + 1 = (c.bs ++ [m]).length by simp] at hw
      have h5 : St B w0 (nrs A2 cap2 sx :: blk g8 (.cells #[.int .i64 c.flow, .slice A1 (c.rs ++ [(⟨A8, cap8, r.xs⟩ : RowM)]).length c1, .slice A3 (c.bs ++ [m]).length c3, .slice c.wA c.ws.length c.wcap, .slice c.sA c.ss.length c.scap] 61 (0, 0)) :: sl 72 1 A1 (c.rs ++ [(⟨A8, cap8, r.xs⟩ : RowM)]).length c1 ((c.rs ++ [(⟨A8, cap8, r.xs⟩ : RowM)]).flatMap rowF) :: sl 3 1 A8 r.xs.length cap8 (r.xs.flatMap numF) :: many (c.rs.map rowQ) :: nrs A3 c3 (c.bs ++ [m]) :: nrs c.wA c.wcap c.ws :: sl 24 1 c.sA c.ss.length c.scap (c.ss.flatMap rowF) :: many (c.ss.map rowQ) :: clA g6 (nilC 0) :: rqA g5 x :: schA g4 s :: netA g3 n :: H) w := by
        clear q1
        revert w
        exact zk
      exact h5.perm (.cons _ (.cons _ (.cons _ (Jh rowQ c.rs ⟨A8, cap8, r.xs⟩ _)))))
  rintro ⟨A1, c1, r8, hr8, A3, c3⟩
  dsimp only
  repeat' (first | fail)
  apply VJ (.n1 0 (.n1 1 (.n1 2 (.n1 5 (.n1 6 (.n1 7 (.n2 3 (.n2 4 (.n1 10 (.n1 8 (.n1 9 .done))) 8 (.n1 4 (.n1 10 (.n1 9 .done)))) 8 (.n1 3 (.n1 4 (.n1 10 (.n1 9 .done))))))))))) [11, 12, 13] [false, true]
  kernel_rfl
  kernel_rfl
  exact zy
  (simp only [Yk, nthO]; rfl)
  repeat' (first | (apply YcL; (simp only [nthO]; rfl); (simp only [nthO]; rfl)) | (apply YcK; (simp only [nthO]; rfl)) | (apply VO; (repeat (first | with_reducible exact Yh | (with_reducible apply Yf; (repeat (first | with_reducible exact Yg | with_reducible apply Ye)))))) | (apply U6; exact zp) | apply (zs1 ?_) | (apply zg2; refine zs6 ?_) | (apply zg3; refine zs7 ?_) | (apply zg13; refine zs30 ?_) | (apply zg21; (refine zs49 ?_; intro _ _)) | (apply zg22; refine zs50 ?_) | (apply zg26; (refine zs56 ?_; intro _)) | apply (zs65 ?_) | (apply Yo; exact zp) | apply (zs68 ?_) | apply (zs70 ?_) | apply (zs79 ?_) | apply (zs87 ?_) | (apply Yl; (repeat (first | with_reducible exact Yh | (with_reducible apply Yf; (repeat (first | with_reducible exact Yg | with_reducible apply Ye)))))) | apply (zs93 ?_) | apply (zs94 ?_) | fail)
  all_goals (
    first
      | (rename_i A4 c4 g A5 c5; guard_hyp g : Nat; guard_hyp A4 : Option Addr)
      | (rename_i A4 c4 A5 c5; guard_hyp A4 : Option Addr)
    refine hK ⟨i + 1, ⟨c.flow, A1, c1, c.rs ++ [r8], A3, c3, c.bs ++ [m], A4, c4, c.ws ++ [wst], A5, c5, c.ss ++ [⟨A2, cap2, sx⟩]⟩⟩ ?_ ?_ _ _ zu ?_
    · exact hinv A1 c1 r8 hr8 A3 c3 A4 c4 A5 c5
    · dsimp only; omega
    intro w hw
    have q1 : sl 24 1 A5 (c.ss.length + 1) c5 (c.ss.flatMap rowF ++ #[Value.slice A2 sx.length cap2].toList) = sl 24 1 A5 (c.ss ++ [(⟨A2, cap2, sx⟩ : RowM)]).length c5 ((c.ss ++ [(⟨A2, cap2, sx⟩ : RowM)]).flatMap rowF) := J2 _ _ _ _ ⟨A2, cap2, sx⟩
    rw [q1, X3, show c.ss.length + 1 = (c.ss ++ [(⟨A2, cap2, sx⟩ : RowM)]).length by simp, show c.ws.length + 1 = (c.ws ++ [wst]).length by simp] at hw
    have h5 : St B w0 (blk g8 (.cells #[.int .i64 c.flow, .slice A1 (c.rs ++ [r8]).length c1, .slice A3 (c.bs ++ [m]).length c3, .slice A4 (c.ws ++ [wst]).length c4, .slice A5 (c.ss ++ [(⟨A2, cap2, sx⟩ : RowM)]).length c5] 61 (0, 0)) :: sl 72 1 A1 (c.rs ++ [r8]).length c1 ((c.rs ++ [r8]).flatMap rowF) :: many ((c.rs ++ [r8]).map rowQ) :: nrs A3 c3 (c.bs ++ [m]) :: nrs A4 c4 (c.ws ++ [wst]) :: sl 24 1 A5 (c.ss ++ [(⟨A2, cap2, sx⟩ : RowM)]).length c5 ((c.ss ++ [(⟨A2, cap2, sx⟩ : RowM)]).flatMap rowF) :: nrs A2 cap2 sx :: many (c.ss.map rowQ) :: clA g6 (nilC 0) :: rqA g5 x :: schA g4 s :: netA g3 n :: H) w := by
      clear q1
      revert w
      exact zk
    have h6 := h5.perm (.cons _ (.cons _ (.cons _ (.cons _ (.cons _ (.cons _ (Jh rowQ c.ss ⟨A2, cap2, sx⟩ _)))))))
    exact h6.perm (.cons _ (.close [_, _, _, _, _, _] _)))
open Go.RowKit Go.Eng Go.Nw
def netN (g : Nat) (n : NetM) : HP := blk g (.cells #[.int .i64 n.nodes, .slice n.pA n.rows.length n.pcap, .int .i64 n.noise, .int .i64 n.thr, .slice n.lA n.links.length n.lcap, .slice n.mA n.margin.length n.mcap] 26 (0, 0))
set_option maxRecDepth 10000 in
set_option maxHeartbeats 2000000 in
theorem OZ (n : NetM) (l : List Flw) (s : SchM) (hck : YA n.net = 0) (hlen : l.length ≤ 1000) (hl : s.cells.length ≤ 1000000000000) {A : Option Addr} {cap B : Nat} {w0 : World} {H : List HP} {w : World} (hin : n.In B w0 H) (hrf : Rd B w0 H A (l.flatMap flwF)) (hr : Rd B w0 H s.A (s.cells.flatMap celF)) (hw : St B w0 H w) :
    Calls Tryz.prog 55 [n.val, .slice A l.length cap, s.val].toArray w (Post B w0 fun v K => v = .tuple #[.int .i64 (Xv n.net l s.sch).1, .int .i64 (Xv n.net l s.sch).2] ∧ K = H) := by
  refine Yc Tryz.func55 Tryz.ntmps55 rfl rfl hw ?_
  have e4 : s.sch.cells.length = s.cells.length := rfl
  have hE : Xv n.net l s.sch = Yz (XI n.net l s.sch) s.cells.length 0 := rfl
  rw [hE]
  repeat' (first | apply (zs1 ?_) | apply (zs2 ?_) | (apply zg2; refine zs6 ?_) | (apply zg3; refine zs7 ?_) | (apply zg4; refine zs9 ?_) | (apply zg23; (refine zs52 ?_; intro _)) | apply (zs65 ?_) | apply (zs68 ?_) | apply (zs69 ?_) | apply (zs70 ?_) | apply (zs73 ?_) | fail)
  rename_i gn gs
  refine Yj (fun (i : Nat) => [(13, .int .i64 i), (12, .int .i64 s.cells.length), (11, .slice s.A s.cells.length s.cap), (3, .pointer (some ⟨gn, 0, none⟩)), (5, .pointer (some ⟨gs, 0, none⟩)), (1, .slice A l.length cap)])
    (fun _ => blk gs (.cells #[.int .i64 s.len, .int .i64 s.off, .slice s.A s.cells.length s.cap] 30 (0, 0)) :: netN gn n :: H) (fun i => i ≤ s.cells.length ∧ ∀ k, k < i → XI n.net l s.sch k = 0) (fun i => s.cells.length - i) 0 ⟨Nat.zero_le _, fun k hk => absurd hk (Nat.not_lt_zero _)⟩ ?_ (fun w hw => hw) ?_
  · exact zu
  rintro i ⟨hi, hall⟩ K hK
  unfold netN
  have hrc := fun (X : HP) => ((hr.cons (X := netN gn n)).cons (X := blk gs (.cells #[.int .i64 s.len, .int .i64 s.off, .slice s.A s.cells.length s.cap] 30 (0, 0)))).cons (X := X)
  by_cases hlt : i < s.cells.length
  · have hget : s.cells[i]? = some (Yn s.sch i) := Yx (s := s.sch) hlt
    have hbad : XI n.net l s.sch i ≠ 0 → Yz (XI n.net l s.sch) s.cells.length 0 = ((i : Int), XI n.net l s.sch i) := fun h => YV (fun k _ hk => hall k hk) (Nat.zero_le _) (by omega) h
    have hstep : XI n.net l s.sch i = 0 → ∀ k, k < i + 1 → XI n.net l s.sch k = 0 := fun h k hk => by
      by_cases e : k = i
      · rw [e]; exact h
      · exact hall k (by omega)
    obtain ⟨c, hc⟩ : ∃ c, Yn s.sch i = c := ⟨_, rfl⟩
    have hce : XI n.net l s.sch i = if Xm s.sch c = false then 2 else if YR n.net (YP c) (toC c) = false ∨ Zx l (UI c) < 0 then 7 else if 0 < i ∧ Za (Yn s.sch (i - 1)) c = false then 5 else 0 := by
      unfold XI
      rw [hc]
    rw [hc] at hget
    have hplc := fun {H' : List HP} {w : World} (hw : St B w0 H' w) => OE s c hw
    cases hp : Xm s.sch c with
    | false =>
      rw [hp] at hplc
      rw [hp, if_pos rfl] at hce
      rw [hbad (by rw [hce]; decide), hce]
      repeat' (first | ((first | apply Ya Jx | apply Yb Jx); exact za; exact rfl; exact fun _ hw => (hplc hw)) | apply (zs1 ?_) | apply (zs2 ?_) | (apply zg3; first | refine zs8 ?_ | refine zs61 ?_) | (apply zg5; refine zs57 ?_) | (apply (zs17 ?_ ?_) <;> intro _ <;> try (exfalso; omega)) | (apply zg20; refine zs48 ?_) | (apply zg22; refine zs51 ?_) | (apply zg24; (refine zs54 ?_; intro _)) | apply (zs65 ?_) | apply (zs68 ?_) | apply (zs69 ?_) | apply (zs70 ?_) | (apply zg27; refine zs71 ?_) | apply (zs73 ?_) | apply (zs74 ?_) | apply (zs76 ?_) | apply (zs77 ?_) | apply (zs78 ?_) | fail)
      apply Yi H
      · exact zk
      apply Yp; exact rfl; exact rfl; exact rfl; exact ⟨rfl, rfl⟩
    | true =>
    rw [hp] at hplc
    rw [hp, if_neg (by decide)] at hce
    have hix := fun {H' : List HP} {w : World} (hin : n.In B w0 H') (hw : St B w0 H' w) => ZB n c.2.2.1 c.2.2.2.1 hin hw
    have hus := fun {H' : List HP} {w : World} (hin : n.In B w0 H') (hw : St B w0 H' w) => W9 n (Z4 n.net c.2.2.1 c.2.2.2.1) hin hw
    rw [YhE hck] at hus
    have hfi := fun {H' : List HP} {w : World} (hr : Rd B w0 H' A (l.flatMap flwF)) (hw : St B w0 H' w) => Yeh l c.2.2.2.2 hlen (cap := cap) hr hw
    have hgf : YR n.net (YP c) (toC c) = YR n.net c.2.2.1 c.2.2.2.1 := rfl
    have hff : Zx l (UI c) = Zx l c.2.2.2.2 := rfl
    by_cases hg : YR n.net c.2.2.1 c.2.2.2.1 = false ∨ Zx l c.2.2.2.2 < 0
    · rw [hgf, hff, if_pos hg] at hce
      rw [hbad (by rw [hce]; decide), hce]
      cases hgd : YR n.net c.2.2.1 c.2.2.2.1 with
      | false =>
        rw [hgd] at hus
        repeat' (first | ((first | apply Ya Jx | apply Yb Jx); exact za; exact rfl; exact fun _ hw => (hplc hw)) | ((first | apply Ya en95 | apply Yb en95); exact za; exact rfl; exact fun _ hw => (hix hin.cons.cons.cons hw)) | ((first | apply Ya Jy | apply Yb Jy); exact za; exact rfl; exact fun _ hw => (hus hin.cons.cons.cons hw)) | apply (zs1 ?_) | apply (zs2 ?_) | (apply zg1; refine zs3 ?_) | (apply zg2; refine zs6 ?_) | (apply zg3; first | refine zs7 ?_ | refine zs8 ?_ | refine zs61 ?_) | (apply zg5; refine zs57 ?_) | (apply zg6; refine zs11 ?_) | (apply (zs17 ?_ ?_) <;> intro _ <;> try (exfalso; omega)) | (apply zg20; first | refine zs47 ?_ | refine zs48 ?_) | (apply zg22; refine zs51 ?_) | (apply zg24; (refine zs54 ?_; intro _)) | apply (zs65 ?_) | apply (zs66 ?_) | apply (zs68 ?_) | apply (zs69 ?_) | apply (zs70 ?_) | (apply zg27; first | refine zs71 ?_ | refine zs72 ?_) | apply (zs73 ?_) | apply (zs74 ?_) | apply (zs76 ?_) | apply (zs77 ?_) | apply (zs78 ?_) | (apply zg28; refine zs84 ?_) | fail)
        apply Yi H
        · exact zk
        apply Yp; exact rfl; exact rfl; exact rfl; exact ⟨rfl, rfl⟩
      | true =>
        have hneg : Zx l c.2.2.2.2 < 0 := hg.elim (fun h => by rw [hgd] at h; cases h) id
        rw [hgd] at hus
        repeat' (first | ((first | apply Ya Jx | apply Yb Jx); exact za; exact rfl; exact fun _ hw => (hplc hw)) | ((first | apply Ya en95 | apply Yb en95); exact za; exact rfl; exact fun _ hw => (hix hin.cons.cons.cons hw)) | ((first | apply Ya Jy | apply Yb Jy); exact za; exact rfl; exact fun _ hw => (hus hin.cons.cons.cons hw)) | ((first | apply Ya Oi | apply Yb Oi); exact za; exact rfl; exact fun _ hw => (hfi hrf.cons.cons.cons hw)) | apply (zs1 ?_) | apply (zs2 ?_) | (apply zg1; refine zs4 ?_) | (apply zg2; refine zs6 ?_) | (apply zg3; first | refine zs7 ?_ | refine zs8 ?_ | refine zs61 ?_) | (apply zg5; refine zs57 ?_) | (apply zg6; refine zs12 ?_) | (apply (zs17 ?_ ?_) <;> intro _ <;> try (exfalso; omega)) | (apply zg20; refine zs47 ?_) | (apply zg22; refine zs51 ?_) | (apply zg24; (refine zs54 ?_; intro _)) | apply (zs65 ?_) | apply (zs66 ?_) | apply (zs68 ?_) | apply (zs69 ?_) | apply (zs70 ?_) | (apply zg27; first | refine zs71 ?_ | refine zs72 ?_) | apply (zs73 ?_) | apply (zs74 ?_) | apply (zs76 ?_) | apply (zs77 ?_) | apply (zs78 ?_) | (apply zg28; refine zs84 ?_) | fail)
        apply Yi H
        · exact zk
        apply Yp; exact rfl; exact rfl; exact rfl; exact ⟨rfl, rfl⟩
    have hgd : YR n.net c.2.2.1 c.2.2.2.1 = true := by
      cases h : YR n.net c.2.2.1 c.2.2.2.1 with
      | true => rfl
      | false => exact absurd (.inl h) hg
    have hpos : ¬ Zx l c.2.2.2.2 < 0 := fun h => hg (.inr h)
    rw [hgf, hff, if_neg hg] at hce
    rw [hgd] at hus
    rcases Nat.eq_zero_or_pos i with h0 | h0
    · subst h0
      rw [if_neg (by omega)] at hce
      repeat' (first | ((first | apply Ya Jx | apply Yb Jx); exact za; exact rfl; exact fun _ hw => (hplc hw)) | ((first | apply Ya en95 | apply Yb en95); exact za; exact rfl; exact fun _ hw => (hix hin.cons.cons.cons hw)) | ((first | apply Ya Jy | apply Yb Jy); exact za; exact rfl; exact fun _ hw => (hus hin.cons.cons.cons hw)) | ((first | apply Ya Oi | apply Yb Oi); exact za; exact rfl; exact fun _ hw => (hfi hrf.cons.cons.cons hw)) | apply (zs1 ?_) | apply (zs2 ?_) | (apply zg1; first | refine zs3 ?_ | refine zs4 ?_) | (apply zg2; refine zs6 ?_) | (apply zg3; first | refine zs7 ?_ | refine zs8 ?_ | refine zs61 ?_) | (apply zg5; refine zs57 ?_) | (apply zg6; refine zs12 ?_) | (apply (zs17 ?_ ?_) <;> intro _ <;> try (exfalso; omega)) | (apply (zs19 ?_ ?_) <;> intro _ <;> try (exfalso; omega)) | (apply zg13; refine zs30 ?_) | (apply zg20; refine zs47 ?_) | (apply zg22; refine zs51 ?_) | (apply zg24; (refine zs54 ?_; intro _)) | apply (zs65 ?_) | apply (zs66 ?_) | apply (zs68 ?_) | apply (zs69 ?_) | apply (zs70 ?_) | (apply zg27; first | refine zs71 ?_ | refine zs72 ?_) | apply (zs73 ?_) | apply (zs76 ?_) | apply (zs79 ?_) | (apply zg28; refine zs84 ?_) | fail)
      apply hK (0 + 1)
      · exact ⟨by omega, hstep hce⟩
      · omega
      · exact zu
      · unfold netN
        exact zk
    have hget2 : s.cells[((i : Int) - 1).toNat]? = some (Yn s.sch (i - 1)) := by
      rw [show ((i : Int) - 1).toNat = i - 1 by omega]
      exact Yx (s := s.sch) (show i - 1 < s.cells.length by omega)
    obtain ⟨p, hpv⟩ : ∃ p, Yn s.sch (i - 1) = p := ⟨_, rfl⟩
    rw [hpv] at hce hget2
    have hcl := Yea p c
    have hcm := fun {H' : List HP} {w : World} (hw : St B w0 H' w) => UC p c hw
    obtain ⟨q, hq⟩ : ∃ q, cmpV (nums p) (nums c) = q := ⟨_, rfl⟩
    rw [hq] at hcl hcm
    by_cases hlt2 : q < 0
    · rw [hcl.1 hlt2, if_neg (by simp)] at hce
      repeat' (first | ((first | apply Ya Jx | apply Yb Jx); exact za; exact rfl; exact fun _ hw => (hplc hw)) | ((first | apply Ya en95 | apply Yb en95); exact za; exact rfl; exact fun _ hw => (hix hin.cons.cons.cons hw)) | ((first | apply Ya Jy | apply Yb Jy); exact za; exact rfl; exact fun _ hw => (hus hin.cons.cons.cons hw)) | ((first | apply Ya Oi | apply Yb Oi); exact za; exact rfl; exact fun _ hw => (hfi hrf.cons.cons.cons hw)) | ((first | apply Ya en62 | apply Yb en62); exact za; exact rfl; exact fun _ hw => (hcm hw)) | apply (zs1 ?_) | apply (zs2 ?_) | (apply zg1; refine zs4 ?_) | (apply zg2; refine zs6 ?_) | (apply zg3; first | refine zs7 ?_ | refine zs8 ?_ | refine zs61 ?_) | (apply zg5; refine zs57 ?_) | (apply zg6; first | refine zs11 ?_ | refine zs12 ?_) | (apply (zs17 ?_ ?_) <;> intro _ <;> try (exfalso; omega)) | (apply (zs19 ?_ ?_) <;> intro _ <;> try (exfalso; omega)) | (apply (zs20 ?_ ?_) <;> intro _ <;> try (exfalso; omega)) | (apply zg13; refine zs30 ?_) | (apply zg14; refine zs31 ?_) | (apply zg20; refine zs47 ?_) | (apply zg22; refine zs51 ?_) | (apply zg24; (refine zs54 ?_; intro _)) | apply (zs65 ?_) | apply (zs66 ?_) | apply (zs68 ?_) | apply (zs69 ?_) | apply (zs70 ?_) | (apply zg27; first | refine zs71 ?_ | refine zs72 ?_) | apply (zs73 ?_) | apply (zs76 ?_) | apply (zs79 ?_) | (apply zg28; refine zs84 ?_) | fail)
      apply hK (i + 1)
      · exact ⟨by omega, hstep hce⟩
      · omega
      · exact zu
      · unfold netN
        exact zk
    · have hnl : Za p c = false := by
        cases h : Za p c with
        | false => rfl
        | true => exact absurd (hcl.2 h) hlt2
      rw [hnl, if_pos ⟨h0, rfl⟩] at hce
      rw [hbad (by rw [hce]; decide), hce]
      repeat' (first | ((first | apply Ya Jx | apply Yb Jx); exact za; exact rfl; exact fun _ hw => (hplc hw)) | ((first | apply Ya en95 | apply Yb en95); exact za; exact rfl; exact fun _ hw => (hix hin.cons.cons.cons hw)) | ((first | apply Ya Jy | apply Yb Jy); exact za; exact rfl; exact fun _ hw => (hus hin.cons.cons.cons hw)) | ((first | apply Ya Oi | apply Yb Oi); exact za; exact rfl; exact fun _ hw => (hfi hrf.cons.cons.cons hw)) | ((first | apply Ya en62 | apply Yb en62); exact za; exact rfl; exact fun _ hw => (hcm hw)) | apply (zs1 ?_) | apply (zs2 ?_) | (apply zg1; refine zs4 ?_) | (apply zg2; refine zs6 ?_) | (apply zg3; first | refine zs7 ?_ | refine zs8 ?_ | refine zs61 ?_) | (apply zg5; refine zs57 ?_) | (apply zg6; first | refine zs11 ?_ | refine zs12 ?_) | (apply (zs17 ?_ ?_) <;> intro _ <;> try (exfalso; omega)) | (apply (zs19 ?_ ?_) <;> intro _ <;> try (exfalso; omega)) | (apply (zs20 ?_ ?_) <;> intro _ <;> try (exfalso; omega)) | (apply zg14; refine zs31 ?_) | (apply zg20; refine zs47 ?_) | (apply zg22; refine zs51 ?_) | (apply zg24; (refine zs54 ?_; intro _)) | apply (zs65 ?_) | apply (zs66 ?_) | apply (zs68 ?_) | apply (zs69 ?_) | apply (zs70 ?_) | (apply zg27; first | refine zs71 ?_ | refine zs72 ?_) | apply (zs73 ?_) | apply (zs74 ?_) | apply (zs76 ?_) | apply (zs77 ?_) | apply (zs78 ?_) | (apply zg28; refine zs84 ?_) | fail)
      apply Yi H
      · exact zk
      apply Yp; exact rfl; exact rfl; exact rfl; exact ⟨rfl, rfl⟩
  · repeat' (first | apply (zs2 ?_) | (apply (zs17 ?_ ?_) <;> intro _ <;> try (exfalso; omega)) | apply (zs65 ?_) | apply (zs68 ?_) | apply (zs69 ?_) | apply (zs70 ?_) | (apply zg27; refine zs72 ?_) | apply (zs74 ?_) | apply (zs75 ?_) | apply (zs80 ?_) | apply (zs81 ?_) | fail)
    rw [show i = s.cells.length by omega] at hall
    rw [Y9 fun k _ hk => hall k (by omega)]
    apply Yi H
    · exact zk
    apply Yp; exact rfl; exact rfl; exact rfl; exact ⟨rfl, rfl⟩
end Go.Proofs.YtmalhidldgfeoaaGreatDoor
namespace Go.Eng
open Go.RowKit
theorem YeM {P : Program} {B : Nat} {w0 : World} {env : Env} {H : List HP} {n : Nat} (T : Tab P) {fn : Func} {Φ : Value → List HP → Prop} {p g rt : Nat} {v : Value} {cs : Array Value} {tt : TypeId} {fr : Nat × Nat} (hr : fn.results = #[.cell p rt]) (hp : get env p = some (.pointer (some ⟨g, 0, none⟩)))
    (hm : Eng.blk g (.cells cs tt fr) ∈ H) (hv : nth cs.toList 0 = some v) (ht : Eng.look T.sc rt = some ()) {H2 : List HP} (hH : ∀ w, St B w0 H w → St B w0 H2 w) (h : Φ v H2) : VQ ⟨n, [], none⟩ B w0 (bodyPost P fn (Post B w0 Φ)) .ret env H := by
  refine ⟨fun a w ha hw => bodyPost_ret (v := v) ?_ ha.defers ⟨_, H2, rfl, hH w hw, h⟩⟩
  have hp' := ha.slot p _ hp
  rw [Ycd] at hv
  have hc := Xc (i := 0) (hw.blk hm).1
  simp [results, hr, Array.getD_eq_getD_getElem?, hp', asAddr, loadVar, X4 (T.scal ht).1, hc, hv]
end Go.Eng
namespace Go.Proofs.YtmalhidldgfeoaaGreatDoor
open Go.RowKit Go.Eng Go.Nw
theorem Yge {s : Sch} {i : Nat} (hi : i < s.cells.length) (h : ∀ j ∈ inI s (Yn s i).1 s.cells.length, j < i → YY (Yn s i) (Yn s j) = false) : Xx s i = false := by
  unfold Xx
  rw [List.any_eq_false]
  intro j hj
  have hj := List.mem_range.1 hj
  rw [Bool.and_eq_true, decide_eq_true_eq]
  rintro ⟨h1, h2⟩
  rw [h j (Uu.2 ⟨by omega, h1⟩) hj] at h2
  cases h2
theorem YbL {s : Sch} {i j : Nat} (hji : j < i) (hs : (Yn s j).1 = (Yn s i).1) (ht : YY (Yn s i) (Yn s j) = true) : Xx s i = true := by
  unfold Xx
  rw [List.any_eq_true]
  exact ⟨j, List.mem_range.2 hji, by rw [decide_eq_true hs, ht]; rfl⟩
set_option maxRecDepth 10000 in
set_option maxHeartbeats 2000000 in
theorem YeD (s : SchM) (i : Nat) (hi : i < s.cells.length) (hl : s.cells.length ≤ 1000) {B : Nat} {w0 : World} {H : List HP} {w : World} (hr : Rd B w0 H s.A (s.cells.flatMap celF)) (hw : St B w0 H w) :
    Calls Tryz.prog 56 [s.val, .int .i64 i].toArray w (Post B w0 fun v K => v = .bool (Xx s.sch i) ∧ K = H) := by
  refine Zd Tryz.func56 Tryz.ntmps56 rfl rfl hw ?_
  have hget : s.cells[i]? = some (Yn s.sch i) := Yx (s := s.sch) hi
  obtain ⟨c, hc⟩ : ∃ c, Yn s.sch i = c := ⟨_, rfl⟩
  rw [hc] at hget
  repeat' (first | (apply zg2; refine zs6 ?_) | (apply zg3; first | refine zs7 ?_ | refine zs8 ?_ | refine zs61 ?_) | (apply zg5; refine zs57 ?_) | (apply zg22; refine zs51 ?_) | (apply zg23; first | (refine zs52 ?_; intro _) | (refine zs53 ?_; intro _)) | (apply zg24; (refine zs54 ?_; intro _)) | apply (zs65 ?_) | apply (zs68 ?_) | apply (zs69 ?_) | apply (zs70 ?_) | fail)
  rename_i gs gi gr gc
  apply Yq _ en59
  exact za
  exact rfl
  exact fun _ hw => (Ydd s c.1 (hw))
  rintro _ _ ⟨g1, g2, rfl, rfl⟩
  repeat' (first | apply (zs65 ?_) | apply (zs68 ?_) | apply (zs73 ?_) | fail)
  have hr6 : Rd B w0 (intB g2 c.1 :: schB g1 s :: blk gc (.cells (celF c).toArray 40 (0, 0)) :: blk gi (.cells #[.int .i64 i] 3 (0, 0)) :: schB gs s :: H) s.A (s.cells.flatMap celF) := hr.cons.cons.cons.cons.cons
  refine Zf (gf := 118) (lb := [.pointer (some ⟨g1, 0, none⟩), .pointer (some ⟨g2, 0, none⟩)]) (xs := inXs s.sch c.1) (intB g2 c.1 :: schB g1 s :: blk gc (.cells (celF c).toArray 40 (0, 0)) :: blk gi (.cells #[.int .i64 i] 3 (0, 0)) :: schB gs s :: H) (fun _ : Unit => [blk gr (.cells #[.bool false] 4 (0, 0))])
    (fun k _ => ∀ m j, m < k → (inI s.sch c.1 s.cells.length)[m]? = some j → j < i → YY c (Yn s.sch j) = false) (fun e K => e = .ret ∧ Xx s.sch i = true ∧ K = [blk gr (.cells #[.bool true] 4 (0, 0))]) () rfl YiB (Ydc s c.1 g1 g2 hr6 (by omega) (.tail _ (.head _)) (.head _)) rfl ?_ (by kernel_rfl) (by kernel_rfl) ?_ (fun m j h => absurd h (Nat.not_lt_zero _)) ?_ ?_ ?_
  · intro args h
    obtain ⟨k, hk⟩ := List.mem_iff_getElem?.1 h
    obtain ⟨i, _, _, rfl⟩ := Wo hk
    rfl
  · exact fun w hw => hw.perm (.trans (.cons _ (.cons _ (.swap _ _ _))) (.trans (.cons _ (.swap _ _ _)) (.swap _ _ _)))
  · rintro l k args R ⟨⟩ hk hI
    obtain ⟨j, hj, hlt, rfl⟩ := Wo hk
    have hlt2 : j < s.cells.length := hlt
    dsimp only [Uf, List.cons_append, List.nil_append]
    have hgj : s.cells[j]? = some (Yn s.sch j) := Yx (s := s.sch) hlt
    have hjs : (Yn s.sch j).1 = c.1 := (Uu.1 (List.mem_of_getElem? hj)).2
    obtain ⟨d, hd⟩ : ∃ d, Yn s.sch j = d := ⟨_, rfl⟩
    rw [hd] at hgj
    have htc : YY c d = true ↔ (c.2.2.1 = d.2.2.1 ∨ c.2.2.1 = d.2.2.2.1 ∨ c.2.2.2.1 = d.2.2.1 ∨ c.2.2.2.1 = d.2.2.2.1) := by unfold YY YP toC; rw [decide_eq_true_eq]
    repeat' (first | apply (zs2 ?_) | apply (zs65 ?_) | apply (zs70 ?_) | fail)
    apply JN Yg
    intro R'
    unfold intB schB
    have hr7 : Rd B w0 (R' :: blk gr (.cells #[.bool false] 4 (0, 0)) :: intB g2 c.1 :: schB g1 s :: blk gc (.cells (celF c).toArray 40 (0, 0)) :: blk gi (.cells #[.int .i64 i] 3 (0, 0)) :: schB gs s :: H) s.A (s.cells.flatMap celF) := hr6.cons.cons
    unfold intB schB at hr7
    clear hr6
    repeat' (first | apply (zs1 ?_) | (apply zg1; first | refine zs3 ?_ | refine zs4 ?_) | (apply zg2; refine zs6 ?_) | (apply zg3; first | refine zs7 ?_ | refine zs61 ?_) | (apply zg5; refine zs57 ?_) | (apply zg6; first | refine zs11 ?_ | refine zs12 ?_) | (apply zg7; (refine zs15 ?_ ?_ <;> intro _ <;> try (exfalso; omega))) | (apply (zs17 ?_ ?_) <;> intro _ <;> try (exfalso; omega)) | (apply zg22; first | refine zs50 ?_ | refine zs51 ?_) | (apply zg24; (refine zs54 ?_; intro _)) | apply (zs65 ?_) | apply (zs68 ?_) | apply (zs69 ?_) | apply (zs70 ?_) | (apply zg27; first | refine zs71 ?_ | refine zs72 ?_) | apply (zs73 ?_) | apply (zs74 ?_) | apply (zs76 ?_) | apply (zs78 ?_) | apply (zs79 ?_) | fail)
    all_goals first
      | (refine Qq [blk gr (.cells #[.bool true] 4 (0, 0))] ⟨rfl, ?_, rfl⟩ ?_
         · exact YbL (j := j) (by omega) (by rw [hc]; exact hjs) (by rw [hc, hd]; exact htc.2 (by omega))
         · dsimp only [List.cons_append, List.nil_append]
           exact zk
         done)
      | (refine Va () ?_ ?_
         · intro m j2 hm hj2 hji
           rcases Nat.lt_succ_iff_lt_or_eq.1 hm with h | h
           · exact hI m j2 h hj2 hji
           · subst h
             obtain rfl := Option.some.inj (hj.symm.trans hj2)
             rw [hd]
             exact Bool.eq_false_iff.2 fun h => by have := htc.1 h; omega
         · dsimp only [List.cons_append, List.nil_append]
           exact zk
         done)
  · rintro D ⟨⟩ hI
    have htw : Xx s.sch i = false := Yge hi fun j hj hji => by
      rw [hc] at hj ⊢
      obtain ⟨m, hm⟩ := List.mem_iff_getElem?.1 hj
      refine hI m j ?_ hm hji
      rw [inXs, List.length_map]
      exact (List.getElem?_eq_some_iff.1 hm).1
    rw [htw]
    dsimp only [List.cons_append, List.nil_append]
    unfold intB schB
    repeat' (first | (apply zg22; refine zs50 ?_) | apply (zs65 ?_) | apply (zs68 ?_) | apply (zs69 ?_) | apply (zs70 ?_) | apply (zs74 ?_) | apply (zs79 ?_) | fail)
    apply ZP Yg
    apply VQ_m
    apply YeM T (H2 := H); exact rfl; exact rfl; exact zm; exact rfl; exact rfl; exact zk; exact ⟨rfl, rfl⟩
  · rintro D e K ⟨rfl, htw, rfl⟩ hjmp
    rw [htw]
    dsimp only [List.cons_append, List.nil_append]
    unfold intB schB
    repeat' (first | apply (zs77 ?_) | apply (zs78 ?_) | fail)
    apply ZP Yg
    apply VQ_m
    apply YeM T (H2 := H); exact rfl; exact rfl; exact zm; exact rfl; exact rfl; exact zk; exact ⟨rfl, rfl⟩
open Go.RowKit Go.Eng Go.Nw
theorem UN (n : NetM) (v : Int) {B : Nat} {w0 : World} {H : List HP} {w : World} (hw : St B w0 H w) :
    Calls Tryz.prog 173 [n.val, .int .i64 v].toArray w (Post B w0 fun u K => u = .bool (insE v n.net.nodes) ∧ K = H) := by
  have e1 : n.net.nodes = n.nodes := rfl
  refine Yc Tryz.func173 Tryz.ntmps173 rfl rfl hw ?_
  repeat' (first | apply (zs1 ?_) | apply (zs2 ?_) | (apply zg1; first | refine zs3 ?_ | refine zs4 ?_) | (apply zg2; refine zs6 ?_) | (apply zg3; refine zs7 ?_) | (apply zg6; first | refine zs11 ?_ | refine zs12 ?_) | (apply (zs17 ?_ ?_) <;> intro _ <;> try (exfalso; omega)) | (apply (zs20 ?_ ?_) <;> intro _ <;> try (exfalso; omega)) | (apply zg23; (refine zs52 ?_; intro _)) | apply (zs65 ?_) | apply (zs68 ?_) | apply (zs69 ?_) | apply (zs70 ?_) | apply (zs74 ?_) | fail)
  all_goals (
    apply Yi H
    · exact zk
    apply Yd; exact rfl; exact rfl
    first
      | exact ⟨by rw [show insE v n.net.nodes = true from decide_eq_true (by omega)], rfl⟩
      | exact ⟨by rw [show insE v n.net.nodes = false from decide_eq_false (by omega)], rfl⟩)
theorem Yec (n : NetM) (c : Cel) (gn : Nat) {B : Nat} {w0 : World} {H : List HP} {w : World} (hm : blk gn (.cells #[.int .i64 n.nodes, .slice n.pA n.rows.length n.pcap, .int .i64 n.noise, .int .i64 n.thr, .slice n.lA n.links.length n.lcap, .slice n.mA n.margin.length n.mcap] 26 (0, 0)) ∈ H) (hw : St B w0 H w) :
    Calls Tryz.prog 172 [celV c, .pointer (some ⟨gn, 0, none⟩)].toArray w (Post B w0 fun v K => v = .bool (JM n.net c) ∧ K = H) := by
  refine Yc Tryz.func172 Tryz.ntmps172 rfl rfl hw ?_
  obtain ⟨b, hb⟩ : ∃ b, JM n.net c = b := ⟨_, rfl⟩
  rw [hb]
  unfold JM YP toC at hb
  repeat' (first | ((first | apply Yv Om | apply Yu Om); exact za; exact rfl; exact fun _ hw => (UN n _ hw); all_goals (intro hB; (try simp only [decide_eq_true_eq, decide_eq_false_iff_not] at hB); try (exfalso; omega))) | apply (zs1 ?_) | apply (zs2 ?_) | (apply zg1; first | refine zs3 ?_ | refine zs4 ?_) | (apply zg2; refine zs6 ?_) | (apply zg3; first | refine zs7 ?_ | refine zs8 ?_) | (apply zg6; first | refine zs11 ?_ | refine zs12 ?_) | (apply zg20; first | refine zs47 ?_ | refine zs48 ?_) | (apply zg23; (refine zs52 ?_; intro _)) | apply (zs65 ?_) | apply (zs68 ?_) | apply (zs69 ?_) | apply (zs70 ?_) | apply (zs74 ?_) | fail)
  all_goals (
    apply Yi H
    · exact zk
    apply Yd; exact rfl; exact rfl
    refine ⟨?_, rfl⟩
    rw [← hb]
    simp [*])
theorem Qz (p : Cel → Bool) (l : List Cel) (f : Nat) (cs : List Value) (hen : ∀ xs w, (callFunc f xs).run Tryz.prog w = .ok (.enter f xs) w) (hlen : l.length ≤ 1000) {A : Option Addr} {cap B : Nat} {w0 : World} {H : List HP} {w : World} (hr : Rd B w0 H A (l.flatMap celF))
    (hp : ∀ a ∈ l, ∀ w, St B w0 H w → Calls Tryz.prog f ([celV a] ++ cs).toArray w (Post B w0 fun v K => v = .bool (p a) ∧ K = H)) (hw : St B w0 H w) :
    Calls Tryz.prog 174 [.slice A l.length cap, .func (.func f) #[] cs.toArray].toArray w (Post B w0 fun v K => v = .bool (l.any p) ∧ K = H) := by
  refine Yc Tryz.func174 Tryz.ntmps174 rfl rfl hw ?_
  rw [← Ydb]
  repeat' (first | apply (zs1 ?_) | apply (zs2 ?_) | apply (zs65 ?_) | apply (zs68 ?_) | apply (zs69 ?_) | apply (zs70 ?_) | fail)
  first | apply Ya Ybh | apply Yb Ybh
  exact za
  exact rfl
  exact fun _ hw => (QS p l f cs hen hlen hr hp hw)
  by_cases h0 : 0 ≤ Yr p l 0
  · rw [decide_eq_true h0]
    repeat' (first | apply (zs2 ?_) | (apply (zs20 ?_ ?_) <;> intro _ <;> try (exfalso; omega)) | apply (zs65 ?_) | apply (zs68 ?_) | apply (zs74 ?_) | fail)
    apply Yd; exact rfl; exact rfl
    exact ⟨rfl, rfl⟩
  · rw [decide_eq_false h0]
    repeat' (first | apply (zs2 ?_) | (apply (zs20 ?_ ?_) <;> intro _ <;> try (exfalso; omega)) | apply (zs65 ?_) | apply (zs68 ?_) | apply (zs74 ?_) | fail)
    apply Yd; exact rfl; exact rfl
    exact ⟨rfl, rfl⟩
def VE (n : Net) (c : Cel) (node : Int) (m : Nat) : Int := (([c.2.2.1, c.2.2.2.1].take m).map fun e => powN n e node).sum
theorem YfN {n : Net} {c : Cel} {node e : Int} {m : Nat} (h : [c.2.2.1, c.2.2.2.1][m]? = some e) : VE n c node (m + 1) = VE n c node m + powN n e node := by
  unfold VE
  rw [List.take_add_one, h, Option.toList_some, List.map_append, List.sum_append]
  simp
theorem Yil {n : Net} (hok : Ok n) (c : Cel) (node : Int) {m : Nat} (h : m ≤ 2) : 0 ≤ VE n c node m ∧ VE n c node m ≤ 137438953472 := by
  have h1 := Zq hok c.2.2.1 node
  have h2 := Zq hok c.2.2.2.1 node
  match m, h with
  | 0, _ => simp [VE]
  | 1, _ => simp [VE]; omega
  | 2, _ => simp [VE]; omega
set_option maxRecDepth 10000 in
set_option maxHeartbeats 2000000 in
theorem Yed (n : NetM) (l : List Cel) (j : Nat) (node : Int) (hok : Ok n.net) (hnode : 0 ≤ node ∧ node < n.nodes) (hlen : l.length ≤ 1000) {A : Option Addr} {cap B : Nat} {w0 : World} {H : List HP} {w : World} (hin : n.In B w0 H) (hr : Rd B w0 H A (l.flatMap celF)) (hw : St B w0 H w) :
    Calls Tryz.prog 175 [n.val, .slice A l.length cap, .int .i64 j, .int .i64 node].toArray w (Post B w0 fun v K => v = .int .i64 (YT n.net l j node l.length) ∧ K = H) := by
  refine Yc Tryz.func175 Tryz.ntmps175 rfl rfl hw ?_
  have e1 : n.net.nodes = n.nodes := rfl
  repeat' (first | apply (zs1 ?_) | apply (zs2 ?_) | (apply zg4; refine zs9 ?_) | (apply zg23; (refine zs52 ?_; intro _)) | apply (zs65 ?_) | apply (zs68 ?_) | apply (zs69 ?_) | apply (zs70 ?_) | apply (zs73 ?_) | fail)
  rename_i gn
  refine Yj (fun (k : Nat) => [(16, .int .i64 k), (15, .int .i64 l.length), (14, .slice A l.length cap), (9, .int .i64 (YT n.net l j node k)), (4, .pointer (some ⟨gn, 0, none⟩)), (2, .int .i64 j), (3, .int .i64 node)]) (fun _ => netN gn n :: H) (fun k => k ≤ l.length) (fun k => l.length - k) 0 (Nat.zero_le _) ?_ (fun w hw => hw) ?_
  · exact zu
  rintro k hk K hK
  have hbd := Wj hok l j node k
  have hrc := hr.cons (X := netN gn n)
  by_cases hlt : k < l.length
  · obtain ⟨c, hc⟩ : ∃ c, l[k]? = some c := ⟨_, List.getElem?_eq_getElem hlt⟩
    have hcl : celL l k = c := by unfold celL; rw [List.getD_eq_getElem?_getD, hc]; rfl
    have hst : YT n.net l j node (k + 1) = YT n.net l j node k + if k = j then 0 else powN n.net c.2.2.1 node + powN n.net c.2.2.2.1 node := by
      rw [YT, hcl]; rfl
    by_cases hkj : k = j
    · rw [if_pos hkj, Int.add_zero] at hst
      repeat' (first | apply (zs1 ?_) | apply (zs2 ?_) | (apply zg3; refine zs61 ?_) | (apply zg5; refine zs57 ?_) | (apply zg7; (refine zs15 ?_ ?_ <;> intro _ <;> try (exfalso; omega))) | (apply (zs17 ?_ ?_) <;> intro _ <;> try (exfalso; omega)) | (apply zg13; refine zs30 ?_) | (apply zg22; refine zs51 ?_) | (apply zg24; (refine zs54 ?_; intro _)) | apply (zs65 ?_) | apply (zs68 ?_) | apply (zs69 ?_) | apply (zs70 ?_) | (apply zg27; refine zs71 ?_) | apply (zs73 ?_) | apply (zs75 ?_) | apply (zs76 ?_) | apply (zs80 ?_) | apply (zs81 ?_) | fail)
      apply hK (k + 1)
      · show k + 1 ≤ _
        omega
      · omega
      · rw [hst]
        exact zu
      · exact zk
    rw [if_neg hkj] at hst
    repeat' (first | apply (zs1 ?_) | apply (zs2 ?_) | (apply zg2; refine zs6 ?_) | (apply zg3; first | refine zs7 ?_ | refine zs61 ?_) | (apply zg4; refine zs9 ?_) | (apply zg5; refine zs57 ?_) | (apply zg7; (refine zs15 ?_ ?_ <;> intro _ <;> try (exfalso; omega))) | (apply (zs17 ?_ ?_) <;> intro _ <;> try (exfalso; omega)) | (apply zg22; refine zs51 ?_) | (apply zg24; (refine zs54 ?_; intro _)) | (apply zg26; (refine zs56 ?_; intro _)) | apply (zs65 ?_) | apply (zs68 ?_) | apply (zs69 ?_) | apply (zs70 ?_) | (apply zg27; first | refine zs71 ?_ | refine zs72 ?_) | apply (zs73 ?_) | apply (zs76 ?_) | fail)
    rename_i gc _ ge
    refine Yj (fun (m : Nat) => [(30, .int .i64 m), (29, .int .i64 ((2 : Nat) : Int)), (28, .slice (some ⟨ge, 0, none⟩) ([c.2.2.1, c.2.2.2.1] : List Int).length 2), (9, .int .i64 (YT n.net l j node k + VE n.net c node m)), (16, .int .i64 k), (15, .int .i64 l.length), (14, .slice A l.length cap), (4, .pointer (some ⟨gn, 0, none⟩)), (2, .int .i64 j), (3, .int .i64 node)]) (fun _ => blk ge (.cells #[.int .i64 c.2.2.1, .int .i64 c.2.2.2.1] 3 (0, 0)) :: netN gn n :: H) (fun m => m ≤ 2) (fun m => 2 - m) 0 (Nat.zero_le _) ?_ ?_ ?_
    · rw [show VE n.net c node 0 = 0 from rfl, Int.add_zero]
      exact zu
    · exact zk
    rintro m hm K2 hK2
    have hpb := Yil hok c node hm
    have hre : Rd B w0 (blk ge (.cells #[.int .i64 c.2.2.1, .int .i64 c.2.2.2.1] 3 (0, 0)) :: netN gn n :: H) (some ⟨ge, 0, none⟩) (([c.2.2.1, c.2.2.2.1] : List Int).flatMap numF) := Rd.blk (cs := #[.int .i64 c.2.2.1, .int .i64 c.2.2.2.1]) (.head _)
    clear hrc
    unfold netN at hre ⊢
    by_cases hlt2 : m < 2
    · obtain ⟨e, he⟩ : ∃ e, [c.2.2.1, c.2.2.2.1][m]? = some e := ⟨_, List.getElem?_eq_getElem hlt2⟩
      have hst2 := YfN (n := n.net) (node := node) he
      have hcn := fun {H' : List HP} {w : World} (hw : St B w0 H' w) => UN n e hw
      have hl2 : ([c.2.2.1, c.2.2.2.1] : List Int).length = 2 := rfl
      cases hie : insE e n.net.nodes with
      | false =>
        rw [hie] at hcn
        rw [show powN n.net e node = 0 by unfold powN; rw [hie]; simp, Int.add_zero] at hst2
        repeat' (first | ((first | apply Ya Om | apply Yb Om); exact za; exact rfl; exact fun _ hw => (hcn hw)) | apply (zs1 ?_) | apply (zs2 ?_) | (apply zg3; first | refine zs8 ?_ | refine zs60 ?_) | (apply zg5; refine zs57 ?_) | (apply (zs17 ?_ ?_) <;> intro _ <;> try (exfalso; omega)) | (apply zg13; refine zs30 ?_) | apply (zs65 ?_) | apply (zs68 ?_) | apply (zs69 ?_) | apply (zs70 ?_) | (apply zg27; first | refine zs71 ?_ | refine zs72 ?_) | apply (zs73 ?_) | apply (zs76 ?_) | apply (zs79 ?_) | fail)
        apply hK2 (m + 1)
        · show m + 1 ≤ 2
          omega
        · omega
        · rw [hst2]
          exact zu
        · unfold netN
          exact zk
      | true =>
        rw [hie] at hcn
        have he2 : 0 ≤ e ∧ e < n.net.nodes := of_decide_eq_true hie
        have hp0 : (n.rows.length : Int) = n.net.nodes := by
          have := hok.p0
          rwa [show n.net.power = n.rows.map RowM.xs from rfl, List.length_map] at this
        obtain ⟨r, hrw⟩ : ∃ r, n.rows[e.toNat]? = some r := ⟨_, List.getElem?_eq_getElem (by omega)⟩
        have hrm := List.mem_of_getElem? hrw
        have hrl : (r.xs.length : Int) = n.net.nodes := hok.p1 r.xs (List.mem_map.2 ⟨r, hrm, rfl⟩)
        obtain ⟨q, hq⟩ : ∃ q, r.xs[node.toNat]? = some q := ⟨_, List.getElem?_eq_getElem (by omega)⟩
        have hpw : powN n.net e node = q := by
          unfold powN
          rw [if_pos ⟨hie, decide_eq_true (by omega)⟩]
          exact Wu (n := n.net) (r := r.xs) (by simp [NetM.net, hrw]) hq
        have hqb := Zq hok e node
        rw [hpw] at hqb hst2
        have hpd := hin.pw
        have hrd := hin.rw_ r hrm
        have hs1 := hin.s1
        have hs2 := hin.s2 r hrm
        repeat' (first | ((first | apply Ya Om | apply Yb Om); exact za; exact rfl; exact fun _ hw => (hcn hw)) | apply (zs1 ?_) | apply (zs2 ?_) | (apply zg2; refine zs6 ?_) | (apply zg3; first | refine zs7 ?_ | refine zs8 ?_ | refine zs60 ?_) | (apply zg5; refine zs57 ?_) | (apply (zs17 ?_ ?_) <;> intro _ <;> try (exfalso; omega)) | (apply zg13; refine zs30 ?_) | apply (zs65 ?_) | apply (zs68 ?_) | apply (zs69 ?_) | apply (zs70 ?_) | (apply zg27; refine zs71 ?_) | apply (zs73 ?_) | apply (zs76 ?_) | apply (zs79 ?_) | fail)
        apply hK2 (m + 1)
        · show m + 1 ≤ 2
          omega
        · omega
        · rw [hst2]
          exact zu
        · unfold netN
          exact zk
    · obtain rfl : m = 2 := by omega
      have hp2 : YT n.net l j node (k + 1) = YT n.net l j node k + VE n.net c node 2 := by
        rw [hst]
        simp [VE]
      repeat' (first | apply (zs1 ?_) | (apply (zs17 ?_ ?_) <;> intro _ <;> try (exfalso; omega)) | (apply zg13; refine zs30 ?_) | apply (zs65 ?_) | apply (zs68 ?_) | apply (zs69 ?_) | apply (zs70 ?_) | (apply zg27; refine zs72 ?_) | apply (zs75 ?_) | apply (zs79 ?_) | apply (zs80 ?_) | apply (zs81 ?_) | fail)
      apply hK (k + 1)
      · show k + 1 ≤ _
        omega
      · omega
      · rw [hp2]
        exact zu
      · unfold netN
        exact zk
  · repeat' (first | apply (zs1 ?_) | apply (zs2 ?_) | (apply (zs17 ?_ ?_) <;> intro _ <;> try (exfalso; omega)) | apply (zs65 ?_) | apply (zs68 ?_) | apply (zs69 ?_) | apply (zs70 ?_) | (apply zg27; refine zs72 ?_) | apply (zs74 ?_) | apply (zs75 ?_) | apply (zs80 ?_) | apply (zs81 ?_) | fail)
    apply Yi H
    · exact zk
    apply Yd; exact rfl; exact rfl
    rw [show k = l.length by omega]
    exact ⟨rfl, rfl⟩
set_option maxRecDepth 10000 in
set_option maxHeartbeats 1000000 in
theorem JT (n : NetM) (l : List Cel) (j : Nat) (node : Int) (hck : YA n.net = 0) (hnode : 0 ≤ node ∧ node < n.nodes) (hj : j < l.length) (hlen : l.length ≤ 1000) (hno : l.any (JM n.net) = false) {A : Option Addr} {cap B : Nat} {w0 : World} {H : List HP} {w : World} (hin : n.In B w0 H) (hr : Rd B w0 H A (l.flatMap celF)) (hw : St B w0 H w) :
    Calls Tryz.prog 116 [n.val, .slice A l.length cap, .int .i64 j, .int .i64 node].toArray w (Post B w0 fun v K => v = .int .i64 (JS n.net l j node) ∧ K = H) := by
  refine Yc Tryz.func116 Tryz.ntmps116 rfl rfl hw ?_
  have e1 : n.net.nodes = n.nodes := rfl
  have hins : insE node n.net.nodes = true := decide_eq_true hnode
  have hd : JS n.net l j node = YT n.net l j node l.length := by
    unfold JS
    rw [if_neg (by rw [hck, hins, hno]; simp; omega), Int.toNat_natCast]
  rw [hd]
  have hchk := fun {H' : List HP} {w : World} (hin : n.In B w0 H') (hw : St B w0 H' w) => Y1 n hin hw
  rw [hck] at hchk
  have hcn := fun {H' : List HP} {w : World} (hw : St B w0 H' w) => UN n node hw
  rw [hins] at hcn
  (apply XH; apply Xg; apply Xa; exact rfl; exact rfl; intro g)
  have hct := fun {H' : List HP} {w : World} (hm : blk g (.cells #[.int .i64 n.nodes, .slice n.pA n.rows.length n.pcap, .int .i64 n.noise, .int .i64 n.thr, .slice n.lA n.links.length n.lcap, .slice n.mA n.margin.length n.mcap] 26 (0, 0)) ∈ H') (hr : Rd B w0 H' A (l.flatMap celF)) (hw : St B w0 H' w) => Qz (JM n.net) l 172 [.pointer (some ⟨g, 0, none⟩)] YjR hlen (cap := cap) hr (fun c _ w hw => Yec n c g hm hw) hw
  rw [hno] at hct
  repeat' (first | ((first | apply Ya en50 | apply Yb en50); exact za; exact rfl; exact fun _ hw => (hchk hin.cons hw)) | ((first | apply Ya Om | apply Yb Om); exact za; exact rfl; exact fun _ hw => (hcn hw)) | ((first | apply Ya YiK | apply Yb YiK); exact za; exact rfl; exact fun _ hw => (hct zm hr.cons hw)) | ((first | apply Ya YiL | apply Yb YiL); exact za; exact rfl; exact fun _ hw => (Yed n l j node (YZ hck) hnode hlen hin.cons hr.cons hw)) | apply (zs1 ?_) | apply (zs2 ?_) | (apply zg1; refine zs4 ?_) | (apply zg3; refine zs8 ?_) | (apply zg4; refine zs9 ?_) | (apply zg6; refine zs12 ?_) | (apply zg8; (refine zs16 ?_ ?_ <;> intro _ <;> try (exfalso; omega))) | (apply (zs17 ?_ ?_) <;> intro _ <;> try (exfalso; omega)) | (apply (zs20 ?_ ?_) <;> intro _ <;> try (exfalso; omega)) | (apply zg20; refine zs47 ?_) | apply (zs65 ?_) | apply (zs68 ?_) | apply (zs69 ?_) | apply (zs70 ?_) | (apply zg27; refine zs72 ?_) | apply (zs74 ?_) | apply (zs76 ?_) | (apply zg29; (apply Ys; exact za ; exact rfl)) | fail)
  apply Yi H
  · exact zk
  apply Yd; exact rfl; exact rfl; exact ⟨rfl, rfl⟩
open Go.RowKit Go.Eng Go.Nw
theorem YfA {s : Sch} {slot : Int} {j n : Nat} (h : (Yn s j).1 = slot) (hj : j < n) : ∃ R, inI s slot n = inI s slot j ++ j :: R ∧ ∀ x ∈ R, j < x := by
  obtain ⟨m, rfl⟩ : ∃ m, n = j + (m + 1) := ⟨n - j - 1, by omega⟩
  have e : inI s slot (j + (m + 1)) = inI s slot j ++ ((List.range (m + 1)).map (j + ·)).filter fun i => decide ((Yn s i).1 = slot) := by
    unfold inI; rw [List.range_add, List.filter_append]
  rw [e, List.range_succ_eq_map, List.map_cons, List.filter_cons, if_pos (by simpa using h)]
  refine ⟨_, rfl, fun x hx => ?_⟩
  obtain ⟨y, hy, rfl⟩ := List.mem_map.1 (List.mem_filter.1 hx).1
  obtain ⟨z, _, rfl⟩ := List.mem_map.1 hy
  omega
theorem Yg9 {s : Sch} {slot : Int} {n k j : Nat} (h : (inI s slot n)[k]? = some j) : (inI s slot n).take k = inI s slot j := by
  have hm := Uu.1 (List.mem_of_getElem? h)
  obtain ⟨R, hR, hRx⟩ := YfA hm.2 hm.1
  rw [hR] at h ⊢
  have hk : k = (inI s slot j).length := by
    rcases Nat.lt_trichotomy k (inI s slot j).length with h1 | h1 | h1
    · rw [List.getElem?_append_left h1] at h
      have := (Uu.1 (List.mem_of_getElem? h)).1
      omega
    · exact h1
    · rw [List.getElem?_append_right (by omega)] at h
      obtain ⟨q, hq⟩ : ∃ q, k - (inI s slot j).length = q + 1 := ⟨k - (inI s slot j).length - 1, by omega⟩
      rw [hq, List.getElem?_cons_succ] at h
      have := hRx j (List.mem_of_getElem? h)
      omega
  rw [hk, List.take_left' rfl]
theorem Yb9 {α : Type} {p : α → Bool} {l : List α} {i : Nat} {x : α} (h : l[i]? = some x) : (l.take (i + 1)).filter p = (l.take i).filter p ++ if p x = true then [x] else [] := by
  rw [List.take_add_one, h, Option.toList_some, List.filter_append]
  cases hp : p x <;> simp [hp]
def Ud (s : Sch) (c : Cel) (l : List Nat) : List Cel := (l.filter fun j => decide ((Yn s j).2.1 = c.2.1)).map (Yn s)
theorem WZ {s : Sch} {c : Cel} : ∀ {m : Nat}, m ≤ s.cells.length → Ud s c (inI s c.1 m) = (s.cells.take m).filter (YK c)
  | 0, _ => by simp [Ud, inI]
  | m + 1, h => by
    have ih := WZ (s := s) (c := c) (m := m) (by omega)
    have hg := Yx (s := s) (i := m) (by omega)
    rw [Yb9 hg, ← ih]
    have hp : YK c (Yn s m) = true ↔ (Yn s m).1 = c.1 ∧ (Yn s m).2.1 = c.2.1 := by unfold YK; rw [decide_eq_true_eq]
    by_cases h1 : (Yn s m).1 = c.1
    · rw [Ye9 h1]
      unfold Ud
      rw [List.filter_append, List.map_append]
      by_cases h2 : (Yn s m).2.1 = c.2.1
      · rw [if_pos (hp.2 ⟨h1, h2⟩)]
        simp [h2]
      · rw [if_neg fun h => h2 (hp.1 h).2]
        simp [h2]
    · rw [Yg8 h1, if_neg fun h => h1 (hp.1 h).1, List.append_nil]
theorem Ydu (s : Sch) (c : Cel) (l : List Nat) (j : Nat) : Ud s c (l ++ [j]) = Ud s c l ++ if (Yn s j).2.1 = c.2.1 then [Yn s j] else [] := by
  unfold Ud
  rw [List.filter_append, List.map_append]
  by_cases h : (Yn s j).2.1 = c.2.1
  · rw [if_pos h]; simp [h]
  · rw [if_neg h]; simp [h]
structure DsM where
  A : Option Addr
  cap : Nat
  M : List Cel
  a : Int
set_option maxRecDepth 10000 in
set_option maxHeartbeats 4000000 in
theorem QH (n : NetM) (s : SchM) (i : Nat) (hck : YA n.net = 0) (hgood : ∀ c ∈ s.cells, YR n.net (YP c) (toC c) = true) (hi : i < s.cells.length) (hl : s.cells.length ≤ 1000) {B : Nat} {w0 : World} {H : List HP} {w : World} (hin : n.In B w0 H) (hr : Rd B w0 H s.A (s.cells.flatMap celF)) (hw : St B w0 H w) :
    Calls Tryz.prog 57 [n.val, s.val, .int .i64 i].toArray w (Post B w0 fun v K => v = .bool (Zj n.net s.sch i) ∧ K = H) := by
  refine Zd Tryz.func57 Tryz.ntmps57 rfl rfl hw ?_
  have hget : s.cells[i]? = some (Yn s.sch i) := Yx (s := s.sch) hi
  obtain ⟨c, hc⟩ : ∃ c, Yn s.sch i = c := ⟨_, rfl⟩
  rw [hc] at hget
  have hrm : Rd B w0 [many H] s.A (s.cells.flatMap celF) := hr.tail
  clear hr
  refine UZ [many H] (fun w hw => hw.perm (.closeT H)) ?_
  repeat' (first | apply (zs2 ?_) | (apply zg22; refine zs50 ?_) | (apply zg23; first | (refine zs52 ?_; intro _) | (refine zs53 ?_; intro _)) | (apply zg24; (refine zs54 ?_; intro _)) | apply (zs65 ?_) | apply (zs68 ?_) | apply (zs69 ?_) | apply (zs70 ?_) | fail)
  rename_i gn gs gi g7 g8
  apply XD [0, 1, 2, 3, 4, 5, 6] [7] [false, false, true, true, false, true]
  kernel_rfl
  kernel_rfl
  exact zy
  (simp only [Yk, nthO]; rfl)
  (simp only [Yk, nthO]; rfl)
  repeat' (first | (apply zg2; first | refine zs6 ?_ | refine zs58 ?_) | (apply zg3; first | refine zs7 ?_ | refine zs8 ?_ | refine zs59 ?_) | (apply zg5; refine zs57 ?_) | (apply Yo; exact zp) | apply (zs93 ?_) | fail)
  apply Yq _ en59
  exact za
  exact rfl
  exact fun _ hw => (Ydd s c.1 (hw))
  rintro _ _ ⟨g1, g2, rfl, rfl⟩
  repeat' (first | apply (zs65 ?_) | apply (zs68 ?_) | apply (zs73 ?_) | apply (zs94 ?_) | fail)
  obtain ⟨L, hL⟩ : ∃ L, inI s.sch c.1 s.cells.length = L := ⟨_, rfl⟩
  have hiL : i ∈ L := by
    rw [← hL]
    exact Uu.2 ⟨hi, by rw [hc]⟩
  have hr7 : Rd B w0 (intB g2 c.1 :: schB g1 s :: blk gi (.cells #[.int .i64 i] 3 (0, 0)) :: schB gs s :: netN gn n :: [many H]) s.A (s.cells.flatMap celF) := hrm.cons.cons.cons.cons.cons
  rw [show (Value.slice none 0 0).cells = #[Value.slice none 0 0] from rfl]
  refine Jv 40 5 ?_
  refine Zf (gf := 118) (lb := [.pointer (some ⟨g1, 0, none⟩), .pointer (some ⟨g2, 0, none⟩)]) (xs := inXs s.sch c.1) (intB g2 c.1 :: schB g1 s :: blk gi (.cells #[.int .i64 i] 3 (0, 0)) :: schB gs s :: netN gn n :: [many H]) (fun x : DsM => [blk g7 (.cells #[.slice x.A x.M.length x.cap] 28 (0, 0)), cels x.A x.cap x.M, blk g8 (.cells #[.int .i64 x.a] 3 (0, 0))])
    (fun k x => x.M = Ud s.sch c (L.take k) ∧ x.a = if i ∈ L.take k then (Yy s.sch i : Int) else 0) (fun _ _ => False) ⟨none, 0, [], 0⟩ rfl YiB (Ydc s c.1 g1 g2 hr7 (by omega) (.tail _ (.head _)) (.head _)) rfl ?_ (by kernel_rfl) (by kernel_rfl) ?_ ⟨by simp [Ud], by simp⟩ ?_ ?_ (fun _ _ _ h => h.elim)
  · intro args h
    obtain ⟨k, hk⟩ := List.mem_iff_getElem?.1 h
    obtain ⟨i, _, _, rfl⟩ := Wo hk
    rfl
  · unfold schB intB cels netN
    simp only [List.cons_append, List.nil_append, List.length_nil, List.flatMap_nil]
    exact zk
  · rintro l k args R ⟨A, cap, M, a⟩ hk ⟨hM, ha⟩
    obtain ⟨j, hj, hlt, rfl⟩ := Wo hk
    have hlt2 : j < s.cells.length := hlt
    have hj : L[k]? = some j := by rw [← hL]; exact hj
    dsimp only at hM ha ⊢
    dsimp only [Uf, List.cons_append, List.nil_append]
    have hgj : s.cells[j]? = some (Yn s.sch j) := Yx (s := s.sch) hlt
    have htj : L.take k = inI s.sch c.1 j := by
      rw [← hL] at hj ⊢
      exact Yg9 hj
    have htk : L.take (k + 1) = L.take k ++ [j] := by rw [List.take_add_one, hj, Option.toList_some]
    have hMf : M = (s.cells.take j).filter (YK c) := by
      rw [hM, htj]
      exact WZ (s := s.sch) (by show j ≤ s.cells.length; omega)
    have hMl : M.length ≤ s.cells.length := by
      rw [hMf]
      have h1 := List.length_filter_le (YK c) (s.cells.take j)
      rw [List.length_take] at h1
      omega
    have hps := Ydu s.sch c (L.take k) j
    rw [← htk, ← hM] at hps
    obtain ⟨d, hd⟩ : ∃ d, Yn s.sch j = d := ⟨_, rfl⟩
    rw [hd] at hgj hps
    repeat' (first | apply (zs2 ?_) | apply (zs65 ?_) | apply (zs70 ?_) | fail)
    apply JN Yg
    intro R'
    unfold intB schB netN cels
    clear hr7
    by_cases hoff : d.2.1 = c.2.1
    rotate_left
    · have hij : i ≠ j := by
        rintro rfl
        rw [hc] at hd
        subst hd
        exact hoff rfl
      repeat' (first | apply (zs1 ?_) | (apply zg2; first | refine zs6 ?_ | refine zs58 ?_) | (apply zg3; first | refine zs7 ?_ | refine zs59 ?_) | (apply zg5; refine zs57 ?_) | (apply zg8; (refine zs16 ?_ ?_ <;> intro _ <;> try (exfalso; omega))) | apply (zs66 ?_) | apply (zs68 ?_) | apply (zs69 ?_) | (apply zg27; refine zs71 ?_) | apply (zs73 ?_) | apply (zs75 ?_) | apply (zs80 ?_) | apply (zs81 ?_) | (apply zg28; refine zs83 ?_) | fail)
      all_goals (
        apply Va ⟨A, cap, M, a⟩
        · refine ⟨?_, ?_⟩
          · show M = _
            rw [hps, if_neg hoff, List.append_nil]
          · show a = _
            rw [ha, htk]
            simp [hij]
        · dsimp only [List.cons_append, List.nil_append]
          exact zk)
    by_cases hji : j = i
    · obtain rfl := hji
      obtain rfl : d = c := hd.symm.trans hc
      have hsa : (M.length : Int) = (Yy s.sch j : Int) := by
        rw [hMf]
        unfold Yy
        rw [hc]
        rfl
      repeat' (first | apply (zs1 ?_) | (apply zg2; first | refine zs6 ?_ | refine zs58 ?_) | (apply zg3; first | refine zs7 ?_ | refine zs59 ?_) | (apply zg4; refine zs9 ?_) | (apply zg5; refine zs57 ?_) | (apply zg7; (refine zs15 ?_ ?_ <;> intro _ <;> try (exfalso; omega))) | (apply zg8; (refine zs16 ?_ ?_ <;> intro _ <;> try (exfalso; omega))) | (apply zg22; refine zs50 ?_) | apply (zs65 ?_) | apply (zs66 ?_) | apply (zs68 ?_) | apply (zs69 ?_) | apply (zs70 ?_) | (apply zg27; first | refine zs71 ?_ | refine zs72 ?_) | apply (zs73 ?_) | apply (zs76 ?_) | (apply zg28; refine zs83 ?_) | fail)
      apply VI [0, 1, 2, 3, 4, 5, 6] [7, 8] [false, true, false, false, false, false, false, true, false, true]
      kernel_rfl
      kernel_rfl
      exact zy
      (simp only [Yk, nthO]; rfl)
      (simp only [Yk, nthO]; rfl)
      repeat' (first | (apply Qo T; exact rfl; exact zm; exact rfl; exact rfl; exact rfl) | apply (zs1 ?_) | (apply zg2; refine zs6 ?_) | (apply zg3; first | refine zs7 ?_ | refine zs61 ?_) | (apply zg5; refine zs57 ?_) | (apply zg21; (refine zs49 ?_; intro _ _)) | (apply zg22; refine zs50 ?_) | (apply zg26; (refine zs56 ?_; intro _)) | apply (zs65 ?_) | (apply Yo; exact zp) | apply (zs79 ?_) | apply (zs87 ?_) | (apply Yl; (repeat (first | with_reducible exact Yh | (with_reducible apply Yf; (repeat (first | with_reducible exact Yg | with_reducible apply Ye)))))) | apply (zs93 ?_) | apply (zs94 ?_) | fail)
      rename_i A9 cap9
      apply Va ⟨A9, cap9, M ++ [d], (M.length : Int)⟩
      · refine ⟨?_, ?_⟩
        · show M ++ [d] = _
          rw [hps, if_pos hoff]
        · show (M.length : Int) = _
          rw [htk, if_pos (by simp), hsa]
      · dsimp only [List.cons_append, List.nil_append]
        intro w hw
        rw [Vc, Ydj M d] at hw
        unfold cels at hw
        revert w
        exact zk
    · have hji2 : i ≠ j := fun e => hji e.symm
      repeat' (first | apply (zs1 ?_) | (apply zg2; first | refine zs6 ?_ | refine zs58 ?_) | (apply zg3; first | refine zs7 ?_ | refine zs59 ?_) | (apply zg5; refine zs57 ?_) | (apply zg7; (refine zs15 ?_ ?_ <;> intro _ <;> try (exfalso; omega))) | (apply zg8; (refine zs16 ?_ ?_ <;> intro _ <;> try (exfalso; omega))) | apply (zs65 ?_) | apply (zs66 ?_) | apply (zs68 ?_) | apply (zs69 ?_) | apply (zs70 ?_) | (apply zg27; refine zs72 ?_) | apply (zs73 ?_) | apply (zs76 ?_) | (apply zg28; refine zs83 ?_) | fail)
      apply VI [0, 1, 2, 3, 4, 5, 6] [7, 8] [false, true, false, false, false, false, false, true, false, true]
      kernel_rfl
      kernel_rfl
      exact zy
      (simp only [Yk, nthO]; rfl)
      (simp only [Yk, nthO]; rfl)
      repeat' (first | (apply Qo T; exact rfl; exact zm; exact rfl; exact rfl; exact rfl) | apply (zs1 ?_) | (apply zg2; refine zs6 ?_) | (apply zg3; first | refine zs7 ?_ | refine zs61 ?_) | (apply zg5; refine zs57 ?_) | (apply zg21; (refine zs49 ?_; intro _ _)) | (apply zg22; refine zs50 ?_) | (apply zg26; (refine zs56 ?_; intro _)) | apply (zs65 ?_) | (apply Yo; exact zp) | apply (zs79 ?_) | apply (zs87 ?_) | (apply Yl; (repeat (first | with_reducible exact Yh | (with_reducible apply Yf; (repeat (first | with_reducible exact Yg | with_reducible apply Ye)))))) | apply (zs93 ?_) | apply (zs94 ?_) | fail)
      rename_i A9 cap9
      apply Va ⟨A9, cap9, M ++ [d], a⟩
      · refine ⟨?_, ?_⟩
        · show M ++ [d] = _
          rw [hps, if_pos hoff]
        · show a = _
          rw [ha, htk]
          simp [hji2]
      · dsimp only [List.cons_append, List.nil_append]
        intro w hw
        rw [Vc, Ydj M d] at hw
        unfold cels at hw
        revert w
        exact zk
  · rintro D ⟨A, cap, M, a⟩ ⟨hM, ha⟩
    have hLl : (inXs s.sch c.1).length = L.length := by rw [inXs, List.length_map]; exact congrArg List.length hL
    dsimp only at hM ha ⊢
    rw [hLl, List.take_length] at hM ha
    rw [if_pos hiL] at ha
    subst ha
    have hMS : M = YC s.sch i := by
      rw [hM, ← hL]
      have h1 := WZ (s := s.sch) (c := c) (Nat.le_refl _)
      rw [List.take_length] at h1
      rw [show s.cells.length = s.sch.cells.length from rfl, h1]
      unfold YC
      rw [hc]
    have hMl : M.length ≤ 1000 := by
      rw [hMS]
      have h1 := List.length_filter_le (YK (Yn s.sch i)) s.sch.cells
      exact Nat.le_trans h1 hl
    have hgM : M[((Yy s.sch i : Nat) : Int).toNat]? = some c := by rw [hMS, Int.toNat_natCast, Wz (s := s.sch) hi, hc]
    have hal : Yy s.sch i < M.length := (List.getElem?_eq_some_iff.1 hgM).1
    have hok := YZ hck
    have hcm : c ∈ s.cells := List.mem_of_getElem? hget
    have hgd := hgood c hcm
    obtain ⟨⟨f0, f1⟩, ⟨t0, t1⟩, _, k1, k2⟩ : (0 ≤ c.2.2.1 ∧ c.2.2.1 < n.net.nodes) ∧ (0 ≤ c.2.2.2.1 ∧ c.2.2.2.1 < n.net.nodes) ∧ c.2.2.1 ≠ c.2.2.2.1 ∧ 0 ≤ Yw n.net c.2.2.1 c.2.2.2.1 ∧ 0 ≤ Yw n.net c.2.2.2.1 c.2.2.1 := XK hok hgd
    have hno : M.any (JM n.net) = false := by
      rw [List.any_eq_false]
      intro x hx
      have hxm : x ∈ s.cells := by
        rw [hMS] at hx
        exact (List.mem_filter.1 hx).1
      obtain ⟨h1, h2, _⟩ := XK hok (hgood x hxm)
      unfold JM
      rw [show insE (YP x) n.net.nodes = true from decide_eq_true h1, show insE (toC x) n.net.nodes = true from decide_eq_true h2]
      simp
    have hinm : n.In B w0 [many H] := ⟨hin.pw.tail, fun r hr => (hin.rw_ r hr).tail, hin.lk.tail, hin.mg.tail, hin.s1, hin.s2, hin.s3, hin.s4⟩
    have hmg := hinm.mg
    have hs4 := hin.s4
    have hml : n.margin.length = n.net.links.length := hok.k1
    have x1 := XE k1
    have x2 := XE k2
    have hix : ∀ u v : Int, Z4 n.net u v = Yw n.net u v := fun u v => by unfold Z4; rw [if_neg (by omega)]
    have p1 := fun {H' : List HP} {w : World} (hin : n.In B w0 H') (hw : St B w0 H' w) => ZB n c.2.2.1 c.2.2.2.1 hin hw
    have p2 := fun {H' : List HP} {w : World} (hin : n.In B w0 H') (hw : St B w0 H' w) => ZB n c.2.2.2.1 c.2.2.1 hin hw
    rw [hix] at p1 p2
    obtain ⟨i1, hi1⟩ : ∃ z, Yw n.net c.2.2.1 c.2.2.2.1 = z := ⟨_, rfl⟩
    obtain ⟨i2, hi2⟩ : ∃ z, Yw n.net c.2.2.2.1 c.2.2.1 = z := ⟨_, rfl⟩
    rw [hi1] at p1 k1 x1
    rw [hi2] at p2 k2 x2
    have hm1 : n.margin[i1.toNat]? = some (mar n.net i1.toNat) := by
      unfold mar
      rw [List.getD_eq_getElem?_getD, show n.net.margin = n.margin from rfl, List.getElem?_eq_getElem (by omega)]; rfl
    have hm2 : n.margin[i2.toNat]? = some (mar n.net i2.toNat) := by
      unfold mar
      rw [List.getD_eq_getElem?_getD, show n.net.margin = n.margin from rfl, List.getElem?_eq_getElem (by omega)]; rfl
    have q1 := fun {H' : List HP} {w : World} (hin : n.In B w0 H') (hr : Rd B w0 H' A (M.flatMap celF)) (hw : St B w0 H' w) => JT n M (Yy s.sch i) c.2.2.2.1 hck ⟨t0, t1⟩ hal hMl hno (cap := cap) hin hr hw
    have q2 := fun {H' : List HP} {w : World} (hin : n.In B w0 H') (hr : Rd B w0 H' A (M.flatMap celF)) (hw : St B w0 H' w) => JT n M (Yy s.sch i) c.2.2.1 hck ⟨f0, f1⟩ hal hMl hno (cap := cap) hin hr hw
    have r1 := fun {H' : List HP} {w : World} (hin : n.In B w0 H') (hw : St B w0 H' w) => Qj n (mar n.net i1.toNat) (JS n.net M (Yy s.sch i) c.2.2.2.1) hin hw
    have r2 := fun {H' : List HP} {w : World} (hin : n.In B w0 H') (hw : St B w0 H' w) => Qj n (mar n.net i2.toNat) (JS n.net M (Yy s.sch i) c.2.2.1) hin hw
    have hres : Zj n.net s.sch i = (!(JJ n.net (mar n.net i1.toNat) (JS n.net M (Yy s.sch i) c.2.2.2.1)) || !(JJ n.net (mar n.net i2.toNat) (JS n.net M (Yy s.sch i) c.2.2.1))) := by
      unfold Zj
      rw [hc, ← hMS]
      unfold YP toC
      rw [hi1, hi2]
    obtain ⟨b1, hb1⟩ : ∃ b, JJ n.net (mar n.net i1.toNat) (JS n.net M (Yy s.sch i) c.2.2.2.1) = b := ⟨_, rfl⟩
    obtain ⟨b2, hb2⟩ : ∃ b, JJ n.net (mar n.net i2.toNat) (JS n.net M (Yy s.sch i) c.2.2.1) = b := ⟨_, rfl⟩
    rw [hb1] at r1 hres
    rw [hb2] at r2 hres
    rw [hres]
    dsimp only [List.cons_append, List.nil_append]
    unfold cels intB schB netN
    cases b1 with
    | false =>
      repeat' (first | (apply zg2; refine zs6 ?_) | (apply zg3; first | refine zs7 ?_ | refine zs8 ?_ | refine zs61 ?_) | (apply zg5; refine zs10 ?_) | (apply zg22; refine zs51 ?_) | (apply zg24; (refine zs54 ?_; intro _)) | apply (zs65 ?_) | apply (zs68 ?_) | apply (zs69 ?_) | apply (zs70 ?_) | apply (zs79 ?_) | (apply zg28; refine zs84 ?_) | fail)
      first | apply Ya en95 | apply Yb en95
      exact za
      exact rfl
      exact fun _ hw => (p1 (by repeat (first | exact hinm | apply NetM.In.cons)) hw)
      repeat' (first | (apply zg2; refine zs6 ?_) | (apply zg3; first | refine zs7 ?_ | refine zs8 ?_) | fail)
      first | apply Ya en95 | apply Yb en95
      exact za
      exact rfl
      exact fun _ hw => (p2 (by repeat (first | exact hinm | apply NetM.In.cons)) hw)
      repeat' (first | apply (zs1 ?_) | apply (zs2 ?_) | (apply zg2; refine zs6 ?_) | (apply zg3; first | refine zs7 ?_ | refine zs8 ?_ | refine zs60 ?_) | (apply zg5; refine zs57 ?_) | apply (zs66 ?_) | apply (zs68 ?_) | apply (zs69 ?_) | (apply zg28; refine zs84 ?_) | fail)
      first | apply Ya UE | apply Yb UE
      exact za
      exact rfl
      exact fun _ hw => (q1 (by repeat (first | exact hinm | apply NetM.In.cons)) (Rd.sl zm) hw)
      repeat' (first | fail)
      first | apply Ya UD | apply Yb UD
      exact za
      exact rfl
      exact fun _ hw => (r1 (by repeat (first | exact hinm | apply NetM.In.cons)) hw)
      repeat' (first | apply (zs1 ?_) | apply (zs2 ?_) | (apply zg1; refine zs3 ?_) | (apply zg6; refine zs11 ?_) | (apply zg20; refine zs48 ?_) | apply (zs66 ?_) | apply (zs68 ?_) | apply (zs74 ?_) | fail)
      apply ZP
      · (repeat (first | with_reducible exact Yg | with_reducible apply Ye))
      apply VQ_m
      apply Yi H
      · intro w hw
        have h5 : St B w0 [many H] w := by
          revert w
          exact zk
        exact h5.perm (.openT H)
      apply Yd; exact rfl; exact rfl; exact ⟨rfl, rfl⟩
    | true =>
      cases b2 with
      | false =>
        repeat' (first | (apply zg2; refine zs6 ?_) | (apply zg3; first | refine zs7 ?_ | refine zs8 ?_ | refine zs61 ?_) | (apply zg5; refine zs10 ?_) | (apply zg22; refine zs51 ?_) | (apply zg24; (refine zs54 ?_; intro _)) | apply (zs65 ?_) | apply (zs68 ?_) | apply (zs69 ?_) | apply (zs70 ?_) | apply (zs79 ?_) | (apply zg28; refine zs84 ?_) | fail)
        first | apply Ya en95 | apply Yb en95
        exact za
        exact rfl
        exact fun _ hw => (p1 (by repeat (first | exact hinm | apply NetM.In.cons)) hw)
        repeat' (first | (apply zg2; refine zs6 ?_) | (apply zg3; first | refine zs7 ?_ | refine zs8 ?_) | fail)
        first | apply Ya en95 | apply Yb en95
        exact za
        exact rfl
        exact fun _ hw => (p2 (by repeat (first | exact hinm | apply NetM.In.cons)) hw)
        repeat' (first | apply (zs1 ?_) | apply (zs2 ?_) | (apply zg2; refine zs6 ?_) | (apply zg3; first | refine zs7 ?_ | refine zs8 ?_ | refine zs60 ?_) | (apply zg5; refine zs57 ?_) | apply (zs66 ?_) | apply (zs68 ?_) | apply (zs69 ?_) | (apply zg28; refine zs84 ?_) | fail)
        first | apply Ya UE | apply Yb UE
        exact za
        exact rfl
        exact fun _ hw => (q1 (by repeat (first | exact hinm | apply NetM.In.cons)) (Rd.sl zm) hw)
        repeat' (first | fail)
        first | apply Ya UD | apply Yb UD
        exact za
        exact rfl
        exact fun _ hw => (r1 (by repeat (first | exact hinm | apply NetM.In.cons)) hw)
        repeat' (first | apply (zs1 ?_) | (apply zg1; refine zs4 ?_) | (apply zg2; refine zs6 ?_) | (apply zg3; first | refine zs7 ?_ | refine zs8 ?_ | refine zs60 ?_) | (apply zg5; refine zs57 ?_) | (apply zg20; refine zs47 ?_) | fail)
        first | apply Ya UE | apply Yb UE
        exact za
        exact rfl
        exact fun _ hw => (q2 (by repeat (first | exact hinm | apply NetM.In.cons)) (Rd.sl zm) hw)
        repeat' (first | (apply zg1; refine zs4 ?_) | fail)
        first | apply Ya UD | apply Yb UD
        exact za
        exact rfl
        exact fun _ hw => (r2 (by repeat (first | exact hinm | apply NetM.In.cons)) hw)
        repeat' (first | apply (zs2 ?_) | (apply zg1; refine zs4 ?_) | (apply zg6; refine zs12 ?_) | (apply zg20; refine zs48 ?_) | apply (zs66 ?_) | apply (zs68 ?_) | apply (zs74 ?_) | fail)
        apply ZP
        · (repeat (first | with_reducible exact Yg | with_reducible apply Ye))
        apply VQ_m
        apply Yi H
        · intro w hw
          have h5 : St B w0 [many H] w := by
            revert w
            exact zk
          exact h5.perm (.openT H)
        apply Yd; exact rfl; exact rfl; exact ⟨rfl, rfl⟩
      | true =>
        repeat' (first | (apply zg2; refine zs6 ?_) | (apply zg3; first | refine zs7 ?_ | refine zs8 ?_ | refine zs61 ?_) | (apply zg5; refine zs10 ?_) | (apply zg22; refine zs51 ?_) | (apply zg24; (refine zs54 ?_; intro _)) | apply (zs65 ?_) | apply (zs68 ?_) | apply (zs69 ?_) | apply (zs70 ?_) | apply (zs79 ?_) | (apply zg28; refine zs84 ?_) | fail)
        first | apply Ya en95 | apply Yb en95
        exact za
        exact rfl
        exact fun _ hw => (p1 (by repeat (first | exact hinm | apply NetM.In.cons)) hw)
        repeat' (first | (apply zg2; refine zs6 ?_) | (apply zg3; first | refine zs7 ?_ | refine zs8 ?_) | fail)
        first | apply Ya en95 | apply Yb en95
        exact za
        exact rfl
        exact fun _ hw => (p2 (by repeat (first | exact hinm | apply NetM.In.cons)) hw)
        repeat' (first | apply (zs1 ?_) | apply (zs2 ?_) | (apply zg2; refine zs6 ?_) | (apply zg3; first | refine zs7 ?_ | refine zs8 ?_ | refine zs60 ?_) | (apply zg5; refine zs57 ?_) | apply (zs66 ?_) | apply (zs68 ?_) | apply (zs69 ?_) | (apply zg28; refine zs84 ?_) | fail)
        first | apply Ya UE | apply Yb UE
        exact za
        exact rfl
        exact fun _ hw => (q1 (by repeat (first | exact hinm | apply NetM.In.cons)) (Rd.sl zm) hw)
        repeat' (first | fail)
        first | apply Ya UD | apply Yb UD
        exact za
        exact rfl
        exact fun _ hw => (r1 (by repeat (first | exact hinm | apply NetM.In.cons)) hw)
        repeat' (first | apply (zs1 ?_) | (apply zg1; refine zs4 ?_) | (apply zg2; refine zs6 ?_) | (apply zg3; first | refine zs7 ?_ | refine zs8 ?_ | refine zs60 ?_) | (apply zg5; refine zs57 ?_) | (apply zg20; refine zs47 ?_) | fail)
        first | apply Ya UE | apply Yb UE
        exact za
        exact rfl
        exact fun _ hw => (q2 (by repeat (first | exact hinm | apply NetM.In.cons)) (Rd.sl zm) hw)
        repeat' (first | (apply zg1; refine zs4 ?_) | fail)
        first | apply Ya UD | apply Yb UD
        exact za
        exact rfl
        exact fun _ hw => (r2 (by repeat (first | exact hinm | apply NetM.In.cons)) hw)
        repeat' (first | apply (zs2 ?_) | (apply zg1; refine zs4 ?_) | (apply zg6; refine zs12 ?_) | (apply zg20; refine zs47 ?_) | apply (zs66 ?_) | apply (zs68 ?_) | apply (zs74 ?_) | fail)
        apply ZP
        · (repeat (first | with_reducible exact Yg | with_reducible apply Ye))
        apply VQ_m
        apply Yi H
        · intro w hw
          have h5 : St B w0 [many H] w := by
            revert w
            exact zk
          exact h5.perm (.openT H)
        apply Yd; exact rfl; exact rfl; exact ⟨rfl, rfl⟩
open Go.RowKit Go.Eng Go.Nw
theorem Yd5 {n : Net} {l : List Flw} {s : Sch} (h1 : (Xv n l s).2 = 0) : ∀ c ∈ s.cells, YR n (YP c) (toC c) = true := by
  have k1 := Y2.1 h1
  intro c hc
  obtain ⟨i, hi⟩ := List.mem_iff_getElem?.1 hc
  have hl := (List.getElem?_eq_some_iff.1 hi).1
  have := k1 i (Nat.zero_le _) (by omega)
  unfold XI at this
  rw [XB hi] at this
  cases hg : YR n (YP c) (toC c) with
  | true => rfl
  | false =>
    rw [hg] at this
    split at this
    · omega
    · rw [if_pos (.inl rfl)] at this; omega
theorem Ybo {nodes : Int} {l : List Flw} (h : (YN nodes l).2 = 0) : l.length ≤ 16 := by
  unfold YN at h
  split at h
  · cases h
  split at h
  · cases h
  · omega
set_option maxRecDepth 10000 in
set_option maxHeartbeats 4000000 in
theorem YaU (n : NetM) (l : List Flw) (s : SchM) (hlf : l.length ≤ 9223372036854775807) (hl : s.cells.length ≤ 1000000000000) {A : Option Addr} {cap B : Nat} {w0 : World} {H : List HP} {w : World} (hin : n.In B w0 H) (hrf : Rd B w0 H A (l.flatMap flwF)) (hr : Rd B w0 H s.A (s.cells.flatMap celF)) (hw : St B w0 H w) :
    Calls Tryz.prog 13 [n.val, .slice A l.length cap, s.val].toArray w (Post B w0 fun v K => v = .tuple #[.int .i64 (schE n.net l s.sch).1, .int .i64 (schE n.net l s.sch).2] ∧ K = H) := by
  refine Yc Tryz.func13 Tryz.ntmps13 rfl rfl hw ?_
  have e4 : s.sch.cells.length = s.cells.length := rfl
  have e5 : s.sch.len = s.len := rfl
  have hchk := fun {H' : List HP} {w : World} (hin : n.In B w0 H') (hw : St B w0 H' w) => Y1 n hin hw
  have hsz := fun {H' : List HP} {w : World} (hw : St B w0 H' w) => Yal s hw
  by_cases h1 : YA n.net = 0
  rotate_left
  · have hS : schE n.net l s.sch = (-1, 1) := by
      have hw1 : Xq n.net l s.sch = 1 := by unfold Xq; rw [if_pos h1]
      unfold schE; rw [hw1]; rfl
    rw [hS]
    repeat' (first | ((first | apply Ya en50 | apply Yb en50); exact za; exact rfl; exact fun _ hw => (hchk hin.cons.cons hw)) | apply (zs2 ?_) | (apply zg3; refine zs8 ?_) | (apply zg8; (refine zs16 ?_ ?_ <;> intro _ <;> try (exfalso; omega))) | (apply zg23; (refine zs52 ?_; intro _)) | apply (zs65 ?_) | apply (zs68 ?_) | apply (zs69 ?_) | apply (zs70 ?_) | (apply zg27; refine zs71 ?_) | apply (zs74 ?_) | apply (zs77 ?_) | fail)
    apply Yi H
    · exact zk
    apply Yp; exact rfl; exact rfl; exact rfl; exact ⟨rfl, rfl⟩
  rw [h1] at hchk
  by_cases h2 : (YN n.nodes l).2 = 0
  rotate_left
  · have hS : schE n.net l s.sch = (-1, 1) := by
      have hw1 : Xq n.net l s.sch = 1 := by unfold Xq; rw [if_neg (by omega)]; exact if_pos h2
      unfold schE; rw [hw1]; rfl
    rw [hS]
    repeat' (first | ((first | apply Ya en50 | apply Yb en50); exact za; exact rfl; exact fun _ hw => (hchk hin.cons.cons hw)) | ((first | apply Ya en51 | apply Yb en51); exact za; exact rfl; exact fun _ hw => (Y4 n.nodes l hlf hrf.cons.cons hw)) | apply (zs1 ?_) | apply (zs2 ?_) | (apply zg2; refine zs6 ?_) | (apply zg3; first | refine zs7 ?_ | refine zs8 ?_) | apply (zs13 ?_) | (apply zg8; (refine zs16 ?_ ?_ <;> intro _ <;> try (exfalso; omega))) | (apply zg23; (refine zs52 ?_; intro _)) | apply (zs65 ?_) | apply (zs68 ?_) | apply (zs69 ?_) | apply (zs70 ?_) | (apply zg27; first | refine zs71 ?_ | refine zs72 ?_) | apply (zs74 ?_) | apply (zs76 ?_) | apply (zs77 ?_) | fail)
    apply Yi H
    · exact zk
    apply Yp; exact rfl; exact rfl; exact rfl; exact ⟨rfl, rfl⟩
  have hl16 := Ybo h2
  have hper := WP h2
  cases h3 : X5 s.sch with
  | false =>
    rw [h3] at hsz
    have hS : schE n.net l s.sch = (-1, 2) := by
      have hw1 : Xq n.net l s.sch = 2 := by unfold Xq; rw [if_neg (by omega), if_neg (fun h => h h2), if_pos h3]
      unfold schE; rw [hw1]; rfl
    rw [hS]
    repeat' (first | ((first | apply Ya en50 | apply Yb en50); exact za; exact rfl; exact fun _ hw => (hchk hin.cons.cons hw)) | ((first | apply Ya en51 | apply Yb en51); exact za; exact rfl; exact fun _ hw => (Y4 n.nodes l hlf hrf.cons.cons hw)) | ((first | apply Ya en52 | apply Yb en52); exact za; exact rfl; exact fun _ hw => (hsz hw)) | apply (zs1 ?_) | apply (zs2 ?_) | (apply zg2; refine zs6 ?_) | (apply zg3; first | refine zs7 ?_ | refine zs8 ?_) | apply (zs13 ?_) | (apply zg8; (refine zs16 ?_ ?_ <;> intro _ <;> try (exfalso; omega))) | (apply zg20; refine zs48 ?_) | (apply zg23; (refine zs52 ?_; intro _)) | apply (zs65 ?_) | apply (zs68 ?_) | apply (zs69 ?_) | apply (zs70 ?_) | (apply zg27; first | refine zs71 ?_ | refine zs72 ?_) | apply (zs73 ?_) | apply (zs74 ?_) | apply (zs76 ?_) | apply (zs77 ?_) | apply (zs78 ?_) | fail)
    apply Yi H
    · exact zk
    apply Yp; exact rfl; exact rfl; exact rfl; exact ⟨rfl, rfl⟩
  | true =>
  rw [h3] at hsz
  have hsl : 1 ≤ s.len ∧ s.len ≤ 512 := by
    have := of_decide_eq_true h3
    exact ⟨this.1, this.2.1⟩
  obtain ⟨b, hb⟩ : ∃ b, (l.any fun f => decide (s.len.tmod f.2.2.2.1 ≠ 0)) = b := ⟨_, rfl⟩
  have hw0 : Xq n.net l s.sch = if b = true then 11 else if 512 < s.cells.length then 8 else 0 := by
    unfold Xq
    rw [if_neg (by omega), if_neg (fun h => h h2), h3, if_neg (by decide), e5, hb]
    rfl
  have hcf := fun {H' : List HP} {w : World} (gs : Nat) (hm : blk gs (.cells #[.int .i64 s.len, .int .i64 s.off, .slice s.A s.cells.length s.cap] 30 (0, 0)) ∈ H') (hr : Rd B w0 H' A (l.flatMap flwF)) (hw : St B w0 H' w) => QA (fun f => decide (s.len.tmod f.2.2.2.1 ≠ 0)) l 54 [.pointer (some ⟨gs, 0, none⟩)] en54 (by omega) (cap := cap) hr (fun f hf w hw => Ycj s f gs hsl ⟨(hper f hf).2.2.1, (hper f hf).2.2.2⟩ hm hw) hw
  rw [hb] at hcf
  cases b with
  | true =>
    rw [if_pos rfl] at hw0
    have hS : schE n.net l s.sch = (-1, 11) := by unfold schE; rw [hw0]; rfl
    rw [hS]
    repeat' (first | ((first | apply Ya en50 | apply Yb en50); exact za; exact rfl; exact fun _ hw => (hchk hin.cons.cons hw)) | ((first | apply Ya en51 | apply Yb en51); exact za; exact rfl; exact fun _ hw => (Y4 n.nodes l hlf hrf.cons.cons hw)) | ((first | apply Ya en52 | apply Yb en52); exact za; exact rfl; exact fun _ hw => (hsz hw)) | ((first | apply Ya en53 | apply Yb en53); exact za; exact rfl; exact fun _ hw => (hcf _ zm hrf.cons.cons hw)) | apply (zs1 ?_) | apply (zs2 ?_) | (apply zg2; refine zs6 ?_) | (apply zg3; first | refine zs7 ?_ | refine zs8 ?_) | apply (zs13 ?_) | (apply zg8; (refine zs16 ?_ ?_ <;> intro _ <;> try (exfalso; omega))) | (apply zg20; refine zs47 ?_) | (apply zg23; (refine zs52 ?_; intro _)) | apply (zs65 ?_) | apply (zs68 ?_) | apply (zs69 ?_) | apply (zs70 ?_) | (apply zg27; first | refine zs71 ?_ | refine zs72 ?_) | apply (zs73 ?_) | apply (zs74 ?_) | apply (zs76 ?_) | apply (zs77 ?_) | apply (zs78 ?_) | (apply zg29; (apply Ys; exact za ; exact rfl)) | fail)
    apply Yi H
    · exact zk
    apply Yp; exact rfl; exact rfl; exact rfl; exact ⟨rfl, rfl⟩
  | false =>
  rw [if_neg (by decide)] at hw0
  by_cases h5 : 512 < s.cells.length
  · rw [if_pos h5] at hw0
    have hS : schE n.net l s.sch = (-1, 8) := by unfold schE; rw [hw0]; rfl
    rw [hS]
    repeat' (first | ((first | apply Ya en50 | apply Yb en50); exact za; exact rfl; exact fun _ hw => (hchk hin.cons.cons hw)) | ((first | apply Ya en51 | apply Yb en51); exact za; exact rfl; exact fun _ hw => (Y4 n.nodes l hlf hrf.cons.cons hw)) | ((first | apply Ya en52 | apply Yb en52); exact za; exact rfl; exact fun _ hw => (hsz hw)) | ((first | apply Ya en53 | apply Yb en53); exact za; exact rfl; exact fun _ hw => (hcf _ zm hrf.cons.cons hw)) | apply (zs1 ?_) | apply (zs2 ?_) | (apply zg2; refine zs6 ?_) | (apply zg3; first | refine zs7 ?_ | refine zs8 ?_) | (apply zg4; refine zs9 ?_) | apply (zs13 ?_) | (apply zg8; (refine zs16 ?_ ?_ <;> intro _ <;> try (exfalso; omega))) | (apply (zs19 ?_ ?_) <;> intro _ <;> try (exfalso; omega)) | (apply zg20; refine zs47 ?_) | (apply zg23; (refine zs52 ?_; intro _)) | apply (zs65 ?_) | apply (zs68 ?_) | apply (zs69 ?_) | apply (zs70 ?_) | (apply zg27; first | refine zs71 ?_ | refine zs72 ?_) | apply (zs73 ?_) | apply (zs74 ?_) | apply (zs76 ?_) | apply (zs77 ?_) | apply (zs78 ?_) | (apply zg29; (apply Ys; exact za ; exact rfl)) | fail)
    apply Yi H
    · exact zk
    apply Yp; exact rfl; exact rfl; exact rfl; exact ⟨rfl, rfl⟩
  rw [if_neg h5] at hw0
  have hS : schE n.net l s.sch = if (Xv n.net l s.sch).2 ≠ 0 then Xv n.net l s.sch else if (XQ s.sch).2 ≠ 0 then XQ s.sch else QF n.net s.sch := by
    unfold schE; rw [hw0]; rfl
  rw [hS]
  have hcc := fun {H' : List HP} {w : World} (hin : n.In B w0 H') (hrf : Rd B w0 H' A (l.flatMap flwF)) (hr : Rd B w0 H' s.A (s.cells.flatMap celF)) (hw : St B w0 H' w) => OZ n l s h1 (by omega) hl (cap := cap) hin hrf hr hw
  obtain ⟨⟨c1, c2⟩, hcv⟩ : ∃ R, Xv n.net l s.sch = R := ⟨_, rfl⟩
  rw [hcv] at hcc ⊢
  dsimp only at hcc ⊢
  by_cases h6 : c2 ≠ 0
  · rw [if_pos h6]
    repeat' (first | ((first | apply Ya en50 | apply Yb en50); exact za; exact rfl; exact fun _ hw => (hchk hin.cons.cons hw)) | ((first | apply Ya en51 | apply Yb en51); exact za; exact rfl; exact fun _ hw => (Y4 n.nodes l hlf hrf.cons.cons hw)) | ((first | apply Ya en52 | apply Yb en52); exact za; exact rfl; exact fun _ hw => (hsz hw)) | ((first | apply Ya en53 | apply Yb en53); exact za; exact rfl; exact fun _ hw => (hcf _ zm hrf.cons.cons hw)) | ((first | apply Ya en55 | apply Yb en55); exact za; exact rfl; exact fun _ hw => (hcc hin.cons.cons hrf.cons.cons hr.cons.cons hw)) | apply (zs1 ?_) | apply (zs2 ?_) | (apply zg2; refine zs6 ?_) | (apply zg3; first | refine zs7 ?_ | refine zs8 ?_) | (apply zg4; refine zs9 ?_) | apply (zs13 ?_) | (apply zg8; (refine zs16 ?_ ?_ <;> intro _ <;> try (exfalso; omega))) | (apply (zs19 ?_ ?_) <;> intro _ <;> try (exfalso; omega)) | (apply zg20; refine zs47 ?_) | (apply zg23; (refine zs52 ?_; intro _)) | apply (zs65 ?_) | apply (zs68 ?_) | apply (zs69 ?_) | apply (zs70 ?_) | (apply zg27; first | refine zs71 ?_ | refine zs72 ?_) | apply (zs73 ?_) | apply (zs74 ?_) | apply (zs76 ?_) | apply (zs77 ?_) | apply (zs79 ?_) | (apply zg29; (apply Ys; exact za ; exact rfl)) | fail)
    apply Yi H
    · exact zk
    apply Yp; exact rfl; exact rfl; exact rfl; exact ⟨rfl, rfl⟩
  obtain rfl : c2 = 0 := Decidable.not_not.1 h6
  rw [if_neg h6]
  have hgood := Yd5 (n := n.net) (l := l) (s := s.sch) (by rw [hcv])
  repeat' (first | ((first | apply Ya en50 | apply Yb en50); exact za; exact rfl; exact fun _ hw => (hchk hin.cons.cons hw)) | ((first | apply Ya en51 | apply Yb en51); exact za; exact rfl; exact fun _ hw => (Y4 n.nodes l hlf hrf.cons.cons hw)) | ((first | apply Ya en52 | apply Yb en52); exact za; exact rfl; exact fun _ hw => (hsz hw)) | ((first | apply Ya en53 | apply Yb en53); exact za; exact rfl; exact fun _ hw => (hcf _ zm hrf.cons.cons hw)) | ((first | apply Ya en55 | apply Yb en55); exact za; exact rfl; exact fun _ hw => (hcc hin.cons.cons hrf.cons.cons hr.cons.cons hw)) | apply (zs1 ?_) | apply (zs2 ?_) | (apply zg2; refine zs6 ?_) | (apply zg3; first | refine zs7 ?_ | refine zs8 ?_) | (apply zg4; refine zs9 ?_) | apply (zs13 ?_) | (apply zg8; (refine zs16 ?_ ?_ <;> intro _ <;> try (exfalso; omega))) | (apply (zs19 ?_ ?_) <;> intro _ <;> try (exfalso; omega)) | (apply zg20; refine zs47 ?_) | (apply zg23; (refine zs52 ?_; intro _)) | apply (zs65 ?_) | apply (zs68 ?_) | apply (zs69 ?_) | apply (zs70 ?_) | (apply zg27; refine zs72 ?_) | apply (zs73 ?_) | apply (zs76 ?_) | apply (zs79 ?_) | (apply zg29; (apply Ys; exact za ; exact rfl)) | fail)
  first | (rename_i gn gs; guard_hyp gn : Nat; guard_hyp gs : Nat) | (rename_i gn gs _; guard_hyp gn : Nat; guard_hyp gs : Nat) | (rename_i gn gs _ _; guard_hyp gn : Nat; guard_hyp gs : Nat) | (rename_i gn gs _ _ _; guard_hyp gn : Nat; guard_hyp gs : Nat) | (rename_i gn gs _ _ _ _; guard_hyp gn : Nat; guard_hyp gs : Nat) | (rename_i gn gs _ _ _ _ _; guard_hyp gn : Nat; guard_hyp gs : Nat) | (rename_i gn gs _ _ _ _ _ _; guard_hyp gn : Nat; guard_hyp gs : Nat)
  refine Yj (fun (k : Nat) => [(53, .int .i64 k), (52, .int .i64 s.cells.length), (51, .slice s.A s.cells.length s.cap), (3, .pointer (some ⟨gn, 0, none⟩)), (5, .pointer (some ⟨gs, 0, none⟩))]) (fun _ => blk gs (.cells #[.int .i64 s.len, .int .i64 s.off, .slice s.A s.cells.length s.cap] 30 (0, 0)) :: netN gn n :: H) (fun k => k ≤ s.cells.length ∧ ∀ j, j < k → Xx s.sch j = false) (fun k => s.cells.length - k) 0 ⟨Nat.zero_le _, fun j hj => absurd hj (Nat.not_lt_zero _)⟩ ?_ (fun w hw => hw) ?_
  · exact zu
  rintro k ⟨hk, hall⟩ K hK
  have hF : XQ s.sch = Yz (fun i => if Xx s.sch i = true then 6 else 0) s.cells.length 0 := rfl
  unfold netN
  by_cases hlt : k < s.cells.length
  · have htc := fun {H' : List HP} {w : World} (hr : Rd B w0 H' s.A (s.cells.flatMap celF)) (hw : St B w0 H' w) => YeD s k hlt (by omega) hr hw
    cases htw : Xx s.sch k with
    | true =>
      rw [htw] at htc
      have hT : XQ s.sch = ((k : Int), 6) := by
        rw [hF, YV (i := k) (fun j _ hj => by simp only [hall j hj]; rfl) (Nat.zero_le _) (by omega) (by simp only [htw]; decide)]
        simp [htw]
      rw [hT, if_pos (show (6 : Int) ≠ 0 by decide)]
      repeat' (first | ((first | apply Ya en56 | apply Yb en56); exact za; exact rfl; exact fun _ hw => (htc hr.cons.cons hw)) | apply (zs1 ?_) | apply (zs2 ?_) | (apply zg3; refine zs8 ?_) | (apply (zs17 ?_ ?_) <;> intro _ <;> try (exfalso; omega)) | apply (zs65 ?_) | apply (zs68 ?_) | apply (zs69 ?_) | apply (zs70 ?_) | (apply zg27; refine zs71 ?_) | apply (zs73 ?_) | apply (zs74 ?_) | apply (zs76 ?_) | apply (zs77 ?_) | apply (zs78 ?_) | fail)
      apply Yi H
      · exact zk
      apply Yp; exact rfl; exact rfl; exact rfl; exact ⟨rfl, rfl⟩
    | false =>
      rw [htw] at htc
      repeat' (first | ((first | apply Ya en56 | apply Yb en56); exact za; exact rfl; exact fun _ hw => (htc hr.cons.cons hw)) | apply (zs1 ?_) | apply (zs2 ?_) | (apply zg3; refine zs8 ?_) | (apply (zs17 ?_ ?_) <;> intro _ <;> try (exfalso; omega)) | (apply zg13; refine zs30 ?_) | apply (zs65 ?_) | apply (zs68 ?_) | apply (zs69 ?_) | apply (zs70 ?_) | (apply zg27; first | refine zs71 ?_ | refine zs72 ?_) | apply (zs73 ?_) | apply (zs76 ?_) | apply (zs79 ?_) | fail)
      apply hK (k + 1)
      · refine ⟨by omega, fun j hj => ?_⟩
        by_cases e : j = k
        · rw [e]; exact htw
        · exact hall j (by omega)
      · omega
      · exact zu
      · unfold netN
        exact zk
  have hT : (XQ s.sch).2 = 0 := by
    rw [hF, Y2]
    intro j _ hj
    simp only [hall j (by omega)]
    rfl
  rw [if_neg (fun h => h hT)]
  clear hK
  repeat' (first | apply (zs1 ?_) | (apply zg2; refine zs6 ?_) | (apply zg3; refine zs7 ?_) | (apply zg4; refine zs9 ?_) | (apply (zs17 ?_ ?_) <;> intro _ <;> try (exfalso; omega)) | apply (zs65 ?_) | apply (zs68 ?_) | apply (zs69 ?_) | apply (zs70 ?_) | (apply zg27; refine zs72 ?_) | apply (zs73 ?_) | apply (zs75 ?_) | apply (zs80 ?_) | apply (zs81 ?_) | fail)
  refine Yj (fun (k : Nat) => [(64, .int .i64 k), (63, .int .i64 s.cells.length), (62, .slice s.A s.cells.length s.cap), (3, .pointer (some ⟨gn, 0, none⟩)), (5, .pointer (some ⟨gs, 0, none⟩))]) (fun _ => blk gs (.cells #[.int .i64 s.len, .int .i64 s.off, .slice s.A s.cells.length s.cap] 30 (0, 0)) :: netN gn n :: H) (fun k => k ≤ s.cells.length ∧ ∀ j, j < k → Zj n.net s.sch j = false) (fun k => s.cells.length - k) 0 ⟨Nat.zero_le _, fun j hj => absurd hj (Nat.not_lt_zero _)⟩ ?_ (fun w hw => hw) ?_
  · exact zu
  rintro k ⟨hk, hall⟩ K2 hK
  have hF : QF n.net s.sch = Yz (fun i => if Zj n.net s.sch i = true then 16 else 0) s.cells.length 0 := rfl
  unfold netN
  by_cases hlt : k < s.cells.length
  · have htc := fun {H' : List HP} {w : World} (hin : n.In B w0 H') (hr : Rd B w0 H' s.A (s.cells.flatMap celF)) (hw : St B w0 H' w) => QH n s k h1 hgood hlt (by omega) hin hr hw
    cases htw : Zj n.net s.sch k with
    | true =>
      rw [htw] at htc
      have hT : QF n.net s.sch = ((k : Int), 16) := by
        rw [hF, YV (i := k) (fun j _ hj => by simp only [hall j hj]; rfl) (Nat.zero_le _) (by omega) (by simp only [htw]; decide)]
        simp [htw]
      rw [hT]
      repeat' (first | ((first | apply Ya en57 | apply Yb en57); exact za; exact rfl; exact fun _ hw => (htc hin.cons.cons hr.cons.cons hw)) | apply (zs1 ?_) | apply (zs2 ?_) | (apply zg3; refine zs8 ?_) | (apply (zs17 ?_ ?_) <;> intro _ <;> try (exfalso; omega)) | apply (zs65 ?_) | apply (zs68 ?_) | apply (zs69 ?_) | apply (zs70 ?_) | (apply zg27; refine zs71 ?_) | apply (zs73 ?_) | apply (zs74 ?_) | apply (zs76 ?_) | apply (zs77 ?_) | apply (zs78 ?_) | fail)
      apply Yi H
      · exact zk
      apply Yp; exact rfl; exact rfl; exact rfl; exact ⟨rfl, rfl⟩
    | false =>
      rw [htw] at htc
      repeat' (first | ((first | apply Ya en57 | apply Yb en57); exact za; exact rfl; exact fun _ hw => (htc hin.cons.cons hr.cons.cons hw)) | apply (zs1 ?_) | apply (zs2 ?_) | (apply zg3; refine zs8 ?_) | (apply (zs17 ?_ ?_) <;> intro _ <;> try (exfalso; omega)) | (apply zg13; refine zs30 ?_) | apply (zs65 ?_) | apply (zs68 ?_) | apply (zs69 ?_) | apply (zs70 ?_) | (apply zg27; first | refine zs71 ?_ | refine zs72 ?_) | apply (zs73 ?_) | apply (zs76 ?_) | apply (zs79 ?_) | fail)
      apply hK (k + 1)
      · refine ⟨by omega, fun j hj => ?_⟩
        by_cases e : j = k
        · rw [e]; exact htw
        · exact hall j (by omega)
      · omega
      · exact zu
      · unfold netN
        exact zk
  · have hT : QF n.net s.sch = (-1, 0) := by
      rw [hF]
      exact Y9 fun j _ hj => by simp only [hall j (by omega)]; rfl
    rw [hT]
    repeat' (first | apply (zs2 ?_) | (apply (zs17 ?_ ?_) <;> intro _ <;> try (exfalso; omega)) | apply (zs65 ?_) | apply (zs68 ?_) | apply (zs69 ?_) | apply (zs70 ?_) | (apply zg27; refine zs72 ?_) | apply (zs74 ?_) | apply (zs75 ?_) | apply (zs80 ?_) | apply (zs81 ?_) | fail)
    apply Yi H
    · exact zk
    apply Yp; exact rfl; exact rfl; exact rfl; exact ⟨rfl, rfl⟩
open Go.RowKit Go.Eng Go.Nw Go.Rt
theorem ZG {α : Type} (f : α → HP) (l : List α) (r : α) (H : List HP) : Perm (f r :: many (l.map f) :: H) (many ((l ++ [r]).map f) :: H) := by
  have := Perm.push (f r) (l.map f) [] H
  rw [List.append_nil] at this
  rw [List.map_append]
  exact this
abbrev clsP (A : Option Addr) (cap : Nat) (C : List ClM) : HP := sl 61 5 A C.length cap (C.flatMap clF)
theorem Qy (A : Option Addr) (cap : Nat) (l : List ClM) (c : ClM) : sl 61 5 A (l.length + 1) cap (l.flatMap clF ++ #[Value.int .i64 c.flow, .slice c.rA c.rs.length c.rcap, .slice c.bA c.bs.length c.bcap, .slice c.wA c.ws.length c.wcap, .slice c.sA c.ss.length c.scap].toList) = clsP A cap (l ++ [c]) := by simp [clsP, List.flatMap_append, clF]
def OutC (H : List HP) (R : List Clm × (Int × Int)) (v : Value) (K : List HP) : Prop := ∃ A cap C, v = .tuple #[.slice A (C : List ClM).length cap, .int .i64 R.2.1, .int .i64 R.2.2] ∧ C.map ClM.clm = R.1 ∧ (∀ c ∈ C, c.lens) ∧ K = clsP A cap C :: many (C.map clQ) :: H
theorem JL {B : Nat} {w0 w : World} {H : List HP} (h : St B w0 H w) : St B w0 (clsP none 0 [] :: many (([] : List ClM).map clQ) :: H) w := (h.perm (.noMany H)).nilSlice _ _
theorem ZS {H : List HP} {R : List Clm × (Int × Int)} {v : Value} (h1 : R.1 = []) (hv : v = .tuple #[.slice none 0 0, .int .i64 R.2.1, .int .i64 R.2.2]) : OutC H R v (clsP none 0 [] :: many (([] : List ClM).map clQ) :: H) := ⟨none, 0, [], hv, h1.symm, (fun c hc => by cases hc), rfl⟩
structure MkM where
  i : Nat
  A : Option Addr
  cap : Nat
  C : List ClM
set_option maxRecDepth 10000 in
set_option maxHeartbeats 8000000 in
theorem WW (n : NetM) (q : List RqM) (s : SchM) {A : Option Addr} {cap B : Nat} {w0 : World} {H : List HP} {w : World} (ht : TabsB B w0) (hin : n.In B w0 H) (hq : QIn B w0 H A q) (hrs : Rd B w0 H s.A (s.cells.flatMap celF)) (hsl : s.cells.length ≤ 1000000000000) (hw : St B w0 H w) :
    Calls Tryz.prog 19 [n.val, .slice A q.length cap, s.val].toArray w (Post B w0 (OutC H (XS n.net (q.map RqM.rq) s.sch))) := by
  refine Yc Tryz.func19 Tryz.ntmps19 rfl rfl hw ?_
  have hql := hq.ln
  have hqr := hq.rd
  have p1 := fun {H' : List HP} {w : World} (hin : n.In B w0 H') (hq : QIn B w0 H' A q) (hw : St B w0 H' w) => YaN n q (cap := cap) hin hq hw
  have p2 := fun {H' : List HP} {w : World} (hq : QIn B w0 H' A q) (hw : St B w0 H' w) => Oe q (cap := cap) hql hq.rd hw
  have p3 := fun {A2 : Option Addr} {cap2 : Nat} {H' : List HP} {w : World} (hin : n.In B w0 H') (hf : Rd B w0 H' A2 ((RqM.fl q).flatMap flwF)) (hrs : Rd B w0 H' s.A (s.cells.flatMap celF)) (hw : St B w0 H' w) => YaU n (RqM.fl q) s (by unfold RqM.fl; rw [List.length_map]; omega) hsl (cap := cap2) hin hf hrs hw
  have p4 := fun {H' : List HP} {w : World} (x : RqM) (h9 : x.rows.length ≤ 9) (hin : n.In B w0 H') (hrs : Rd B w0 H' s.A (s.cells.flatMap celF)) (hx : x.In B w0 H') (hw : St B w0 H' w) => Yd8 n s x ht hin hrs hsl hx h9 hw
  obtain ⟨R, hR⟩ : ∃ R, XS n.net (q.map RqM.rq) s.sch = R := ⟨_, rfl⟩
  rw [hR]
  unfold XS at hR
  rw [List.length_map] at hR
  have hrq : (rqsE n.net (q.map RqM.rq)).2 = 0 → ∀ x ∈ q, x.rows.length ≤ 9 := fun h x hx => by
    unfold rqsE at h
    split at h
    · cases h
    split at h
    · exact absurd h (by assumption)
    obtain ⟨k, hk⟩ := List.mem_iff_getElem?.1 hx
    have h1 := Y2.1 h k (Nat.zero_le _) (by rw [List.length_map]; have := (List.getElem?_eq_some_iff.1 hk).1; omega)
    rw [J3 hk] at h1
    have h2 := Yfd h1
    have h3 : x.rq.2.length = x.rows.length := by unfold RqM.rq; rw [List.length_map]
    omega
  obtain ⟨⟨ri, re⟩, hr⟩ : ∃ r, rqsE n.net (q.map RqM.rq) = r := ⟨_, rfl⟩
  obtain ⟨⟨ci, ce⟩, hc⟩ : ∃ r, schE n.net (Z3 (q.map RqM.rq)) s.sch = r := ⟨_, rfl⟩
  obtain ⟨F, hF⟩ : ∃ F : Nat → Int, (fun i => if Zm n.net s.sch (rqAt (q.map RqM.rq) i) = true then 15 else 0) = F := ⟨_, rfl⟩
  rw [hr] at p1 hR hrq
  rw [Ybm] at p3
  rw [hc] at p3 hR
  rw [hF] at hR
  have hFv : ∀ {k : Nat} {x : RqM}, q[k]? = some x → F k = if Zm n.net s.sch x.rq = true then 15 else 0 := fun h => by rw [← hF]; show (if Zm _ _ _ = true then _ else _) = _; rw [J3 h]
  rw [← Ybm] at p3
  dsimp only at p1 p3 hR hrq
  unfold NetM.val SchM.val
  by_cases h0 : re = 0
  rotate_left
  · rw [if_pos h0] at hR
    subst hR
    repeat' (first | ((first | apply Ya en67 | apply Yb en67); exact za; exact rfl; exact fun _ hw => (p1 (hin.mono zk) (hq.mono zk) hw)) | apply (zs1 ?_) | apply (zs2 ?_) | (apply zg3; refine zs8 ?_) | apply (zs13 ?_) | (apply zg8; (refine zs16 ?_ ?_ <;> intro _ <;> try (exfalso; omega))) | (apply zg23; (refine zs52 ?_; intro _)) | apply (zs65 ?_) | apply (zs68 ?_) | apply (zs69 ?_) | apply (zs70 ?_) | (apply zg27; refine zs71 ?_) | apply (zs74 ?_) | apply (zs77 ?_) | fail)
    apply Yi (clsP none 0 [] :: many (([] : List ClM).map clQ) :: H)
    · intro w hw
      have h5 : St B w0 H w := by
        revert w
        exact zk
      exact JL h5
    apply Xu; exact rfl; exact rfl; exact rfl; exact rfl
    exact ZS rfl rfl
  subst h0
  rw [if_neg (fun e => e rfl)] at hR
  have hrq := hrq rfl
  by_cases h1 : ce = 0
  rotate_left
  · rw [if_pos h1] at hR
    subst hR
    repeat' (first | ((first | apply Ya en67 | apply Yb en67); exact za; exact rfl; exact fun _ hw => (p1 (hin.mono zk) (hq.mono zk) hw)) | apply (zs1 ?_) | apply (zs2 ?_) | (apply zg3; refine zs8 ?_) | apply (zs13 ?_) | (apply zg8; (refine zs16 ?_ ?_ <;> intro _ <;> try (exfalso; omega))) | (apply zg23; (refine zs52 ?_; intro _)) | apply (zs65 ?_) | apply (zs68 ?_) | apply (zs69 ?_) | apply (zs70 ?_) | (apply zg27; refine zs72 ?_) | apply (zs76 ?_) | fail)
    apply XD [0, 1, 3, 2, 4, 5, 6, 7, 8, 9] [] [true, true]
    kernel_rfl
    kernel_rfl
    exact zy
    (simp only [Yk, nthO]; rfl)
    exact rfl
    repeat' (first | apply (zs1 ?_) | (apply zg3; refine zs8 ?_) | apply (zs87 ?_) | fail)
    apply Yq _ en68
    exact za
    exact rfl
    exact fun _ hw => (p2 (hq.mono zk) (hw))
    rintro _ _ ⟨A2, cap2, rfl, rfl⟩
    repeat' (first | apply (zs65 ?_) | apply (zs87 ?_) | (apply Yl; (repeat (first | with_reducible exact Yh | (with_reducible apply Yf; (repeat (first | with_reducible exact Yg | with_reducible apply Ye)))))) | fail)
    first | apply Ya en13 | apply Yb en13
    exact za
    exact rfl
    exact fun _ hw => (p3 (hin.mono zk) (Rd.sl zm) (hrs.mono zk) hw)
    repeat' (first | apply (zs1 ?_) | apply (zs2 ?_) | apply (zs13 ?_) | (apply zg8; (refine zs16 ?_ ?_ <;> intro _ <;> try (exfalso; omega))) | apply (zs65 ?_) | (apply Yo; exact zp) | apply (zs68 ?_) | apply (zs69 ?_) | apply (zs70 ?_) | (apply zg27; refine zs71 ?_) | apply (zs74 ?_) | apply (zs77 ?_) | (apply Yl; (repeat (first | with_reducible exact Yh | (with_reducible apply Yf; (repeat (first | with_reducible exact Yg | with_reducible apply Ye)))))) | apply (zs93 ?_) | apply (zs94 ?_) | fail)
    apply Yi (clsP none 0 [] :: many (([] : List ClM).map clQ) :: H)
    · intro w hw
      have h5 : St B w0 H w := by
        revert w
        exact zk
      exact JL h5
    apply Xu; exact rfl; exact rfl; exact rfl; exact rfl
    exact ZS rfl rfl
  subst h1
  rw [if_neg (fun e => e rfl)] at hR
  repeat' (first | ((first | apply Ya en67 | apply Yb en67); exact za; exact rfl; exact fun _ hw => (p1 (hin.mono zk) (hq.mono zk) hw)) | apply (zs1 ?_) | apply (zs2 ?_) | (apply zg3; refine zs8 ?_) | apply (zs13 ?_) | (apply zg8; (refine zs16 ?_ ?_ <;> intro _ <;> try (exfalso; omega))) | (apply zg23; (refine zs52 ?_; intro _)) | apply (zs65 ?_) | apply (zs68 ?_) | apply (zs69 ?_) | apply (zs70 ?_) | (apply zg27; refine zs72 ?_) | apply (zs76 ?_) | fail)
  first | (rename_i g3 g5; guard_hyp g3 : Nat; guard_hyp g5 : Nat) | (rename_i g3 g5 _; guard_hyp g3 : Nat; guard_hyp g5 : Nat) | (rename_i g3 g5 _ _; guard_hyp g3 : Nat; guard_hyp g5 : Nat)
  apply XD [0, 1, 3, 2, 4, 5, 6, 7, 8, 9] [] [true, true]
  kernel_rfl
  kernel_rfl
  exact zy
  (simp only [Yk, nthO]; rfl)
  exact rfl
  repeat' (first | apply (zs1 ?_) | (apply zg3; refine zs8 ?_) | apply (zs87 ?_) | fail)
  apply Yq _ en68
  exact za
  exact rfl
  exact fun _ hw => (p2 (hq.mono zk) (hw))
  rintro _ _ ⟨A2, cap2, rfl, rfl⟩
  repeat' (first | apply (zs65 ?_) | apply (zs87 ?_) | (apply Yl; (repeat (first | with_reducible exact Yh | (with_reducible apply Yf; (repeat (first | with_reducible exact Yg | with_reducible apply Ye)))))) | fail)
  first | apply Ya en13 | apply Yb en13
  exact za
  exact rfl
  exact fun _ hw => (p3 (hin.mono zk) (Rd.sl zm) (hrs.mono zk) hw)
  repeat' (first | apply (zs1 ?_) | apply (zs2 ?_) | (apply zg4; refine zs9 ?_) | apply (zs13 ?_) | (apply zg8; (refine zs16 ?_ ?_ <;> intro _ <;> try (exfalso; omega))) | apply (zs65 ?_) | (apply Yo; exact zp) | apply (zs68 ?_) | apply (zs69 ?_) | apply (zs70 ?_) | (apply zg27; refine zs72 ?_) | apply (zs73 ?_) | apply (zs76 ?_) | (apply Yl; (repeat (first | with_reducible exact Yh | (with_reducible apply Yf; (repeat (first | with_reducible exact Yg | with_reducible apply Ye)))))) | apply (zs93 ?_) | apply (zs94 ?_) | fail)
  refine Yj (fun z : MkM => [(40, .int .i64 (z.i : Nat)), (39, .int .i64 q.length), (38, .slice A q.length cap), (13, .slice z.A z.C.length z.cap), (5, .pointer (some ⟨g5, 0, none⟩)), (3, .pointer (some ⟨g3, 0, none⟩))]) (fun z => clsP z.A z.cap z.C :: many (z.C.map clQ) :: schA g5 s :: netA g3 n :: H)
    (fun z => z.i ≤ q.length ∧ z.C.map ClM.clm = (q.take z.i).map (fun x => clmE n.net s.sch x.rq) ∧ (∀ c ∈ z.C, c.lens) ∧ ∀ j, 0 ≤ j → j < z.i → F j = 0) (fun z => q.length - z.i) ⟨0, none, 0, []⟩ ⟨Nat.zero_le _, rfl, (fun c hc => by cases hc), fun j _ h => absurd h (Nat.not_lt_zero _)⟩ ?_ ?_ ?_
  · exact zu
  · intro w hw
    have h5 : St B w0 (schA g5 s :: netA g3 n :: H) w := by
      revert w
      exact zk
    exact JL h5
  rintro ⟨i, A3, cap3, C⟩ ⟨hi, hC, hCl, hz⟩ K hK
  dsimp only at hi hC hCl hz ⊢
  have hqr' : Rd B w0 (clsP A3 cap3 C :: many (C.map clQ) :: schA g5 s :: netA g3 n :: H) A (q.flatMap rqF) := hqr.cons.cons.cons.cons
  have hCn : C.length ≤ q.length := by
    have := congrArg List.length hC
    rw [List.length_map, List.length_map, List.length_take] at this
    omega
  by_cases hlt : i < q.length
  rotate_left
  · obtain rfl : i = q.length := by omega
    have hfe := Y9 (f := F) (r := q.length) (i0 := 0) fun j h1 h2 => hz j h1 (by omega)
    rw [hfe, if_neg (fun e => e rfl)] at hR
    subst hR
    rw [List.take_length] at hC
    clear hK
    repeat' (first | apply (zs1 ?_) | apply (zs2 ?_) | (apply (zs17 ?_ ?_) <;> intro _ <;> try (exfalso; omega)) | apply (zs65 ?_) | apply (zs68 ?_) | apply (zs69 ?_) | apply (zs70 ?_) | (apply zg27; refine zs72 ?_) | apply (zs74 ?_) | apply (zs75 ?_) | apply (zs80 ?_) | apply (zs81 ?_) | fail)
    apply Yi (clsP A3 cap3 C :: many (C.map clQ) :: H)
    · exact zk
    apply Xu; exact rfl; exact rfl; exact rfl; exact rfl
    exact ⟨A3, cap3, C, rfl, by rw [hC, List.map_map]; rfl, hCl, rfl⟩
  obtain ⟨x, hx⟩ : ∃ x, q[i]? = some x := ⟨_, List.getElem?_eq_getElem hlt⟩
  have hxm := List.mem_of_getElem? hx
  have hFx := hFv hx
  have p5 := fun {H' : List HP} {w : World} (hin : n.In B w0 H') (hrs : Rd B w0 H' s.A (s.cells.flatMap celF)) (hxi : x.In B w0 H') (hw : St B w0 H' w) => p4 x (hrq x hxm) hin hrs hxi hw
  have hxi := hq.x x hxm
  cases hlb : Zm n.net s.sch x.rq with
  | true =>
    rw [hlb, if_pos rfl] at hFx
    rw [hlb] at p5
    have hfe := YV (f := F) (r := q.length) (i0 := 0) (i := i) (fun j h1 h2 => hz j h1 h2) (Nat.zero_le _) (by omega) (by rw [hFx]; decide)
    rw [hfe, hFx] at hR
    rw [if_pos (show (15 : Int) ≠ 0 from by decide)] at hR
    subst hR
    clear hK
    repeat' (first | apply (zs1 ?_) | apply (zs2 ?_) | (apply zg3; first | refine zs8 ?_ | refine zs61 ?_) | (apply zg5; refine zs57 ?_) | (apply (zs17 ?_ ?_) <;> intro _ <;> try (exfalso; omega)) | (apply zg22; refine zs51 ?_) | (apply zg24; (refine zs54 ?_; intro _)) | apply (zs65 ?_) | apply (zs68 ?_) | apply (zs69 ?_) | apply (zs70 ?_) | (apply zg27; refine zs71 ?_) | apply (zs73 ?_) | apply (zs76 ?_) | fail)
    apply Yq _ en69
    exact za
    exact rfl
    exact fun _ hw => (p5 (hin.mono zk) (hrs.mono zk) (hxi.mono zk) (hw))
    rintro _ _ ⟨c, rfl, _, rfl⟩
    unfold clV
    repeat' (first | apply (zs1 ?_) | apply (zs2 ?_) | apply (zs13 ?_) | (apply zg20; refine zs48 ?_) | (apply zg22; refine zs51 ?_) | (apply zg24; (refine zs54 ?_; intro _)) | apply (zs65 ?_) | apply (zs68 ?_) | apply (zs69 ?_) | apply (zs70 ?_) | (apply zg27; refine zs71 ?_) | apply (zs74 ?_) | apply (zs77 ?_) | apply (zs78 ?_) | fail)
    apply Yi (clsP none 0 [] :: many (([] : List ClM).map clQ) :: H)
    · intro w hw
      have h5 : St B w0 H w := by
        revert w
        exact zk
      exact JL h5
    apply Xu; exact rfl; exact rfl; exact rfl; exact rfl
    exact ZS rfl rfl
  | false =>
    rw [hlb, if_neg (by decide)] at hFx
    rw [hlb] at p5
    repeat' (first | apply (zs1 ?_) | apply (zs2 ?_) | (apply zg3; first | refine zs8 ?_ | refine zs61 ?_) | (apply zg5; refine zs57 ?_) | (apply (zs17 ?_ ?_) <;> intro _ <;> try (exfalso; omega)) | (apply zg22; refine zs51 ?_) | (apply zg24; (refine zs54 ?_; intro _)) | apply (zs65 ?_) | apply (zs68 ?_) | apply (zs69 ?_) | apply (zs70 ?_) | (apply zg27; refine zs71 ?_) | apply (zs73 ?_) | apply (zs76 ?_) | fail)
    apply Yq _ en69
    exact za
    exact rfl
    exact fun _ hw => (p5 (hin.mono zk) (hrs.mono zk) (hxi.mono zk) (hw))
    rintro _ _ ⟨c, rfl, hcc, rfl⟩
    obtain ⟨hcm, hcl⟩ := hcc rfl
    unfold clV
    repeat' (first | apply (zs1 ?_) | apply (zs2 ?_) | (apply zg3; refine zs8 ?_) | apply (zs13 ?_) | (apply zg13; refine zs30 ?_) | (apply zg20; refine zs47 ?_) | (apply zg21; (refine zs49 ?_; intro _ _)) | (apply zg22; refine zs51 ?_) | (apply zg24; (refine zs54 ?_; intro _)) | (apply zg26; (refine zs56 ?_; intro _)) | apply (zs65 ?_) | apply (zs68 ?_) | apply (zs69 ?_) | apply (zs70 ?_) | (apply zg27; refine zs72 ?_) | apply (zs76 ?_) | apply (zs79 ?_) | fail)
    first | (rename_i A4 cap4; guard_hyp A4 : Option Addr)
    rw [Qy, show C.length + 1 = (C ++ [c]).length by simp]
    apply hK ⟨i + 1, A4, cap4, C ++ [c]⟩
    · refine ⟨by show i + 1 ≤ _; omega, ?_, fun y hy => ?_, fun j h1 h2 => ?_⟩
      · show (C ++ [c]).map ClM.clm = _
        rw [List.take_add_one, hx, Option.toList_some, List.map_append, List.map_append, hC]
        simp [hcm]
      · rcases List.mem_append.1 hy with h | h
        · exact hCl y h
        · rw [List.mem_singleton.1 h]; exact hcl
      · rcases Nat.lt_succ_iff_lt_or_eq.1 h2 with h | rfl
        · exact hz j h1 h
        · exact hFx
    · dsimp only; omega
    · exact zu
    · intro w hw
      have h5 : St B w0 (clsP A4 cap4 (C ++ [c]) :: clQ c :: many (C.map clQ) :: schA g5 s :: netA g3 n :: H) w := by
        revert w
        exact zk
      exact h5.perm (.cons _ (ZG clQ C c _))
open Go.RowKit Go.Eng Go.Nw Go.Rt
theorem VY (l m : List Int) (hlen : l.length ≤ 9223372036854775807) (_hlen2 : m.length ≤ 9223372036854775807) {A A2 : Option Addr} {cap cap2 B : Nat} {w0 : World} {H : List HP} {w : World} (hr : Rd B w0 H A (l.flatMap numF)) (hr2 : Rd B w0 H A2 (m.flatMap numF)) (hw : St B w0 H w) :
    Calls Tryz.prog 132 [.slice A l.length cap, .slice A2 m.length cap2].toArray w (Post B w0 fun u K => u = .bool (decide (l = m)) ∧ K = H) := by
  refine Yc Tryz.func132 Tryz.ntmps132 rfl rfl hw ?_
  by_cases hll : l.length = m.length
  rotate_left
  · repeat' (first | apply (zs1 ?_) | apply (zs2 ?_) | (apply zg4; refine zs9 ?_) | (apply zg8; (refine zs16 ?_ ?_ <;> intro _ <;> try (exfalso; omega))) | apply (zs65 ?_) | apply (zs68 ?_) | apply (zs69 ?_) | apply (zs70 ?_) | (apply zg27; refine zs71 ?_) | apply (zs74 ?_) | apply (zs77 ?_) | fail)
    apply Yd; exact rfl; exact rfl
    exact ⟨by rw [decide_eq_false fun e => hll (by rw [e])], rfl⟩
  repeat' (first | apply (zs1 ?_) | apply (zs2 ?_) | (apply zg4; refine zs9 ?_) | (apply zg8; (refine zs16 ?_ ?_ <;> intro _ <;> try (exfalso; omega))) | apply (zs65 ?_) | apply (zs68 ?_) | apply (zs69 ?_) | apply (zs70 ?_) | (apply zg27; refine zs72 ?_) | apply (zs73 ?_) | apply (zs76 ?_) | fail)
  refine Yj (fun (k : Nat) => [(13, .int .i64 k), (12, .int .i64 l.length), (0, .slice A l.length cap), (1, .slice A2 m.length cap2)]) (fun _ => H) (fun k => k ≤ l.length ∧ l.take k = m.take k) (fun k => l.length - k) 0 ⟨Nat.zero_le _, by simp⟩ ?_ (fun w hw => hw) ?_
  · exact zu
  rintro k ⟨hk, hi⟩ K hK
  by_cases hlt : k < l.length
  · obtain ⟨a, ha⟩ : ∃ a, l[k]? = some a := ⟨_, List.getElem?_eq_getElem hlt⟩
    obtain ⟨b, hb⟩ : ∃ b, m[k]? = some b := ⟨_, List.getElem?_eq_getElem (by omega)⟩
    repeat' (first | apply (zs1 ?_) | apply (zs2 ?_) | (apply zg3; refine zs60 ?_) | (apply zg5; refine zs57 ?_) | (apply zg8; (refine zs16 ?_ ?_ <;> intro _ <;> try (exfalso; omega))) | (apply (zs17 ?_ ?_) <;> intro _ <;> try (exfalso; omega)) | (apply zg13; refine zs30 ?_) | apply (zs65 ?_) | apply (zs66 ?_) | apply (zs68 ?_) | apply (zs69 ?_) | apply (zs70 ?_) | (apply zg27; first | refine zs71 ?_ | refine zs72 ?_) | apply (zs73 ?_) | apply (zs74 ?_) | apply (zs76 ?_) | apply (zs77 ?_) | apply (zs78 ?_) | apply (zs79 ?_) | (apply zg28; refine zs83 ?_) | fail)
    · rename_i h
      apply Yd; exact rfl; exact rfl
      exact ⟨by rw [decide_eq_false fun e => by rw [e, hb] at ha; exact h (Option.some.inj ha).symm], rfl⟩
    · rename_i h
      apply hK (k + 1)
      · exact ⟨by omega, by rw [Ji ha, Ji hb, hi, h]⟩
      · omega
      · exact zu
      · exact fun w hw => hw
  · repeat' (first | apply (zs2 ?_) | (apply (zs17 ?_ ?_) <;> intro _ <;> try (exfalso; omega)) | apply (zs65 ?_) | apply (zs68 ?_) | apply (zs69 ?_) | apply (zs70 ?_) | (apply zg27; refine zs72 ?_) | apply (zs74 ?_) | apply (zs75 ?_) | apply (zs80 ?_) | apply (zs81 ?_) | fail)
    apply Yd; exact rfl; exact rfl
    rw [List.take_of_length_le (by omega), List.take_of_length_le (by omega)] at hi
    exact ⟨by rw [decide_eq_true hi], rfl⟩
theorem Yai (a b : RowM) {B : Nat} {w0 : World} {H : List HP} {w : World} (hl : a.xs.length ≤ 1000000000000 ∧ b.xs.length ≤ 1000000000000) (hr : Rd B w0 H a.A (a.xs.flatMap numF)) (hr2 : Rd B w0 H b.A (b.xs.flatMap numF)) (hw : St B w0 H w) :
    Calls Tryz.prog 130 [.slice a.A a.xs.length a.cap, .slice b.A b.xs.length b.cap].toArray w (Post B w0 fun u K => u = .bool (decide (a.xs = b.xs)) ∧ K = H) := by
  refine Yc Tryz.func130 Tryz.ntmps130 rfl rfl hw ?_
  repeat' (first | ((first | apply Ya en33 | apply Yb en33); exact za; exact rfl; exact fun _ hw => (Ov a.xs b.xs (by omega) (by omega) hr hr2 hw)) | apply (zs1 ?_) | apply (zs2 ?_) | apply (zs65 ?_) | apply (zs68 ?_) | apply (zs69 ?_) | apply (zs70 ?_) | apply (zs74 ?_) | fail)
  apply Yd; exact rfl; exact rfl; exact ⟨rfl, rfl⟩
set_option maxHeartbeats 1000000 in
theorem WN (l m : List RowM) (hlen : l.length ≤ 1000000000000) (_hlen2 : m.length ≤ 1000000000000) (hl2 : ∀ r ∈ l, r.xs.length ≤ 1000000000000) (hm2 : ∀ r ∈ m, r.xs.length ≤ 1000000000000) {A A2 : Option Addr} {cap cap2 B : Nat} {w0 : World} {H : List HP} {w : World} (hr : Rd B w0 H A (l.flatMap rowF)) (hr2 : Rd B w0 H A2 (m.flatMap rowF)) (hrl : ∀ r ∈ l, Rd B w0 H r.A (r.xs.flatMap numF)) (hrm : ∀ r ∈ m, Rd B w0 H r.A (r.xs.flatMap numF)) (hw : St B w0 H w) :
    Calls Tryz.prog 133 [.slice A l.length cap, .slice A2 m.length cap2, .func (.func 130) #[] #[]].toArray w (Post B w0 fun u K => u = .bool (decide (l.map (·.xs) = m.map (·.xs))) ∧ K = H) := by
  refine Yc Tryz.func133 Tryz.ntmps133 rfl rfl hw ?_
  by_cases hll : l.length = m.length
  rotate_left
  · repeat' (first | apply (zs1 ?_) | apply (zs2 ?_) | (apply zg4; refine zs9 ?_) | (apply zg8; (refine zs16 ?_ ?_ <;> intro _ <;> try (exfalso; omega))) | apply (zs65 ?_) | apply (zs68 ?_) | apply (zs69 ?_) | apply (zs70 ?_) | (apply zg27; refine zs71 ?_) | apply (zs74 ?_) | apply (zs77 ?_) | fail)
    apply Yd; exact rfl; exact rfl
    exact ⟨by rw [decide_eq_false fun e => hll (by have := congrArg List.length e; simpa using this)], rfl⟩
  repeat' (first | apply (zs1 ?_) | apply (zs2 ?_) | (apply zg4; refine zs9 ?_) | (apply zg8; (refine zs16 ?_ ?_ <;> intro _ <;> try (exfalso; omega))) | apply (zs65 ?_) | apply (zs68 ?_) | apply (zs69 ?_) | apply (zs70 ?_) | (apply zg27; refine zs72 ?_) | apply (zs73 ?_) | apply (zs76 ?_) | fail)
  refine Yj (fun (k : Nat) => [(17, .int .i64 k), (16, .int .i64 l.length), (15, .slice A l.length cap), (0, .slice A l.length cap), (1, .slice A2 m.length cap2), (2, .func (.func 130) #[] #[])]) (fun _ => H) (fun k => k ≤ l.length ∧ (l.take k).map (·.xs) = (m.take k).map (·.xs)) (fun k => l.length - k) 0 ⟨Nat.zero_le _, by simp⟩ ?_ (fun w hw => hw) ?_
  · exact zu
  rintro k ⟨hk, hi⟩ K hK
  by_cases hlt : k < l.length
  · obtain ⟨a, ha⟩ : ∃ a, l[k]? = some a := ⟨_, List.getElem?_eq_getElem hlt⟩
    obtain ⟨b, hb⟩ : ∃ b, m[k]? = some b := ⟨_, List.getElem?_eq_getElem (by omega)⟩
    have ham := List.mem_of_getElem? ha
    have hbm := List.mem_of_getElem? hb
    have hss := fun {w : World} (hw : St B w0 H w) => Yai a b ⟨hl2 a ham, hm2 b hbm⟩ (hrl a ham) (hrm b hbm) hw
    by_cases hab : a.xs = b.xs
    · rw [decide_eq_true hab] at hss
      repeat' (first | ((first | apply YU (cs := []) | apply Xo (cs := [])); exact rfl; exact YiE; exact za; exact rfl; exact fun _ hw => (hss hw)) | apply (zs1 ?_) | apply (zs2 ?_) | (apply zg3; refine zs60 ?_) | (apply zg5; refine zs57 ?_) | (apply (zs17 ?_ ?_) <;> intro _ <;> try (exfalso; omega)) | (apply zg13; refine zs30 ?_) | (apply zg20; refine zs47 ?_) | apply (zs65 ?_) | apply (zs68 ?_) | apply (zs69 ?_) | apply (zs70 ?_) | (apply zg27; first | refine zs71 ?_ | refine zs72 ?_) | apply (zs73 ?_) | apply (zs76 ?_) | apply (zs79 ?_) | fail)
      apply hK (k + 1)
      · exact ⟨by omega, by rw [List.take_add_one, List.take_add_one, ha, hb, List.map_append, List.map_append, hi]; simp [hab]⟩
      · omega
      · exact zu
      · exact fun w hw => hw
    · rw [decide_eq_false hab] at hss
      repeat' (first | ((first | apply YU (cs := []) | apply Xo (cs := [])); exact rfl; exact YiE; exact za; exact rfl; exact fun _ hw => (hss hw)) | apply (zs1 ?_) | apply (zs2 ?_) | (apply zg3; refine zs60 ?_) | (apply zg5; refine zs57 ?_) | (apply (zs17 ?_ ?_) <;> intro _ <;> try (exfalso; omega)) | (apply zg20; refine zs48 ?_) | apply (zs65 ?_) | apply (zs68 ?_) | apply (zs69 ?_) | apply (zs70 ?_) | (apply zg27; refine zs71 ?_) | apply (zs73 ?_) | apply (zs74 ?_) | apply (zs76 ?_) | apply (zs77 ?_) | apply (zs78 ?_) | fail)
      apply Yd; exact rfl; exact rfl
      have hne : ¬ (l.map (·.xs) = m.map (·.xs)) := fun e => by
        have h1 : (l.map (·.xs))[k]? = (m.map (·.xs))[k]? := by rw [e]
        rw [List.getElem?_map, List.getElem?_map, ha, hb] at h1
        exact hab (Option.some.inj h1)
      exact ⟨by rw [decide_eq_false hne], rfl⟩
  · repeat' (first | apply (zs2 ?_) | (apply (zs17 ?_ ?_) <;> intro _ <;> try (exfalso; omega)) | apply (zs65 ?_) | apply (zs68 ?_) | apply (zs69 ?_) | apply (zs70 ?_) | (apply zg27; refine zs72 ?_) | apply (zs74 ?_) | apply (zs75 ?_) | apply (zs80 ?_) | apply (zs81 ?_) | fail)
    apply Yd; exact rfl; exact rfl
    rw [List.take_of_length_le (by omega), List.take_of_length_le (by omega)] at hi
    exact ⟨by rw [decide_eq_true hi], rfl⟩
theorem YaT (a b : RowM) {B : Nat} {w0 : World} {H : List HP} {w : World} (hl : a.xs.length ≤ 1000000000000 ∧ b.xs.length ≤ 1000000000000) (hr : Rd B w0 H a.A (a.xs.flatMap numF)) (hr2 : Rd B w0 H b.A (b.xs.flatMap numF)) (hw : St B w0 H w) :
    Calls Tryz.prog 131 [.slice a.A a.xs.length a.cap, .slice b.A b.xs.length b.cap].toArray w (Post B w0 fun u K => u = .bool (decide (a.xs = b.xs)) ∧ K = H) := by
  refine Yc Tryz.func131 Tryz.ntmps131 rfl rfl hw ?_
  repeat' (first | ((first | apply Ya VA | apply Yb VA); exact za; exact rfl; exact fun _ hw => (VY a.xs b.xs (by omega) (by omega) hr hr2 hw)) | apply (zs1 ?_) | apply (zs2 ?_) | apply (zs65 ?_) | apply (zs68 ?_) | apply (zs69 ?_) | apply (zs70 ?_) | apply (zs74 ?_) | fail)
  apply Yd; exact rfl; exact rfl; exact ⟨rfl, rfl⟩
set_option maxHeartbeats 1000000 in
theorem O2 (l m : List RowM) (hlen : l.length ≤ 1000000000000) (_hlen2 : m.length ≤ 1000000000000) (hl2 : ∀ r ∈ l, r.xs.length ≤ 1000000000000) (hm2 : ∀ r ∈ m, r.xs.length ≤ 1000000000000) {A A2 : Option Addr} {cap cap2 B : Nat} {w0 : World} {H : List HP} {w : World} (hr : Rd B w0 H A (l.flatMap rowF)) (hr2 : Rd B w0 H A2 (m.flatMap rowF)) (hrl : ∀ r ∈ l, Rd B w0 H r.A (r.xs.flatMap numF)) (hrm : ∀ r ∈ m, Rd B w0 H r.A (r.xs.flatMap numF)) (hw : St B w0 H w) :
    Calls Tryz.prog 134 [.slice A l.length cap, .slice A2 m.length cap2, .func (.func 131) #[] #[]].toArray w (Post B w0 fun u K => u = .bool (decide (l.map (·.xs) = m.map (·.xs))) ∧ K = H) := by
  refine Yc Tryz.func134 Tryz.ntmps134 rfl rfl hw ?_
  by_cases hll : l.length = m.length
  rotate_left
  · repeat' (first | apply (zs1 ?_) | apply (zs2 ?_) | (apply zg4; refine zs9 ?_) | (apply zg8; (refine zs16 ?_ ?_ <;> intro _ <;> try (exfalso; omega))) | apply (zs65 ?_) | apply (zs68 ?_) | apply (zs69 ?_) | apply (zs70 ?_) | (apply zg27; refine zs71 ?_) | apply (zs74 ?_) | apply (zs77 ?_) | fail)
    apply Yd; exact rfl; exact rfl
    exact ⟨by rw [decide_eq_false fun e => hll (by have := congrArg List.length e; simpa using this)], rfl⟩
  repeat' (first | apply (zs1 ?_) | apply (zs2 ?_) | (apply zg4; refine zs9 ?_) | (apply zg8; (refine zs16 ?_ ?_ <;> intro _ <;> try (exfalso; omega))) | apply (zs65 ?_) | apply (zs68 ?_) | apply (zs69 ?_) | apply (zs70 ?_) | (apply zg27; refine zs72 ?_) | apply (zs73 ?_) | apply (zs76 ?_) | fail)
  refine Yj (fun (k : Nat) => [(17, .int .i64 k), (16, .int .i64 l.length), (15, .slice A l.length cap), (0, .slice A l.length cap), (1, .slice A2 m.length cap2), (2, .func (.func 131) #[] #[])]) (fun _ => H) (fun k => k ≤ l.length ∧ (l.take k).map (·.xs) = (m.take k).map (·.xs)) (fun k => l.length - k) 0 ⟨Nat.zero_le _, by simp⟩ ?_ (fun w hw => hw) ?_
  · exact zu
  rintro k ⟨hk, hi⟩ K hK
  by_cases hlt : k < l.length
  · obtain ⟨a, ha⟩ : ∃ a, l[k]? = some a := ⟨_, List.getElem?_eq_getElem hlt⟩
    obtain ⟨b, hb⟩ : ∃ b, m[k]? = some b := ⟨_, List.getElem?_eq_getElem (by omega)⟩
    have ham := List.mem_of_getElem? ha
    have hbm := List.mem_of_getElem? hb
    have hss := fun {w : World} (hw : St B w0 H w) => YaT a b ⟨hl2 a ham, hm2 b hbm⟩ (hrl a ham) (hrm b hbm) hw
    by_cases hab : a.xs = b.xs
    · rw [decide_eq_true hab] at hss
      repeat' (first | ((first | apply YU (cs := []) | apply Xo (cs := [])); exact rfl; exact YiF; exact za; exact rfl; exact fun _ hw => (hss hw)) | apply (zs1 ?_) | apply (zs2 ?_) | (apply zg3; refine zs60 ?_) | (apply zg5; refine zs57 ?_) | (apply (zs17 ?_ ?_) <;> intro _ <;> try (exfalso; omega)) | (apply zg13; refine zs30 ?_) | (apply zg20; refine zs47 ?_) | apply (zs65 ?_) | apply (zs68 ?_) | apply (zs69 ?_) | apply (zs70 ?_) | (apply zg27; first | refine zs71 ?_ | refine zs72 ?_) | apply (zs73 ?_) | apply (zs76 ?_) | apply (zs79 ?_) | fail)
      apply hK (k + 1)
      · exact ⟨by omega, by rw [List.take_add_one, List.take_add_one, ha, hb, List.map_append, List.map_append, hi]; simp [hab]⟩
      · omega
      · exact zu
      · exact fun w hw => hw
    · rw [decide_eq_false hab] at hss
      repeat' (first | ((first | apply YU (cs := []) | apply Xo (cs := [])); exact rfl; exact YiF; exact za; exact rfl; exact fun _ hw => (hss hw)) | apply (zs1 ?_) | apply (zs2 ?_) | (apply zg3; refine zs60 ?_) | (apply zg5; refine zs57 ?_) | (apply (zs17 ?_ ?_) <;> intro _ <;> try (exfalso; omega)) | (apply zg20; refine zs48 ?_) | apply (zs65 ?_) | apply (zs68 ?_) | apply (zs69 ?_) | apply (zs70 ?_) | (apply zg27; refine zs71 ?_) | apply (zs73 ?_) | apply (zs74 ?_) | apply (zs76 ?_) | apply (zs77 ?_) | apply (zs78 ?_) | fail)
      apply Yd; exact rfl; exact rfl
      have hne : ¬ (l.map (·.xs) = m.map (·.xs)) := fun e => by
        have h1 : (l.map (·.xs))[k]? = (m.map (·.xs))[k]? := by rw [e]
        rw [List.getElem?_map, List.getElem?_map, ha, hb] at h1
        exact hab (Option.some.inj h1)
      exact ⟨by rw [decide_eq_false hne], rfl⟩
  · repeat' (first | apply (zs2 ?_) | (apply (zs17 ?_ ?_) <;> intro _ <;> try (exfalso; omega)) | apply (zs65 ?_) | apply (zs68 ?_) | apply (zs69 ?_) | apply (zs70 ?_) | (apply zg27; refine zs72 ?_) | apply (zs74 ?_) | apply (zs75 ?_) | apply (zs80 ?_) | apply (zs81 ?_) | fail)
    apply Yd; exact rfl; exact rfl
    rw [List.take_of_length_le (by omega), List.take_of_length_le (by omega)] at hi
    exact ⟨by rw [decide_eq_true hi], rfl⟩
theorem YgR {c d : ClM} : c.clm = d.clm ↔ c.flow = d.flow ∧ c.rs.map (·.xs) = d.rs.map (·.xs) ∧ c.bs = d.bs ∧ c.ws = d.ws ∧ c.ss.map (·.xs) = d.ss.map (·.xs) := by
  unfold ClM.clm
  constructor
  · intro h
    injection h with h1 h2 h3 h4 h5
    exact ⟨h1, h2, h3, h4, h5⟩
  · rintro ⟨h1, h2, h3, h4, h5⟩
    rw [h1, h2, h3, h4, h5]
set_option maxRecDepth 10000 in
set_option maxHeartbeats 4000000 in
theorem Yey (c d : ClM) {B : Nat} {w0 : World} {H : List HP} {w : World} (hc : c.In B w0 H) (hd : d.In B w0 H) (hw : St B w0 H w) :
    Calls Tryz.prog 74 [clV c, clV d].toArray w (Post B w0 fun u K => u = .bool (decide (c.clm = d.clm)) ∧ K = H) := by
  refine Yc Tryz.func74 Tryz.ntmps74 rfl rfl hw ?_
  have hcl := hc.ln
  have hdl := hd.ln
  have p1 := fun {H' : List HP} {w : World} (hc : c.In B w0 H') (hd : d.In B w0 H') (hw : St B w0 H' w) => WN c.rs d.rs (cap := c.rcap) (cap2 := d.rcap) hcl.1 hdl.1 hc.rl hd.rl hc.rt hd.rt hc.rw_ hd.rw_ hw
  have p2 := fun {H' : List HP} {w : World} (hc : c.In B w0 H') (hd : d.In B w0 H') (hw : St B w0 H' w) => VY c.bs d.bs (cap := c.bcap) (cap2 := d.bcap) (by omega) (by omega) hc.bd hd.bd hw
  have p3 := fun {H' : List HP} {w : World} (hc : c.In B w0 H') (hd : d.In B w0 H') (hw : St B w0 H' w) => VY c.ws d.ws (cap := c.wcap) (cap2 := d.wcap) (by omega) (by omega) hc.ws hd.ws hw
  have p4 := fun {H' : List HP} {w : World} (hc : c.In B w0 H') (hd : d.In B w0 H') (hw : St B w0 H' w) => O2 c.ss d.ss (cap := c.scap) (cap2 := d.scap) hcl.2.2.2 hdl.2.2.2 hc.sl hd.sl hc.st hd.st hc.sw hd.sw hw
  have hce := @YgR c d
  unfold clV
  by_cases h1 : c.flow = d.flow
  rotate_left
  · rw [decide_eq_false (fun h => h1 (hce.1 h).1)]
    repeat' (first | apply (zs1 ?_) | apply (zs2 ?_) | (apply zg1; refine zs3 ?_) | (apply zg2; refine zs6 ?_) | (apply zg3; refine zs7 ?_) | (apply zg6; refine zs12 ?_) | (apply zg7; (refine zs15 ?_ ?_ <;> intro _ <;> try (exfalso; omega))) | (apply zg23; (refine zs52 ?_; intro _)) | apply (zs65 ?_) | apply (zs68 ?_) | apply (zs69 ?_) | apply (zs70 ?_) | apply (zs74 ?_) | fail)
    apply Yi H
    · exact zk
    apply Yd; exact rfl; exact rfl; exact ⟨rfl, rfl⟩
  by_cases h2 : c.rs.map (·.xs) = d.rs.map (·.xs)
  rotate_left
  · rw [decide_eq_false (fun h => h2 (hce.1 h).2.1)]
    rw [decide_eq_false h2] at p1
    repeat' (first | apply (zs1 ?_) | apply (zs2 ?_) | (apply zg1; refine zs4 ?_) | (apply zg2; refine zs6 ?_) | (apply zg3; refine zs7 ?_) | (apply zg7; (refine zs15 ?_ ?_ <;> intro _ <;> try (exfalso; omega))) | (apply zg23; (refine zs52 ?_; intro _)) | apply (zs65 ?_) | apply (zs68 ?_) | apply (zs69 ?_) | apply (zs70 ?_) | fail)
    first | apply Ya Oj | apply Yb Oj
    exact za
    exact rfl
    exact fun _ hw => (p1 (hc.mono zk) (hd.mono zk) hw)
    repeat' (first | apply (zs1 ?_) | apply (zs2 ?_) | (apply zg1; refine zs3 ?_) | (apply zg6; first | refine zs11 ?_ | refine zs12 ?_) | apply (zs65 ?_) | apply (zs68 ?_) | apply (zs74 ?_) | fail)
    apply Yi H
    · exact zk
    apply Yd; exact rfl; exact rfl; exact ⟨rfl, rfl⟩
  rw [decide_eq_true h2] at p1
  by_cases h3 : c.bs = d.bs
  rotate_left
  · rw [decide_eq_false (fun h => h3 (hce.1 h).2.2.1)]
    rw [decide_eq_false h3] at p2
    repeat' (first | apply (zs1 ?_) | apply (zs2 ?_) | (apply zg1; refine zs4 ?_) | (apply zg2; refine zs6 ?_) | (apply zg3; refine zs7 ?_) | (apply zg7; (refine zs15 ?_ ?_ <;> intro _ <;> try (exfalso; omega))) | (apply zg23; (refine zs52 ?_; intro _)) | apply (zs65 ?_) | apply (zs68 ?_) | apply (zs69 ?_) | apply (zs70 ?_) | fail)
    first | apply Ya Oj | apply Yb Oj
    exact za
    exact rfl
    exact fun _ hw => (p1 (hc.mono zk) (hd.mono zk) hw)
    repeat' (first | apply (zs1 ?_) | (apply zg1; refine zs4 ?_) | (apply zg2; refine zs6 ?_) | (apply zg3; refine zs7 ?_) | (apply zg6; refine zs11 ?_) | fail)
    first | apply Ya VA | apply Yb VA
    exact za
    exact rfl
    exact fun _ hw => (p2 (hc.mono zk) (hd.mono zk) hw)
    repeat' (first | apply (zs1 ?_) | apply (zs2 ?_) | (apply zg1; refine zs3 ?_) | (apply zg6; first | refine zs11 ?_ | refine zs12 ?_) | apply (zs65 ?_) | apply (zs68 ?_) | apply (zs74 ?_) | fail)
    apply Yi H
    · exact zk
    apply Yd; exact rfl; exact rfl; exact ⟨rfl, rfl⟩
  rw [decide_eq_true h3] at p2
  by_cases h4 : c.ws = d.ws
  rotate_left
  · rw [decide_eq_false (fun h => h4 (hce.1 h).2.2.2.1)]
    rw [decide_eq_false h4] at p3
    repeat' (first | apply (zs1 ?_) | apply (zs2 ?_) | (apply zg1; refine zs4 ?_) | (apply zg2; refine zs6 ?_) | (apply zg3; refine zs7 ?_) | (apply zg7; (refine zs15 ?_ ?_ <;> intro _ <;> try (exfalso; omega))) | (apply zg23; (refine zs52 ?_; intro _)) | apply (zs65 ?_) | apply (zs68 ?_) | apply (zs69 ?_) | apply (zs70 ?_) | fail)
    first | apply Ya Oj | apply Yb Oj
    exact za
    exact rfl
    exact fun _ hw => (p1 (hc.mono zk) (hd.mono zk) hw)
    repeat' (first | apply (zs1 ?_) | (apply zg1; refine zs4 ?_) | (apply zg2; refine zs6 ?_) | (apply zg3; refine zs7 ?_) | (apply zg6; refine zs11 ?_) | fail)
    first | apply Ya VA | apply Yb VA
    exact za
    exact rfl
    exact fun _ hw => (p2 (hc.mono zk) (hd.mono zk) hw)
    repeat' (first | apply (zs1 ?_) | (apply zg1; refine zs4 ?_) | (apply zg2; refine zs6 ?_) | (apply zg3; refine zs7 ?_) | (apply zg6; refine zs11 ?_) | fail)
    first | apply Ya VA | apply Yb VA
    exact za
    exact rfl
    exact fun _ hw => (p3 (hc.mono zk) (hd.mono zk) hw)
    repeat' (first | apply (zs1 ?_) | apply (zs2 ?_) | (apply zg1; refine zs3 ?_) | (apply zg6; first | refine zs11 ?_ | refine zs12 ?_) | apply (zs65 ?_) | apply (zs68 ?_) | apply (zs74 ?_) | fail)
    apply Yi H
    · exact zk
    apply Yd; exact rfl; exact rfl; exact ⟨rfl, rfl⟩
  rw [decide_eq_true h4] at p3
  have h5 : decide (c.clm = d.clm) = decide (c.ss.map (·.xs) = d.ss.map (·.xs)) := decide_eq_decide.2 ⟨fun h => (hce.1 h).2.2.2.2, fun h => hce.2 ⟨h1, h2, h3, h4, h⟩⟩
  rw [h5]
  repeat' (first | apply (zs1 ?_) | apply (zs2 ?_) | (apply zg1; refine zs4 ?_) | (apply zg2; refine zs6 ?_) | (apply zg3; refine zs7 ?_) | (apply zg7; (refine zs15 ?_ ?_ <;> intro _ <;> try (exfalso; omega))) | (apply zg23; (refine zs52 ?_; intro _)) | apply (zs65 ?_) | apply (zs68 ?_) | apply (zs69 ?_) | apply (zs70 ?_) | fail)
  first | apply Ya Oj | apply Yb Oj
  exact za
  exact rfl
  exact fun _ hw => (p1 (hc.mono zk) (hd.mono zk) hw)
  repeat' (first | apply (zs1 ?_) | (apply zg1; refine zs4 ?_) | (apply zg2; refine zs6 ?_) | (apply zg3; refine zs7 ?_) | (apply zg6; refine zs11 ?_) | fail)
  first | apply Ya VA | apply Yb VA
  exact za
  exact rfl
  exact fun _ hw => (p2 (hc.mono zk) (hd.mono zk) hw)
  repeat' (first | apply (zs1 ?_) | (apply zg1; refine zs4 ?_) | (apply zg2; refine zs6 ?_) | (apply zg3; refine zs7 ?_) | (apply zg6; refine zs11 ?_) | fail)
  first | apply Ya VA | apply Yb VA
  exact za
  exact rfl
  exact fun _ hw => (p3 (hc.mono zk) (hd.mono zk) hw)
  repeat' (first | apply (zs1 ?_) | (apply zg1; refine zs4 ?_) | (apply zg2; refine zs6 ?_) | (apply zg3; refine zs7 ?_) | (apply zg6; refine zs11 ?_) | fail)
  first | apply Ya YiG | apply Yb YiG
  exact za
  exact rfl
  exact fun _ hw => (p4 (hc.mono zk) (hd.mono zk) hw)
  repeat' (first | apply (zs2 ?_) | (apply zg6; refine zs11 ?_) | apply (zs65 ?_) | apply (zs68 ?_) | apply (zs74 ?_) | fail)
  apply Yi H
  · exact zk
  apply Yd; exact rfl; exact rfl; exact ⟨rfl, rfl⟩
open Go.RowKit Go.Eng Go.Nw Go.Rt
theorem Zb {c : List ClM} {i : Nat} {x : ClM} (h : c[i]? = some x) : ZU (c.map ClM.clm) i = x.clm := by
  have h2 : (c.map ClM.clm)[i]? = some x.clm := by rw [List.getElem?_map, h]; rfl
  unfold ZU
  rw [List.getD_eq_getElem?_getD, h2]; rfl
theorem Vq {C : List ClM} {c : ClM} {B : Nat} {w0 : World} {H : List HP} (hm : many (C.map clQ) ∈ H) (hc : c ∈ C) (hl : c.lens) : c.In B w0 H := by
  have hb : ∀ w, St B w0 H w → St B w0 (C.map clQ) w := fun w hw => hw.inM hm
  refine ClM.In.mono (H := C.map clQ) (Yjf (List.mem_map_of_mem hc) ⟨⟨?_, ?_, ?_, ?_⟩, ?_, ?_⟩) hb
  · have := hl.1.1; omega
  · have := hl.1.2.1; omega
  · have := hl.1.2.2.1; omega
  · have := hl.1.2.2.2; omega
  · exact fun r hr => Nat.le_trans (hl.2.1 r hr) (by decide)
  · exact fun r hr => Nat.le_trans (hl.2.2 r hr) (by decide)
set_option maxRecDepth 10000 in
set_option maxHeartbeats 8000000 in
theorem Wf (n : NetM) (q : List RqM) (s : SchM) (c : List ClM) {A A1 : Option Addr} {cap cap1 B : Nat} {w0 : World} {H : List HP} {w : World} (ht : TabsB B w0) (hin : n.In B w0 H) (hq : QIn B w0 H A q) (hrs : Rd B w0 H s.A (s.cells.flatMap celF)) (hsl : s.cells.length ≤ 1000000000000) (hc : CIn B w0 H A1 c) (hw : St B w0 H w) :
    Calls Tryz.prog 23 [n.val, .slice A q.length cap, s.val, .slice A1 c.length cap1].toArray w (Post B w0 fun v K => v = .tuple #[.int .i64 (chkE n.net (q.map RqM.rq) s.sch (c.map ClM.clm)).1, .int .i64 (chkE n.net (q.map RqM.rq) s.sch (c.map ClM.clm)).2] ∧ K = H) := by
  refine Yc Tryz.func23 Tryz.ntmps23 rfl rfl hw ?_
  have hcl := hc.ln
  have hcr := hc.rd
  have p1 := fun {H' : List HP} {w : World} (hin : n.In B w0 H') (hq : QIn B w0 H' A q) (hrs : Rd B w0 H' s.A (s.cells.flatMap celF)) (hw : St B w0 H' w) => WW n q s (cap := cap) ht hin hq hrs hsl hw
  obtain ⟨⟨RC, ri, re⟩, hR⟩ : ∃ R, XS n.net (q.map RqM.rq) s.sch = R := ⟨_, rfl⟩
  unfold chkE
  rw [List.length_map]
  rw [hR] at p1 ⊢
  unfold OutC at p1
  dsimp only at p1 ⊢
  unfold NetM.val SchM.val
  by_cases h0 : re = 0
  rotate_left
  · rw [if_pos h0]
    repeat' (first | apply (zs1 ?_) | apply (zs2 ?_) | (apply zg3; refine zs8 ?_) | (apply zg23; (refine zs52 ?_; intro _)) | apply (zs65 ?_) | apply (zs68 ?_) | apply (zs69 ?_) | apply (zs70 ?_) | fail)
    apply Yq _ en19
    exact za
    exact rfl
    exact fun _ hw => (p1 (hin.mono zk) (hq.mono zk) (hrs.mono zk) (hw))
    rintro _ _ ⟨A2, cap2, C, rfl, hC, hCl, rfl⟩
    repeat' (first | apply (zs1 ?_) | apply (zs2 ?_) | apply (zs13 ?_) | (apply zg8; (refine zs16 ?_ ?_ <;> intro _ <;> try (exfalso; omega))) | apply (zs65 ?_) | apply (zs68 ?_) | apply (zs69 ?_) | apply (zs70 ?_) | (apply zg27; refine zs71 ?_) | apply (zs74 ?_) | apply (zs77 ?_) | fail)
    apply Yi H
    · exact zk
    apply Yp; exact rfl; exact rfl; exact rfl; exact ⟨rfl, rfl⟩
  subst h0
  rw [if_neg (fun e => e rfl)]
  repeat' (first | apply (zs1 ?_) | apply (zs2 ?_) | (apply zg3; refine zs8 ?_) | (apply zg23; (refine zs52 ?_; intro _)) | apply (zs65 ?_) | apply (zs68 ?_) | apply (zs69 ?_) | apply (zs70 ?_) | fail)
  apply Yq _ en19
  exact za
  exact rfl
  exact fun _ hw => (p1 (hin.mono zk) (hq.mono zk) (hrs.mono zk) (hw))
  rintro _ _ ⟨A2, cap2, C, rfl, hC, hCl, rfl⟩
  subst hC
  rw [List.length_map]
  by_cases h1 : c.length = C.length
  rotate_left
  · rw [if_pos h1]
    repeat' (first | apply (zs1 ?_) | apply (zs2 ?_) | (apply zg4; refine zs9 ?_) | apply (zs13 ?_) | (apply zg8; (refine zs16 ?_ ?_ <;> intro _ <;> try (exfalso; omega))) | apply (zs65 ?_) | apply (zs68 ?_) | apply (zs69 ?_) | apply (zs70 ?_) | (apply zg27; first | refine zs71 ?_ | refine zs72 ?_) | apply (zs74 ?_) | apply (zs76 ?_) | apply (zs77 ?_) | fail)
    apply Yi H
    · exact zk
    apply Yp; exact rfl; exact rfl; exact rfl; exact ⟨rfl, rfl⟩
  rw [if_neg (fun e => e h1)]
  obtain ⟨F, hF⟩ : ∃ F : Nat → Int, (fun i => if ZU (c.map ClM.clm) i = ZU (C.map ClM.clm) i then (0 : Int) else 20) = F := ⟨_, rfl⟩
  rw [hF]
  have hFv : ∀ {k : Nat} {x y : ClM}, c[k]? = some x → C[k]? = some y → F k = if x.clm = y.clm then 0 else 20 := fun hx hy => by rw [← hF]; show (if _ = _ then _ else _) = _; rw [Zb hx, Zb hy]
  repeat' (first | apply (zs1 ?_) | apply (zs2 ?_) | (apply zg4; refine zs9 ?_) | apply (zs13 ?_) | (apply zg8; (refine zs16 ?_ ?_ <;> intro _ <;> try (exfalso; omega))) | apply (zs65 ?_) | apply (zs68 ?_) | apply (zs69 ?_) | apply (zs70 ?_) | (apply zg27; refine zs72 ?_) | apply (zs73 ?_) | apply (zs76 ?_) | fail)
  refine Yj (fun k : Nat => [(33, .int .i64 (k : Nat)), (32, .int .i64 C.length), (10, .slice A2 C.length cap2), (3, .slice A1 c.length cap1)]) (fun _ => clsP A2 cap2 C :: many (C.map clQ) :: H) (fun k => k ≤ C.length ∧ ∀ j, 0 ≤ j → j < k → F j = 0) (fun k => C.length - k) 0 ⟨Nat.zero_le _, fun j _ h => absurd h (Nat.not_lt_zero _)⟩ ?_ ?_ ?_
  · exact zu
  · exact zk
  rintro k ⟨hk, hz⟩ K hK
  have hcr' : Rd B w0 (clsP A2 cap2 C :: many (C.map clQ) :: H) A1 (c.flatMap clF) := hcr.cons.cons
  have hCr' : Rd B w0 (clsP A2 cap2 C :: many (C.map clQ) :: H) A2 (C.flatMap clF) := .sl (.head _)
  by_cases hlt : k < C.length
  · obtain ⟨x, hx⟩ : ∃ x, c[k]? = some x := ⟨_, List.getElem?_eq_getElem (by omega)⟩
    obtain ⟨y, hy⟩ : ∃ y, C[k]? = some y := ⟨_, List.getElem?_eq_getElem hlt⟩
    have hym := List.mem_of_getElem? hy
    have hFk := hFv hx hy
    have hxi := hc.x x (List.mem_of_getElem? hx)
    have p2 := fun {H' : List HP} {w : World} (hx : x.In B w0 H') (hy : y.In B w0 H') (hw : St B w0 H' w) => Yey x y hx hy hw
    by_cases he : x.clm = y.clm
    · rw [if_pos he] at hFk
      rw [decide_eq_true he] at p2
      repeat' (first | apply (zs1 ?_) | apply (zs2 ?_) | (apply (zs17 ?_ ?_) <;> intro _ <;> try (exfalso; omega)) | apply (zs65 ?_) | apply (zs68 ?_) | apply (zs69 ?_) | apply (zs70 ?_) | (apply zg27; refine zs71 ?_) | apply (zs73 ?_) | apply (zs76 ?_) | fail)
      apply YB [0, 1, 2, 3, 4, 5, 6, 7, 8, 9] []
      kernel_rfl
      kernel_rfl
      (simp only [Yk, nthO]; rfl)
      exact rfl
      repeat' (first | apply (zs1 ?_) | (apply zg3; refine zs61 ?_) | (apply zg5; first | refine zs10 ?_ | refine zs57 ?_) | apply (zs87 ?_) | fail)
      first | apply Ya en74 | apply Yb en74
      exact za
      exact rfl
      exact fun _ hw => (p2 (hxi.mono zk) (Vq zm hym (hCl y hym)) hw)
      repeat' (first | apply (zs1 ?_) | (apply zg13; refine zs30 ?_) | (apply zg20; refine zs47 ?_) | apply (zs65 ?_) | (apply Yo; exact zp) | apply (zs68 ?_) | apply (zs70 ?_) | (apply zg27; refine zs72 ?_) | apply (zs76 ?_) | apply (zs79 ?_) | (apply Yl; (repeat (first | with_reducible exact Yh | (with_reducible apply Yf; (repeat (first | with_reducible exact Yg | with_reducible apply Ye)))))) | apply (zs93 ?_) | apply (zs94 ?_) | fail)
      · show Perm H (H ++ [])
        rw [List.append_nil]; exact Perm.refl _
      repeat' (first | fail)
      apply hK (k + 1)
      · exact ⟨by omega, fun j h1 h2 => by
          rcases Nat.lt_succ_iff_lt_or_eq.1 h2 with h | rfl
          · exact hz j h1 h
          · exact hFk⟩
      · omega
      · exact zu
      · exact zk
    · rw [if_neg he] at hFk
      rw [decide_eq_false he] at p2
      have hfe := YV (f := F) (r := c.length) (i0 := 0) (i := k) (fun j h1 h2 => hz j h1 h2) (Nat.zero_le _) (by omega) (by rw [hFk]; decide)
      rw [hfe, hFk]
      clear hK
      repeat' (first | apply (zs1 ?_) | apply (zs2 ?_) | (apply (zs17 ?_ ?_) <;> intro _ <;> try (exfalso; omega)) | apply (zs65 ?_) | apply (zs68 ?_) | apply (zs69 ?_) | apply (zs70 ?_) | (apply zg27; refine zs71 ?_) | apply (zs73 ?_) | apply (zs76 ?_) | fail)
      apply YB [0, 1, 2, 3, 4, 5, 6, 7, 8, 9] []
      kernel_rfl
      kernel_rfl
      (simp only [Yk, nthO]; rfl)
      exact rfl
      repeat' (first | apply (zs1 ?_) | (apply zg3; refine zs61 ?_) | (apply zg5; first | refine zs10 ?_ | refine zs57 ?_) | apply (zs87 ?_) | fail)
      first | apply Ya en74 | apply Yb en74
      exact za
      exact rfl
      exact fun _ hw => (p2 (hxi.mono zk) (Vq zm hym (hCl y hym)) hw)
      repeat' (first | apply (zs1 ?_) | apply (zs2 ?_) | (apply zg20; refine zs48 ?_) | apply (zs65 ?_) | (apply Yo; exact zp) | apply (zs68 ?_) | apply (zs69 ?_) | apply (zs70 ?_) | (apply zg27; refine zs71 ?_) | apply (zs74 ?_) | apply (zs77 ?_) | apply (zs78 ?_) | (apply Yl; (repeat (first | with_reducible exact Yh | (with_reducible apply Yf; (repeat (first | with_reducible exact Yg | with_reducible apply Ye)))))) | apply (zs93 ?_) | apply (zs94 ?_) | fail)
      · show Perm H (H ++ [])
        rw [List.append_nil]; exact Perm.refl _
      repeat' (first | fail)
      apply Yi H
      · exact zk
      apply Yp; exact rfl; exact rfl; exact rfl; exact ⟨rfl, rfl⟩
  · obtain rfl : k = C.length := by omega
    have hfe := Y9 (f := F) (r := c.length) (i0 := 0) fun j h1 h2 => hz j h1 (by omega)
    rw [hfe]
    clear hK
    repeat' (first | apply (zs2 ?_) | (apply (zs17 ?_ ?_) <;> intro _ <;> try (exfalso; omega)) | apply (zs65 ?_) | apply (zs68 ?_) | apply (zs69 ?_) | apply (zs70 ?_) | (apply zg27; refine zs72 ?_) | apply (zs74 ?_) | apply (zs75 ?_) | apply (zs80 ?_) | apply (zs81 ?_) | fail)
    apply Yi H
    · exact zk
    apply Yp; exact rfl; exact rfl; exact rfl; exact ⟨rfl, rfl⟩
open Go.RowKit Go.Eng Go.Nw Go.Rt
def wordF : List UInt8 := [102, 108, 111, 119]
def wordR : List UInt8 := [114, 111, 117, 116, 101]
def wordB : List UInt8 := [98, 111, 117, 110, 100]
def wordL : List UInt8 := [115, 108, 111, 116, 115]
def XV (k : Nat) : List UInt8 := if k = 0 then wordF else if k = 1 then wordR else if k = 2 then wordB else wordL
def JK (k : Nat) : Nat := if k = 1 ∨ k = 2 then 2 else 1
def Ua (k : Nat) : Nat := if k = 0 then 1 else if k = 1 then 9 else if k = 2 then 2 else 64
def Xi (k : Nat) : Nat := if k = 0 then 3 else k - 1
def inL (l : List Int) (a b : Int) : Bool := l.all fun x => decide (a ≤ x ∧ x ≤ b)
def rtOk (r l : List Int) : Bool := decide (2 ≤ r.length ∧ r.length ≤ 9) && inL r 0 31 && decide (1 ≤ l.length ∧ l.length ≤ 64) && inL l 0 511
def JB (c : Clm) : Bool := decide (0 ≤ c.flow ∧ c.flow ≤ 255 ∧ 1 ≤ c.routes.length ∧ c.routes.length ≤ 2 ∧ c.bounds.length = c.routes.length ∧ c.worst.length = c.routes.length ∧ c.slots.length = c.routes.length) &&
  inL c.bounds 1 512 && inL c.worst 0 511 && (List.range c.routes.length).all fun i => rtOk (rtAt c.routes i) (rtAt c.slots i)
def YeN (c : List Clm) (i : Nat) : Bool := JB (ZU c i) && (decide (i = 0) || decide ((ZU c (i - 1)).flow < (ZU c i).flow))
def VB (c : List Clm) : Bool := decide (c.length ≤ 16) && (List.range c.length).all (YeN c)
def YdC (c : Clm) (i : Nat) : List (List UInt8) :=
  YO wordR (rtAt c.routes i) :: ((if i < c.bounds.length then [YO wordB [c.bounds.getD i 0, c.worst.getD i 0]] else []) ++ (if i < c.slots.length then [YO wordL (rtAt c.slots i)] else []))
def Zy (c : Clm) : List (List UInt8) := YO wordF [c.flow] :: (List.range c.routes.length).flatMap (YdC c)
def ON (c : List Clm) : List UInt8 := (c.flatMap Zy).flatMap fun p => p ++ [10]
def Ue (c : List Clm) : List UInt8 × Int := if VB c = false then ([], 1) else (ON c, 0)
structure Pst where
  c : List Clm
  last : Nat
def OA (c : List Clm) : Clm := ZU c (c.length - 1)
def Z9 (p : Pst) (k : Nat) : Bool := decide (p.last = Xi k) || (decide (k = 1) && decide (p.last = 3) && decide (0 < p.c.length) && decide ((OA p.c).routes.length < 2))
def Y3 (k : Nat) (l : List Int) (x : Clm) : Clm :=
  if k = 1 then ⟨x.flow, x.routes ++ [l], x.bounds, x.worst, x.slots⟩ else if k = 2 then ⟨x.flow, x.routes, x.bounds ++ [l.getD 0 0], x.worst ++ [l.getD 1 0], x.slots⟩ else ⟨x.flow, x.routes, x.bounds, x.worst, x.slots ++ [l]⟩
def Qf (c : List Clm) (x : Clm) : List Clm := c.take (c.length - 1) ++ [x]
def Z0 (k : Nat) (l : List Int) (c : List Clm) : List Clm := if k = 0 then c ++ [⟨l.getD 0 0, [], [], [], []⟩] else Qf c (Y3 k l (OA c))
def Q0 (p : Pst) (line : List UInt8) (k : Nat) : Option Pst :=
  match J1 (cutC 32 line).tail with
  | none => none
  | some l => if JK k ≤ l.length ∧ l.length ≤ Ua k ∧ Z9 p k = true then some ⟨Z0 k l p.c, k⟩ else none
def Vi (w : List UInt8) : Option Nat := if w = wordF then some 0 else if w = wordR then some 1 else if w = wordB then some 2 else if w = wordL then some 3 else none
def Zn (p : Pst) (line : List UInt8) : Option Pst :=
  match Vi ((cutC 32 line).headD []) with
  | none => none
  | some k => Q0 p line k
def runL : List (List UInt8) → Pst → Option Pst
  | [], p => some p
  | l :: ls, p => match Zn p l with | none => none | some p' => runL ls p'
def startP : Pst := ⟨[], 3⟩
def JD (ls : List (List UInt8)) (k : Nat) : Option Pst := runL (ls.take k) startP
def badL (ls : List (List UInt8)) (i : Nat) : Int := if (JD ls (i + 1)).isNone = true then 3 else 0
def Wv (ls : List (List UInt8)) (k : Nat) : Pst := (JD ls k).getD startP
def Wt (ls : List (List UInt8)) : List Clm × (Int × Int) :=
  if (Yz (badL ls) (ls.length - 1) 0).2 ≠ 0 then ([], Yz (badL ls) (ls.length - 1) 0)
  else if XM ls (ls.length - 1) ≠ [] ∨ (Wv ls (ls.length - 1)).last ≠ 3 then ([], (((ls.length - 1 : Nat) : Int), 3))
  else if VB (Wv ls (ls.length - 1)).c = false then ([], (-1, 1)) else ((Wv ls (ls.length - 1)).c, (-1, 0))
def WY (text : List UInt8) : List Clm × (Int × Int) := Wt (cutC 10 text)
theorem J5 : ∀ (l m : List (List UInt8)) (p : Pst), runL (l ++ m) p = (runL l p).bind (runL m)
  | [], m, p => rfl
  | x :: l, m, p => by
    rw [List.cons_append]
    unfold runL
    cases Zn p x with
    | none => rfl
    | some p' => exact J5 l m p'
theorem Yho {ls : List (List UInt8)} {k : Nat} {p : Pst} (hk : k < ls.length) (h : JD ls k = some p) : JD ls (k + 1) = Zn p (XM ls k) := by
  unfold JD at h ⊢
  rw [Ydk hk, J5, h]
  show runL [XM ls k] p = _
  unfold runL
  cases Zn p (XM ls k) <;> rfl
theorem Yav {k : Nat} (hk : k < 4) : Vi (XV k) = some k ∧ (32 : UInt8) ∉ XV k ∧ (10 : UInt8) ∉ XV k := by
  match k, hk with
  | 0, _ => decide
  | 1, _ => decide
  | 2, _ => decide
  | 3, _ => decide
theorem Uv {p : Pst} {k : Nat} {l : List Int} (hk : k < 4) (hl : ∀ n ∈ l, 0 ≤ n ∧ n < 10000) (h1 : JK k ≤ l.length ∧ l.length ≤ Ua k) (hf : Z9 p k = true) : Zn p (YO (XV k) l) = some ⟨Z0 k l p.c, k⟩ := by
  obtain ⟨w1, w2, _⟩ := Yav hk
  have hr := YfQ w2 hl
  unfold Yaa at hr
  split at hr
  · cases hr
  rename_i h
  have hh : (cutC 32 (YO (XV k) l)).headD [] = XV k := Decidable.byContradiction fun e => h (.inr e)
  unfold Zn
  rw [hh, w1]
  show Q0 p _ k = _
  unfold Q0
  rw [hr]
  show (if _ then _ else _) = _
  rw [if_pos ⟨h1.1, h1.2, hf⟩]
structure Vy (c : Clm) : Prop where
  f : 0 ≤ c.flow ∧ c.flow ≤ 255
  n : 1 ≤ c.routes.length ∧ c.routes.length ≤ 2
  b : c.bounds.length = c.routes.length
  w : c.worst.length = c.routes.length
  s : c.slots.length = c.routes.length
  bs : ∀ x ∈ c.bounds, 1 ≤ x ∧ x ≤ 512
  ws : ∀ x ∈ c.worst, 0 ≤ x ∧ x ≤ 511
  rs : ∀ i, i < c.routes.length → 2 ≤ (rtAt c.routes i).length ∧ (rtAt c.routes i).length ≤ 9 ∧ ∀ x ∈ rtAt c.routes i, 0 ≤ x ∧ x ≤ 31
  ls : ∀ i, i < c.routes.length → 1 ≤ (rtAt c.slots i).length ∧ (rtAt c.slots i).length ≤ 64 ∧ ∀ x ∈ rtAt c.slots i, 0 ≤ x ∧ x ≤ 511
theorem O9 {l : List Int} {a b : Int} : inL l a b = true ↔ ∀ x ∈ l, a ≤ x ∧ x ≤ b := by
  unfold inL; rw [List.all_eq_true]; simp
theorem Yem {c : Clm} : JB c = true ↔ Vy c := by
  unfold JB
  simp only [Bool.and_eq_true, decide_eq_true_eq, O9, List.all_eq_true, List.mem_range]
  constructor
  · rintro ⟨⟨⟨⟨h1, h2, h3, h4, h5, h6, h7⟩, h8⟩, h9⟩, h10⟩
    have hr : ∀ i, i < c.routes.length → _ := fun i hi => h10 i hi
    refine ⟨⟨h1, h2⟩, ⟨h3, h4⟩, h5, h6, h7, h8, h9, fun i hi => ?_, fun i hi => ?_⟩
    · have := hr i hi
      unfold rtOk at this
      simp only [Bool.and_eq_true, decide_eq_true_eq, O9] at this
      exact ⟨this.1.1.1.1, this.1.1.1.2, this.1.1.2⟩
    · have := hr i hi
      unfold rtOk at this
      simp only [Bool.and_eq_true, decide_eq_true_eq, O9] at this
      exact ⟨this.1.2.1, this.1.2.2, this.2⟩
  · intro h
    refine ⟨⟨⟨⟨h.f.1, h.f.2, h.n.1, h.n.2, h.b, h.w, h.s⟩, h.bs⟩, h.ws⟩, fun i hi => ?_⟩
    have h1 := h.rs i hi
    have h2 := h.ls i hi
    unfold rtOk
    simp only [Bool.and_eq_true, decide_eq_true_eq, O9]
    exact ⟨⟨⟨⟨h1.1, h1.2.1⟩, h1.2.2⟩, h2.1, h2.2.1⟩, h2.2.2⟩
theorem Xb (c : List Clm) (x : Clm) : OA (c ++ [x]) = x ∧ ∀ y, Qf (c ++ [x]) y = c ++ [y] := by
  unfold OA Qf ZU
  rw [List.length_append, List.length_singleton, Nat.add_sub_cancel]
  exact ⟨by rw [List.getD_eq_getElem?_getD, List.getElem?_append_right (Nat.le_refl _)]; simp, fun y => by rw [List.take_left' rfl]⟩
theorem Yah {cs : List Clm} {x : Clm} {last : Nat} {r sl : List Int} {b w : Int} (hlast : last = 0 ∨ (last = 3 ∧ x.routes.length < 2)) (hr : 2 ≤ r.length ∧ r.length ≤ 9 ∧ ∀ z ∈ r, 0 ≤ z ∧ z ≤ 31) (hs : 1 ≤ sl.length ∧ sl.length ≤ 64 ∧ ∀ z ∈ sl, 0 ≤ z ∧ z ≤ 511)
    (hb : 1 ≤ b ∧ b ≤ 512) (hw : 0 ≤ w ∧ w ≤ 511) : runL [YO wordR r, YO wordB [b, w], YO wordL sl] ⟨cs ++ [x], last⟩ = some ⟨cs ++ [⟨x.flow, x.routes ++ [r], x.bounds ++ [b], x.worst ++ [w], x.slots ++ [sl]⟩], 3⟩ := by
  have h1 : Zn ⟨cs ++ [x], last⟩ (YO wordR r) = some ⟨cs ++ [Y3 1 r x], 1⟩ := by
    have := Uv (p := ⟨cs ++ [x], last⟩) (k := 1) (l := r) (by omega) (fun n hn => by have := hr.2.2 n hn; omega) ⟨by show 2 ≤ _; exact hr.1, by show _ ≤ 9; exact hr.2.1⟩ (by
      unfold Z9 Xi
      simp only [(Xb cs x).1]
      rcases hlast with rfl | ⟨rfl, h⟩
      · rfl
      · simp [h])
    rw [show XV 1 = wordR from rfl] at this
    rw [this]
    unfold Z0
    rw [if_neg (by decide), (Xb cs x).1, (Xb cs x).2]
  have h2 : ∀ y, Zn ⟨cs ++ [y], 1⟩ (YO wordB [b, w]) = some ⟨cs ++ [Y3 2 [b, w] y], 2⟩ := fun y => by
    have := Uv (p := ⟨cs ++ [y], 1⟩) (k := 2) (l := [b, w]) (by omega) (fun n hn => by
      simp only [List.mem_cons, List.not_mem_nil, or_false] at hn
      rcases hn with rfl | rfl <;> omega) ⟨Nat.le_refl 2, Nat.le_refl 2⟩ rfl
    rw [show XV 2 = wordB from rfl] at this
    rw [this]
    unfold Z0
    rw [if_neg (by decide), (Xb cs y).1, (Xb cs y).2]
  have h3 : ∀ y, Zn ⟨cs ++ [y], 2⟩ (YO wordL sl) = some ⟨cs ++ [Y3 3 sl y], 3⟩ := fun y => by
    have := Uv (p := ⟨cs ++ [y], 2⟩) (k := 3) (l := sl) (by omega) (fun n hn => by have := hs.2.2 n hn; omega) ⟨by show 1 ≤ _; exact hs.1, by show _ ≤ 64; exact hs.2.1⟩ rfl
    rw [show XV 3 = wordL from rfl] at this
    rw [this]
    unfold Z0
    rw [if_neg (by decide), (Xb cs y).1, (Xb cs y).2]
  unfold runL; rw [h1]; dsimp only
  unfold runL; rw [h2]; dsimp only
  unfold runL; rw [h3]; dsimp only
  unfold runL
  rfl
theorem YfX {c : Clm} (h : Vy c) (cs : List Clm) : runL (Zy c) ⟨cs, 3⟩ = some ⟨cs ++ [c], 3⟩ := by
  obtain ⟨fl, rs, bs, ws, ls⟩ := c
  have hf := h.f; have hn := h.n; have hb := h.b; have hw := h.w; have hs := h.s; have hbs := h.bs; have hws := h.ws; have hrs := h.rs; have hls := h.ls
  dsimp only at hf hn hb hw hs hbs hws hrs hls
  have h0 : Zn ⟨cs, 3⟩ (YO wordF [fl]) = some ⟨cs ++ [⟨fl, [], [], [], []⟩], 0⟩ := by
    have := Uv (p := ⟨cs, 3⟩) (k := 0) (l := [fl]) (by omega) (fun n hn => by obtain rfl := List.mem_singleton.1 hn; omega) ⟨Nat.le_refl 1, Nat.le_refl 1⟩ rfl
    rw [show XV 0 = wordF from rfl] at this
    rw [this]; rfl
  unfold Zy
  unfold runL
  rw [h0]
  dsimp only
  match rs, bs, ws, ls, hn, hb, hw, hs, hbs, hws, hrs, hls with
  | [r], [b], [w], [sl], _, _, _, _, hbs, hws, hrs, hls =>
    exact Yah (x := ⟨fl, [], [], [], []⟩) (.inl rfl) (hrs 0 (by simp)) (hls 0 (by simp)) (hbs b (by simp)) (hws w (by simp))
  | [r, r2], [b, b2], [w, w2], [sl, sl2], _, _, _, _, hbs, hws, hrs, hls =>
    show runL ([YO wordR r, YO wordB [b, w], YO wordL sl] ++ [YO wordR r2, YO wordB [b2, w2], YO wordL sl2]) _ = _
    have h1 := Yah (cs := cs) (x := ⟨fl, [], [], [], []⟩) (r := r) (sl := sl) (.inl rfl) (hrs 0 (by simp)) (hls 0 (by simp)) (hbs b (by simp)) (hws w (by simp))
    rw [J5, h1]
    exact Yah (x := ⟨fl, [r], [b], [w], [sl]⟩) (.inr ⟨rfl, by simp⟩) (hrs 1 (by simp)) (hls 1 (by simp)) (hbs b2 (by simp)) (hws w2 (by simp))
theorem Yag : ∀ (l cs : List Clm), (∀ c ∈ l, Vy c) → runL (l.flatMap Zy) ⟨cs, 3⟩ = some ⟨cs ++ l, 3⟩
  | [], cs, _ => by simp [runL]
  | c :: l, cs, h => by
    rw [List.flatMap_cons, J5, YfX (h c (by simp)) cs]
    show runL _ _ = _
    rw [Yag l _ fun x hx => h x (by simp [hx])]
    simp
theorem Yd9 {c : List Clm} {i : Nat} (h : i < c.length) : c[i]? = some (ZU c i) := by
  unfold ZU; rw [List.getD_eq_getElem?_getD, List.getElem?_eq_getElem h]; rfl
theorem Yc9 {c : List Clm} (h : VB c = true) : c.length ≤ 16 ∧ ∀ x ∈ c, Vy x := by
  unfold VB at h
  rw [Bool.and_eq_true, decide_eq_true_eq] at h
  refine ⟨h.1, fun x hx => ?_⟩
  obtain ⟨i, hi⟩ := List.mem_iff_getElem?.1 hx
  have hl := (List.getElem?_eq_some_iff.1 hi).1
  have := List.all_eq_true.1 h.2 i (List.mem_range.2 hl)
  unfold YeN at this
  rw [Bool.and_eq_true] at this
  have e : ZU c i = x := Option.some.inj ((Yd9 hl).symm.trans hi)
  rw [e] at this
  exact Yem.1 this.1
theorem Ur {l : List Int} {i : Nat} (h : i < l.length) : l.getD i 0 ∈ l := by
  rw [List.getD_eq_getElem?_getD, List.getElem?_eq_getElem h]; exact List.getElem_mem h
theorem YfT {c : Clm} (h : Vy c) : ∀ p ∈ Zy c, (10 : UInt8) ∉ p := by
  intro p hp
  unfold Zy at hp
  rcases List.mem_cons.1 hp with rfl | hp
  · exact Uo (by decide) fun n hn => by obtain rfl := List.mem_singleton.1 hn; exact h.f.1
  · obtain ⟨i, hi, hp⟩ := List.mem_flatMap.1 hp
    have hi := List.mem_range.1 hi
    unfold YdC at hp
    rcases List.mem_cons.1 hp with rfl | hp
    · exact Uo (by decide) fun n hn => ((h.rs i hi).2.2 n hn).1
    rcases List.mem_append.1 hp with hp | hp
    · rw [if_pos (by rw [h.b]; exact hi)] at hp
      obtain rfl := List.mem_singleton.1 hp
      refine Uo (by decide) fun n hn => ?_
      simp only [List.mem_cons, List.not_mem_nil, or_false] at hn
      rcases hn with rfl | rfl
      · have := h.bs _ (Ur (l := c.bounds) (i := i) (by rw [h.b]; exact hi)); omega
      · exact (h.ws _ (Ur (l := c.worst) (i := i) (by rw [h.w]; exact hi))).1
    · rw [if_pos (by rw [h.s]; exact hi)] at hp
      obtain rfl := List.mem_singleton.1 hp
      exact Uo (by decide) fun n hn => ((h.ls i hi).2.2 n hn).1
theorem Yft {c : List Clm} (h : ∀ x ∈ c, Vy x) : cutC 10 (ON c) = c.flatMap Zy ++ [[]] := by
  unfold ON
  rw [← QW]
  refine QD (by simp) fun p hp => ?_
  rcases List.mem_append.1 hp with hp | hp
  · obtain ⟨x, hx, hp⟩ := List.mem_flatMap.1 hp
    exact YfT (h x hx) p hp
  · obtain rfl := List.mem_singleton.1 hp
    exact List.not_mem_nil
theorem Yci {c : List Clm} (h : VB c = true) : WY (ON c) = (c, (-1, 0)) := by
  obtain ⟨h1, h2⟩ := Yc9 h
  obtain ⟨ls, hls⟩ : ∃ ls, c.flatMap Zy = ls := ⟨_, rfl⟩
  have hrun : runL ls startP = some ⟨c, 3⟩ := by rw [← hls]; exact Yag c [] h2
  have hl : (ls ++ [[]]).length - 1 = ls.length := by simp
  have hat : JD (ls ++ [[]]) ls.length = some ⟨c, 3⟩ := by unfold JD; rw [List.take_left' rfl]; exact hrun
  have hbad : (Yz (badL (ls ++ [[]])) ls.length 0).2 = 0 := Y2.2 fun k _ hk => by
    unfold badL JD
    have h4 : runL (ls.take (k + 1)) startP ≠ none := fun e => by
      have : runL (ls.take (k + 1) ++ ls.drop (k + 1)) startP = some ⟨c, 3⟩ := by rw [List.take_append_drop]; exact hrun
      rw [J5, e] at this
      cases this
    rw [List.take_append_of_le_length (by omega)]
    cases hr : runL (ls.take (k + 1)) startP with
    | none => exact absurd hr h4
    | some p => rfl
  have hlast : XM (ls ++ [[]]) ls.length = [] := by
    unfold XM
    rw [List.getD_eq_getElem?_getD, List.getElem?_append_right (Nat.le_refl _)]
    simp
  unfold WY Wt
  rw [Yft h2, hls, hl, if_neg (fun e => e hbad), hlast]
  unfold Wv
  rw [hat, if_neg (by rintro (e | e) <;> exact e rfl), Option.getD_some, if_neg (by rw [h]; decide)]
structure Rdr (p : Pst) : Prop where
  full : ∀ i x, p.c[i]? = some x → i + 1 < p.c.length → x.bounds.length = x.routes.length ∧ x.worst.length = x.routes.length ∧ x.slots.length = x.routes.length ∧ 1 ≤ x.routes.length ∧ x.routes.length ≤ 2
  some_ : p.c = [] → p.last = 3
  at_ : ∀ cs x, p.c = cs ++ [x] →
    (p.last = 0 ∧ x.routes = [] ∧ x.bounds = [] ∧ x.worst = [] ∧ x.slots = []) ∨
    (p.last = 1 ∧ 1 ≤ x.routes.length ∧ x.routes.length ≤ 2 ∧ x.bounds.length + 1 = x.routes.length ∧ x.worst.length + 1 = x.routes.length ∧ x.slots.length + 1 = x.routes.length) ∨
    (p.last = 2 ∧ 1 ≤ x.routes.length ∧ x.routes.length ≤ 2 ∧ x.bounds.length = x.routes.length ∧ x.worst.length = x.routes.length ∧ x.slots.length + 1 = x.routes.length) ∨
    (p.last = 3 ∧ 1 ≤ x.routes.length ∧ x.routes.length ≤ 2 ∧ x.bounds.length = x.routes.length ∧ x.worst.length = x.routes.length ∧ x.slots.length = x.routes.length)
theorem YfF {w : List UInt8} {k : Nat} (h : Vi w = some k) : k < 4 ∧ w = XV k := by
  unfold Vi at h
  split at h
  · rename_i e; cases h; exact ⟨by omega, e⟩
  split at h
  · rename_i e; cases h; exact ⟨by omega, e⟩
  split at h
  · rename_i e; cases h; exact ⟨by omega, e⟩
  split at h
  · rename_i e; cases h; exact ⟨by omega, e⟩
  cases h
theorem Yby {p p' : Pst} {line : List UInt8} (h : Zn p line = some p') : ∃ k l, k < 4 ∧ line = YO (XV k) l ∧ JK k ≤ l.length ∧ l.length ≤ Ua k ∧ Z9 p k = true ∧ p' = ⟨Z0 k l p.c, k⟩ := by
  unfold Zn at h
  split at h
  · cases h
  rename_i k hk
  obtain ⟨hk4, hw⟩ := YfF hk
  unfold Q0 at h
  split at h
  · cases h
  rename_i l hl
  split at h
  · rename_i hc
    refine ⟨k, l, hk4, ?_, hc.1, hc.2.1, hc.2.2, (Option.some.inj h).symm⟩
    have hll : l.length = (cutC 32 line).length - 1 := by
      unfold J1 at hl
      split at hl
      · cases hl
      · have := Option.some.inj hl
        rw [← this, List.length_map, List.length_tail]
    have hne := WL 32 line
    have hpos : 1 ≤ (cutC 32 line).length := by
      cases hx : cutC 32 line with
      | nil => exact absurd hx hne
      | cons _ _ => simp
    have hr : Yaa line (XV k) l.length = some l := by
      unfold Yaa
      rw [if_neg (by rintro (e | e) <;> first | exact absurd hw e | omega)]
      exact hl
    exact (YfR hr).1
  · cases h
theorem WC {α : Type} {l : List α} (h : l ≠ []) : ∃ cs x, l = cs ++ [x] := ⟨l.dropLast, l.getLast h, (List.dropLast_concat_getLast h).symm⟩
theorem Rdr.start : Rdr startP := ⟨fun i x h => by simp [startP] at h, fun _ => rfl, fun cs x h => by simp [startP] at h⟩
theorem Yfz {cs : List Clm} {x y : Clm} {P : Clm → Prop} (h : ∀ i z, (cs ++ [x])[i]? = some z → i + 1 < (cs ++ [x]).length → P z) : ∀ i z, (cs ++ [y])[i]? = some z → i + 1 < (cs ++ [y]).length → P z := fun i z hz hi => by
  rw [List.length_append, List.length_singleton] at hi
  rw [List.getElem?_append_left (by omega)] at hz
  exact h i z (by rw [List.getElem?_append_left (by omega)]; exact hz) (by rw [List.length_append, List.length_singleton]; omega)
theorem le12 : 1 ≤ 2 := by decide
theorem Yhq {p p' : Pst} {line : List UInt8} (h : Rdr p) (hl : Zn p line = some p') : Rdr p' ∧ p'.c.flatMap Zy = p.c.flatMap Zy ++ [line] := by
  obtain ⟨k, l, hk, rfl, hl1, hl2, hf, rfl⟩ := Yby hl
  obtain ⟨c, last⟩ := p
  have hfull := h.full; have hsome := h.some_; have hat := h.at_
  dsimp only at hfull hsome hat hf ⊢
  have hone : ∀ {cs cs' : List Clm} {x x' : Clm}, cs ++ [x] = cs' ++ [x'] → x = x' := fun e => by
    have := (List.append_inj' e rfl).2; simpa using this
  match k, hk with
  | 0, _ =>
    have hl3 : last = 3 := by
      unfold Z9 at hf
      simpa [Xi] using hf
    subst hl3
    match l, hl1, hl2 with
    | [f], _, _ =>
      have e : Z0 0 [f] c = c ++ [⟨f, [], [], [], []⟩] := rfl
      rw [e]
      refine ⟨⟨fun i x hx hi => ?_, fun e => by simp at e, fun cs x he => ?_⟩, by rw [List.flatMap_append]; simp [Zy, XV]⟩
      · dsimp only at hx hi
        rw [List.length_append, List.length_singleton] at hi
        rw [List.getElem?_append_left (by omega)] at hx
        by_cases hi2 : i + 1 < c.length
        · exact hfull i x hx hi2
        · obtain ⟨cs, y, hc⟩ := WC (l := c) (fun e => by rw [e] at hi; simp at hi)
          have hcl : c.length = cs.length + 1 := by rw [hc]; simp
          rw [hc, List.getElem?_append_right (by omega), show i - cs.length = 0 by omega] at hx
          obtain rfl := Option.some.inj hx
          rcases hat cs y hc with h | h | h | h
          · omega
          · omega
          · omega
          · exact ⟨h.2.2.2.1, h.2.2.2.2.1, h.2.2.2.2.2, h.2.1, h.2.2.1⟩
      · dsimp only at he
        obtain rfl := hone he
        exact .inl ⟨rfl, rfl, rfl, rfl, rfl⟩
  | k + 1, hk =>
    have hne : c ≠ [] := fun e => by
      have h3 := hsome e
      subst h3; subst e
      unfold Z9 Xi at hf
      simp at hf
      omega
    obtain ⟨cs, x, rfl⟩ := WC hne
    have e : Z0 (k + 1) l (cs ++ [x]) = cs ++ [Y3 (k + 1) l x] := by
      unfold Z0
      rw [if_neg (by omega), (Xb cs x).1, (Xb cs x).2]
    rw [e]
    have hx := hat cs x rfl
    have key : (∀ cs' x', cs ++ [Y3 (k + 1) l x] = cs' ++ [x'] → x' = Y3 (k + 1) l x) := fun cs' x' he => (hone he).symm
    suffices hs : Zy (Y3 (k + 1) l x) = Zy x ++ [YO (XV (k + 1)) l] ∧
        ((k + 1 = 1 ∧ 1 ≤ (Y3 (k + 1) l x).routes.length ∧ (Y3 (k + 1) l x).routes.length ≤ 2 ∧ (Y3 (k + 1) l x).bounds.length + 1 = (Y3 (k + 1) l x).routes.length ∧ (Y3 (k + 1) l x).worst.length + 1 = (Y3 (k + 1) l x).routes.length ∧ (Y3 (k + 1) l x).slots.length + 1 = (Y3 (k + 1) l x).routes.length) ∨
        (k + 1 = 2 ∧ 1 ≤ (Y3 (k + 1) l x).routes.length ∧ (Y3 (k + 1) l x).routes.length ≤ 2 ∧ (Y3 (k + 1) l x).bounds.length = (Y3 (k + 1) l x).routes.length ∧ (Y3 (k + 1) l x).worst.length = (Y3 (k + 1) l x).routes.length ∧ (Y3 (k + 1) l x).slots.length + 1 = (Y3 (k + 1) l x).routes.length) ∨
        (k + 1 = 3 ∧ 1 ≤ (Y3 (k + 1) l x).routes.length ∧ (Y3 (k + 1) l x).routes.length ≤ 2 ∧ (Y3 (k + 1) l x).bounds.length = (Y3 (k + 1) l x).routes.length ∧ (Y3 (k + 1) l x).worst.length = (Y3 (k + 1) l x).routes.length ∧ (Y3 (k + 1) l x).slots.length = (Y3 (k + 1) l x).routes.length)) by
      refine ⟨⟨Yfz hfull, fun e => by simp at e, fun cs' x' he => .inr ?_⟩, ?_⟩
      · rw [key cs' x' he]; exact hs.2
      · rw [List.flatMap_append, List.flatMap_append, List.append_assoc]
        simp [hs.1]
    obtain ⟨fl, rs, bs, ws, ss⟩ := x
    dsimp only at hx
    match k, hk with
    | 0, _ =>
      have hc : (last = 0 ∧ rs = [] ∧ bs = [] ∧ ws = [] ∧ ss = []) ∨ (last = 3 ∧ rs.length = 1 ∧ bs.length = 1 ∧ ws.length = 1 ∧ ss.length = 1) := by
        unfold Z9 Xi at hf
        simp only [(Xb cs _).1] at hf
        simp at hf
        rcases hx with h | h | h | h
        · exact .inl h
        · omega
        · omega
        · exact .inr (by omega)
      rcases hc with ⟨_, rfl, rfl, rfl, rfl⟩ | ⟨_, h1, h2, h3, h4⟩
      · exact ⟨rfl, .inl ⟨rfl, Nat.le_refl 1, le12, rfl, rfl, rfl⟩⟩
      · match rs, bs, ws, ss, h1, h2, h3, h4 with
        | [r], [b], [w], [s], _, _, _, _ => exact ⟨rfl, .inl ⟨rfl, le12, Nat.le_refl 2, rfl, rfl, rfl⟩⟩
    | 1, _ =>
      have hc : last = 1 := by
        unfold Z9 Xi at hf
        simpa using hf
      have hx : 1 ≤ rs.length ∧ rs.length ≤ 2 ∧ bs.length + 1 = rs.length ∧ ws.length + 1 = rs.length ∧ ss.length + 1 = rs.length := by
        rcases hx with h | h | h | h <;> first | exact h.2 | omega
      match l, hl1, hl2 with
      | [b, w], _, _ =>
        match rs, bs, ws, ss, hx with
        | [r], [], [], [], _ => exact ⟨rfl, .inr (.inl ⟨rfl, Nat.le_refl 1, le12, rfl, rfl, rfl⟩)⟩
        | [r, r2], [b0], [w0], [s0], _ => exact ⟨rfl, .inr (.inl ⟨rfl, le12, Nat.le_refl 2, rfl, rfl, rfl⟩)⟩
    | 2, _ =>
      have hc : last = 2 := by
        unfold Z9 Xi at hf
        simpa using hf
      have hx : 1 ≤ rs.length ∧ rs.length ≤ 2 ∧ bs.length = rs.length ∧ ws.length = rs.length ∧ ss.length + 1 = rs.length := by
        rcases hx with h | h | h | h <;> first | exact h.2 | omega
      match rs, bs, ws, ss, hx with
      | [r], [b], [w], [], _ => exact ⟨rfl, .inr (.inr ⟨rfl, Nat.le_refl 1, le12, rfl, rfl, rfl⟩)⟩
      | [r, r2], [b, b2], [w, w2], [s0], _ => exact ⟨rfl, .inr (.inr ⟨rfl, le12, Nat.le_refl 2, rfl, rfl, rfl⟩)⟩
theorem Yfa : ∀ (ls : List (List UInt8)) {p p' : Pst}, Rdr p → runL ls p = some p' → Rdr p' ∧ p'.c.flatMap Zy = p.c.flatMap Zy ++ ls
  | [], p, p', h, hr => by
    cases hr
    exact ⟨h, by simp⟩
  | l :: ls, p, p', h, hr => by
    unfold runL at hr
    cases hl : Zn p l with
    | none => rw [hl] at hr; cases hr
    | some q =>
      rw [hl] at hr
      obtain ⟨h1, h2⟩ := Yhq h hl
      obtain ⟨h3, h4⟩ := Yfa ls h1 hr
      exact ⟨h3, by rw [h4, h2]; simp⟩
open Go.RowKit Go.Eng Go.Nw Go.Rt
theorem YaF (z a b : Int) (ga gb : Nat) {B : Nat} {w0 : World} {H : List HP} {w : World} (h1 : blk ga (.cells #[.int .i64 a] 3 (0, 0)) ∈ H) (h2 : blk gb (.cells #[.int .i64 b] 3 (0, 0)) ∈ H) (hw : St B w0 H w) :
    Calls Tryz.prog 238 [.int .i64 z, .pointer (some ⟨ga, 0, none⟩), .pointer (some ⟨gb, 0, none⟩)].toArray w (Post B w0 fun v K => v = .bool (!decide (a ≤ z ∧ z ≤ b)) ∧ K = H) := by
  refine Yc Tryz.func238 Tryz.ntmps238 rfl rfl hw ?_
  by_cases h : a ≤ z ∧ z ≤ b
  · rw [decide_eq_true h]
    repeat' (first | apply (zs1 ?_) | apply (zs2 ?_) | (apply zg1; refine zs4 ?_) | (apply zg3; refine zs7 ?_) | (apply zg6; refine zs12 ?_) | (apply (zs17 ?_ ?_) <;> intro _ <;> try (exfalso; omega)) | (apply (zs19 ?_ ?_) <;> intro _ <;> try (exfalso; omega)) | apply (zs65 ?_) | apply (zs68 ?_) | apply (zs69 ?_) | apply (zs70 ?_) | apply (zs74 ?_) | fail)
    apply Yd; exact rfl; exact rfl; exact ⟨rfl, rfl⟩
  · rw [decide_eq_false h]
    repeat' (first | apply (zs1 ?_) | apply (zs2 ?_) | (apply zg1; first | refine zs3 ?_ | refine zs4 ?_) | (apply zg3; refine zs7 ?_) | (apply zg6; first | refine zs11 ?_ | refine zs12 ?_) | (apply (zs17 ?_ ?_) <;> intro _ <;> try (exfalso; omega)) | (apply (zs19 ?_ ?_) <;> intro _ <;> try (exfalso; omega)) | apply (zs65 ?_) | apply (zs68 ?_) | apply (zs69 ?_) | apply (zs70 ?_) | apply (zs74 ?_) | fail)
    all_goals (apply Yd; exact rfl; exact rfl; exact ⟨rfl, rfl⟩)
theorem Jd (l : List Int) (a b : Int) (hl : l.length ≤ 1000000000000) {A : Option Addr} {cap B : Nat} {w0 : World} {H : List HP} {w : World} (hr : Rd B w0 H A (l.flatMap numF)) (hw : St B w0 H w) :
    Calls Tryz.prog 195 [.slice A l.length cap, .int .i64 a, .int .i64 b].toArray w (Post B w0 fun v K => v = .bool (inL l a b) ∧ K = H) := by
  refine Yc Tryz.func195 Tryz.ntmps195 rfl rfl hw ?_
  have e1 : inL l a b = !(l.any fun z => !decide (a ≤ z ∧ z ≤ b)) := by
    unfold inL
    rw [List.not_any_eq_all_not]
    exact congrArg _ (funext fun z => (Bool.not_not _).symm)
  rw [e1]
  obtain ⟨o, ho⟩ : ∃ o, (l.any fun z => !decide (a ≤ z ∧ z ≤ b)) = o := ⟨_, rfl⟩
  rw [ho]
  repeat' (first | apply (zs1 ?_) | apply (zs2 ?_) | (apply zg23; (refine zs53 ?_; intro _)) | apply (zs65 ?_) | apply (zs68 ?_) | apply (zs69 ?_) | apply (zs70 ?_) | (apply zg29; (apply Ys; exact za ; exact rfl)) | fail)
  rename_i ga gb
  have p1 : ∀ w, St B w0 (blk gb (.cells #[.int .i64 b] 3 (0, 0)) :: blk ga (.cells #[.int .i64 a] 3 (0, 0)) :: H) w → Calls Tryz.prog 164 [.slice A l.length cap, .func (.func 238) #[] [Value.pointer (some ⟨ga, 0, none⟩), Value.pointer (some ⟨gb, 0, none⟩)].toArray].toArray w (Post B w0 fun v K => v = .bool o ∧ K = blk gb (.cells #[.int .i64 b] 3 (0, 0)) :: blk ga (.cells #[.int .i64 a] 3 (0, 0)) :: H) := fun w hw => by
    have h := JQ (fun z => Value.int .i64 z) (fun z => !decide (a ≤ z ∧ z ≤ b)) l 238 [.pointer (some ⟨ga, 0, none⟩), .pointer (some ⟨gb, 0, none⟩)] Yj0 (by omega) (cap := cap) (show Rd B w0 _ A (l.flatMap numF) from hr.cons.cons) (fun z _ w hw => YaF z a b ga gb (.tail _ (.head _)) (.head _) hw) hw
    rw [ho] at h
    exact h
  cases o <;> (
    first | apply Ya YeV | apply Yb YeV
    exact za
    exact rfl
    exact fun _ hw => (p1 _ hw)
    repeat' (first | apply (zs2 ?_) | (apply zg20; first | refine zs47 ?_ | refine zs48 ?_) | apply (zs65 ?_) | apply (zs68 ?_) | apply (zs74 ?_) | fail)
    apply Yi H
    · exact zk
    apply Yd; exact rfl; exact rfl; exact ⟨rfl, rfl⟩)
theorem Ux {rs : List RowM} {k : Nat} {r : RowM} (h : rs[k]? = some r) : rtAt (rs.map (·.xs)) k = r.xs := by
  have h2 : (rs.map (·.xs))[k]? = some r.xs := by rw [List.getElem?_map, h]; rfl
  exact Option.some.inj ((YbF (List.getElem?_eq_some_iff.1 h2).1).symm.trans h2)
set_option maxRecDepth 10000 in
set_option maxHeartbeats 8000000 in
theorem Yb2 (c : ClM) {B : Nat} {w0 : World} {H : List HP} {w : World} (hc : c.In B w0 H) (hw : St B w0 H w) :
    Calls Tryz.prog 135 [clV c].toArray w (Post B w0 fun v K => v = .bool (JB c.clm) ∧ K = H) := by
  refine Yc Tryz.func135 Tryz.ntmps135 rfl rfl hw ?_
  obtain ⟨hl1, hl2, hl3, hl4⟩ := hc.ln
  have q1 := fun {H' : List HP} {w : World} (hc : c.In B w0 H') (hw : St B w0 H' w) => Jd c.bs 1 512 hl2 (cap := c.bcap) hc.bd hw
  have q2 := fun {H' : List HP} {w : World} (hc : c.In B w0 H') (hw : St B w0 H' w) => Jd c.ws 0 511 hl3 (cap := c.wcap) hc.ws hw
  obtain ⟨F, hF⟩ : ∃ F, JB c.clm = F := ⟨_, rfl⟩
  have hFe : F = (decide (0 ≤ c.flow ∧ c.flow ≤ 255 ∧ 1 ≤ c.rs.length ∧ c.rs.length ≤ 2 ∧ c.bs.length = c.rs.length ∧ c.ws.length = c.rs.length ∧ c.ss.length = c.rs.length) && inL c.bs 1 512 && inL c.ws 0 511 && (List.range c.rs.length).all fun i => rtOk (rtAt (c.rs.map (·.xs)) i) (rtAt (c.ss.map (·.xs)) i)) := by
    rw [← hF]
    unfold JB ClM.clm
    simp only [List.length_map]
  rw [hF]
  unfold clV
  obtain ⟨b1, hb1⟩ : ∃ b, inL c.bs 1 512 = b := ⟨_, rfl⟩
  obtain ⟨b2, hb2⟩ : ∃ b, inL c.ws 0 511 = b := ⟨_, rfl⟩
  rw [hb1] at q1 hFe
  rw [hb2] at q2 hFe
  by_cases hP : 0 ≤ c.flow ∧ c.flow ≤ 255 ∧ 1 ≤ c.rs.length ∧ c.rs.length ≤ 2 ∧ c.bs.length = c.rs.length ∧ c.ws.length = c.rs.length ∧ c.ss.length = c.rs.length
  rotate_left
  · rw [decide_eq_false hP] at hFe
    simp only [Bool.false_and] at hFe
    subst hFe
    repeat' (first | apply (zs1 ?_) | apply (zs2 ?_) | (apply zg1; first | refine zs3 ?_ | refine zs4 ?_) | (apply zg2; refine zs6 ?_) | (apply zg3; refine zs7 ?_) | (apply zg4; refine zs9 ?_) | (apply zg6; first | refine zs11 ?_ | refine zs12 ?_) | (apply zg8; (refine zs16 ?_ ?_ <;> intro _ <;> try (exfalso; omega))) | (apply (zs17 ?_ ?_) <;> intro _ <;> try (exfalso; omega)) | (apply (zs19 ?_ ?_) <;> intro _ <;> try (exfalso; omega)) | (apply zg23; (refine zs52 ?_; intro _)) | apply (zs65 ?_) | apply (zs68 ?_) | apply (zs69 ?_) | apply (zs70 ?_) | (apply zg27; refine zs71 ?_) | apply (zs74 ?_) | apply (zs77 ?_) | fail)
    all_goals (
      apply Yi H
      · exact zk
      apply Yd; exact rfl; exact rfl; exact ⟨rfl, rfl⟩)
  rw [decide_eq_true hP, Bool.true_and] at hFe
  obtain ⟨f0, f1, n1, n2, e1, e2, e3⟩ := hP
  cases b1 with
  | false =>
    simp only [Bool.false_and] at hFe
    subst hFe
    repeat' (first | apply (zs1 ?_) | apply (zs2 ?_) | (apply zg1; refine zs4 ?_) | (apply zg2; refine zs6 ?_) | (apply zg3; refine zs7 ?_) | (apply zg4; refine zs9 ?_) | (apply zg6; refine zs12 ?_) | (apply zg8; (refine zs16 ?_ ?_ <;> intro _ <;> try (exfalso; omega))) | (apply (zs17 ?_ ?_) <;> intro _ <;> try (exfalso; omega)) | (apply (zs19 ?_ ?_) <;> intro _ <;> try (exfalso; omega)) | (apply zg23; (refine zs52 ?_; intro _)) | apply (zs65 ?_) | apply (zs68 ?_) | apply (zs69 ?_) | apply (zs70 ?_) | fail)
    first | apply Ya XU | apply Yb XU
    exact za
    exact rfl
    exact fun _ hw => (q1 (hc.mono zk) hw)
    repeat' (first | apply (zs1 ?_) | apply (zs2 ?_) | (apply zg1; first | refine zs3 ?_ | refine zs4 ?_) | (apply zg6; first | refine zs11 ?_ | refine zs12 ?_) | (apply zg20; refine zs48 ?_) | apply (zs65 ?_) | apply (zs68 ?_) | apply (zs69 ?_) | apply (zs70 ?_) | (apply zg27; refine zs71 ?_) | apply (zs74 ?_) | apply (zs77 ?_) | fail)
    apply Yi H
    · exact zk
    apply Yd; exact rfl; exact rfl; exact ⟨rfl, rfl⟩
  | true =>
  cases b2 with
  | false =>
    simp only [Bool.false_and, Bool.and_false] at hFe
    subst hFe
    repeat' (first | apply (zs1 ?_) | apply (zs2 ?_) | (apply zg1; refine zs4 ?_) | (apply zg2; refine zs6 ?_) | (apply zg3; refine zs7 ?_) | (apply zg4; refine zs9 ?_) | (apply zg6; refine zs12 ?_) | (apply zg8; (refine zs16 ?_ ?_ <;> intro _ <;> try (exfalso; omega))) | (apply (zs17 ?_ ?_) <;> intro _ <;> try (exfalso; omega)) | (apply (zs19 ?_ ?_) <;> intro _ <;> try (exfalso; omega)) | (apply zg23; (refine zs52 ?_; intro _)) | apply (zs65 ?_) | apply (zs68 ?_) | apply (zs69 ?_) | apply (zs70 ?_) | fail)
    first | apply Ya XU | apply Yb XU
    exact za
    exact rfl
    exact fun _ hw => (q1 (hc.mono zk) hw)
    repeat' (first | apply (zs1 ?_) | (apply zg1; refine zs4 ?_) | (apply zg2; refine zs6 ?_) | (apply zg3; refine zs7 ?_) | (apply zg6; refine zs12 ?_) | (apply zg20; refine zs47 ?_) | fail)
    first | apply Ya XU | apply Yb XU
    exact za
    exact rfl
    exact fun _ hw => (q2 (hc.mono zk) hw)
    repeat' (first | apply (zs2 ?_) | (apply zg1; refine zs4 ?_) | (apply zg6; refine zs12 ?_) | (apply zg20; refine zs48 ?_) | apply (zs65 ?_) | apply (zs68 ?_) | apply (zs69 ?_) | apply (zs70 ?_) | (apply zg27; refine zs71 ?_) | apply (zs74 ?_) | apply (zs77 ?_) | fail)
    apply Yi H
    · exact zk
    apply Yd; exact rfl; exact rfl; exact ⟨rfl, rfl⟩
  | true =>
  simp only [Bool.true_and] at hFe
  repeat' (first | apply (zs1 ?_) | apply (zs2 ?_) | (apply zg1; refine zs4 ?_) | (apply zg2; refine zs6 ?_) | (apply zg3; refine zs7 ?_) | (apply zg4; refine zs9 ?_) | (apply zg6; refine zs12 ?_) | (apply zg8; (refine zs16 ?_ ?_ <;> intro _ <;> try (exfalso; omega))) | (apply (zs17 ?_ ?_) <;> intro _ <;> try (exfalso; omega)) | (apply (zs19 ?_ ?_) <;> intro _ <;> try (exfalso; omega)) | (apply zg23; (refine zs52 ?_; intro _)) | apply (zs65 ?_) | apply (zs68 ?_) | apply (zs69 ?_) | apply (zs70 ?_) | fail)
  rename_i g _ _ _ _ _ _ _
  first | apply Ya XU | apply Yb XU
  exact za
  exact rfl
  exact fun _ hw => (q1 (hc.mono zk) hw)
  repeat' (first | apply (zs1 ?_) | (apply zg1; refine zs4 ?_) | (apply zg2; refine zs6 ?_) | (apply zg3; refine zs7 ?_) | (apply zg6; refine zs12 ?_) | (apply zg20; refine zs47 ?_) | fail)
  first | apply Ya XU | apply Yb XU
  exact za
  exact rfl
  exact fun _ hw => (q2 (hc.mono zk) hw)
  repeat' (first | apply (zs1 ?_) | (apply zg1; refine zs4 ?_) | (apply zg2; refine zs6 ?_) | (apply zg3; refine zs7 ?_) | (apply zg4; refine zs9 ?_) | (apply zg6; refine zs12 ?_) | (apply zg20; refine zs47 ?_) | apply (zs65 ?_) | apply (zs68 ?_) | apply (zs69 ?_) | apply (zs70 ?_) | (apply zg27; refine zs72 ?_) | apply (zs73 ?_) | apply (zs76 ?_) | fail)
  obtain ⟨ok, hok⟩ : ∃ ok : Nat → Bool, (fun i => rtOk (rtAt (c.rs.map (·.xs)) i) (rtAt (c.ss.map (·.xs)) i)) = ok := ⟨_, rfl⟩
  rw [hok] at hFe
  refine Yj (fun k : Nat => [(61, .int .i64 (k : Nat)), (60, .int .i64 c.rs.length), (59, .slice c.rA c.rs.length c.rcap), (1, .pointer (some ⟨g, 0, none⟩))]) (fun _ => clA g c :: H) (fun k => k ≤ c.rs.length ∧ ∀ j, j < k → ok j = true) (fun k => c.rs.length - k) 0 ⟨Nat.zero_le _, fun j h => absurd h (Nat.not_lt_zero _)⟩ ?_ (fun w hw => hw) ?_
  · exact zu
  rintro k ⟨hk, hz⟩ K hK
  have hcr : Rd B w0 (clA g c :: H) c.rA (c.rs.flatMap rowF) := hc.rt.cons
  have hcs : Rd B w0 (clA g c :: H) c.sA (c.ss.flatMap rowF) := hc.st.cons
  by_cases hlt : k < c.rs.length
  rotate_left
  · obtain rfl : k = c.rs.length := by omega
    have hFt : F = true := by
      rw [hFe, List.all_eq_true]
      exact fun j hj => hz j (List.mem_range.1 hj)
    subst hFt
    clear hK
    repeat' (first | apply (zs2 ?_) | (apply (zs17 ?_ ?_) <;> intro _ <;> try (exfalso; omega)) | apply (zs65 ?_) | apply (zs68 ?_) | apply (zs69 ?_) | apply (zs70 ?_) | (apply zg27; refine zs72 ?_) | apply (zs74 ?_) | apply (zs75 ?_) | apply (zs80 ?_) | apply (zs81 ?_) | fail)
    apply Yi H
    · exact zk
    apply Yd; exact rfl; exact rfl; exact ⟨rfl, rfl⟩
  obtain ⟨r, hr⟩ : ∃ r, c.rs[k]? = some r := ⟨_, List.getElem?_eq_getElem hlt⟩
  obtain ⟨z, hzz⟩ : ∃ z, c.ss[k]? = some z := ⟨_, List.getElem?_eq_getElem (by omega)⟩
  have hrm := List.mem_of_getElem? hr
  have hzm := List.mem_of_getElem? hzz
  have hkk : ok k = rtOk r.xs z.xs := by rw [← hok]; show rtOk (rtAt _ _) (rtAt _ _) = _; rw [Ux hr, Ux hzz]
  unfold rtOk at hkk
  have hrl := hc.rl r hrm
  have hzl := hc.sl z hzm
  have q3 := fun {H' : List HP} {w : World} (hc : c.In B w0 H') (hw : St B w0 H' w) => Jd r.xs 0 31 hrl (cap := r.cap) (hc.rw_ r hrm) hw
  have q4 := fun {H' : List HP} {w : World} (hc : c.In B w0 H') (hw : St B w0 H' w) => Jd z.xs 0 511 hzl (cap := z.cap) (hc.sw z hzm) hw
  obtain ⟨b3, hb3⟩ : ∃ b, inL r.xs 0 31 = b := ⟨_, rfl⟩
  obtain ⟨b4, hb4⟩ : ∃ b, inL z.xs 0 511 = b := ⟨_, rfl⟩
  rw [hb3] at q3 hkk
  rw [hb4] at q4 hkk
  have hno : ok k = false → F = false := fun h => by
    rw [hFe, List.all_eq_false]
    exact ⟨k, List.mem_range.2 hlt, by rw [h]; decide⟩
  by_cases hA : 2 ≤ r.xs.length ∧ r.xs.length ≤ 9
  rotate_left
  · rw [decide_eq_false hA] at hkk
    have hFf := hno (by rw [hkk]; rfl)
    subst hFf
    clear hK
    repeat' (first | apply (zs1 ?_) | apply (zs2 ?_) | (apply zg1; first | refine zs3 ?_ | refine zs4 ?_) | (apply zg3; refine zs60 ?_) | (apply zg4; refine zs9 ?_) | (apply zg5; refine zs57 ?_) | (apply zg6; first | refine zs11 ?_ | refine zs12 ?_) | (apply (zs17 ?_ ?_) <;> intro _ <;> try (exfalso; omega)) | (apply (zs19 ?_ ?_) <;> intro _ <;> try (exfalso; omega)) | apply (zs65 ?_) | apply (zs68 ?_) | apply (zs69 ?_) | apply (zs70 ?_) | (apply zg27; refine zs71 ?_) | apply (zs73 ?_) | apply (zs74 ?_) | apply (zs76 ?_) | apply (zs77 ?_) | apply (zs78 ?_) | fail)
    all_goals (
      apply Yi H
      · exact zk
      apply Yd; exact rfl; exact rfl; exact ⟨rfl, rfl⟩)
  rw [decide_eq_true hA] at hkk
  cases b3 with
  | false =>
    have hFf := hno (by rw [hkk]; rfl)
    subst hFf
    clear hK
    repeat' (first | apply (zs1 ?_) | apply (zs2 ?_) | (apply zg1; refine zs4 ?_) | (apply zg3; refine zs60 ?_) | (apply zg4; refine zs9 ?_) | (apply zg5; refine zs57 ?_) | (apply zg6; refine zs12 ?_) | (apply (zs17 ?_ ?_) <;> intro _ <;> try (exfalso; omega)) | (apply (zs19 ?_ ?_) <;> intro _ <;> try (exfalso; omega)) | apply (zs65 ?_) | apply (zs68 ?_) | apply (zs69 ?_) | apply (zs70 ?_) | (apply zg27; refine zs71 ?_) | apply (zs73 ?_) | apply (zs76 ?_) | fail)
    first | apply Ya XU | apply Yb XU
    exact za
    exact rfl
    exact fun _ hw => (q3 (hc.mono zk) hw)
    repeat' (first | apply (zs1 ?_) | apply (zs2 ?_) | (apply zg1; first | refine zs3 ?_ | refine zs4 ?_) | (apply zg6; first | refine zs11 ?_ | refine zs12 ?_) | (apply zg20; refine zs48 ?_) | apply (zs65 ?_) | apply (zs68 ?_) | apply (zs69 ?_) | apply (zs70 ?_) | (apply zg27; refine zs71 ?_) | apply (zs74 ?_) | apply (zs77 ?_) | apply (zs78 ?_) | fail)
    all_goals (
      apply Yi H
      · exact zk
      apply Yd; exact rfl; exact rfl; exact ⟨rfl, rfl⟩)
  | true =>
  by_cases hB : 1 ≤ z.xs.length ∧ z.xs.length ≤ 64
  rotate_left
  · rw [decide_eq_false hB] at hkk
    have hFf := hno (by rw [hkk]; rfl)
    subst hFf
    clear hK
    repeat' (first | apply (zs1 ?_) | apply (zs2 ?_) | (apply zg1; refine zs4 ?_) | (apply zg3; refine zs60 ?_) | (apply zg4; refine zs9 ?_) | (apply zg5; refine zs57 ?_) | (apply zg6; refine zs12 ?_) | (apply (zs17 ?_ ?_) <;> intro _ <;> try (exfalso; omega)) | (apply (zs19 ?_ ?_) <;> intro _ <;> try (exfalso; omega)) | apply (zs65 ?_) | apply (zs68 ?_) | apply (zs69 ?_) | apply (zs70 ?_) | (apply zg27; refine zs71 ?_) | apply (zs73 ?_) | apply (zs76 ?_) | fail)
    first | apply Ya XU | apply Yb XU
    exact za
    exact rfl
    exact fun _ hw => (q3 (hc.mono zk) hw)
    repeat' (first | apply (zs1 ?_) | apply (zs2 ?_) | (apply zg1; first | refine zs3 ?_ | refine zs4 ?_) | (apply zg2; refine zs6 ?_) | (apply zg3; first | refine zs7 ?_ | refine zs60 ?_) | (apply zg4; refine zs9 ?_) | (apply zg5; refine zs57 ?_) | (apply zg6; first | refine zs11 ?_ | refine zs12 ?_) | (apply (zs17 ?_ ?_) <;> intro _ <;> try (exfalso; omega)) | (apply (zs19 ?_ ?_) <;> intro _ <;> try (exfalso; omega)) | (apply zg20; refine zs47 ?_) | apply (zs65 ?_) | apply (zs68 ?_) | apply (zs69 ?_) | apply (zs70 ?_) | (apply zg27; refine zs71 ?_) | apply (zs74 ?_) | apply (zs77 ?_) | apply (zs78 ?_) | fail)
    all_goals (
      apply Yi H
      · exact zk
      apply Yd; exact rfl; exact rfl; exact ⟨rfl, rfl⟩)
  rw [decide_eq_true hB] at hkk
  cases b4 with
  | false =>
    have hFf := hno (by rw [hkk]; rfl)
    subst hFf
    clear hK
    repeat' (first | apply (zs1 ?_) | apply (zs2 ?_) | (apply zg1; refine zs4 ?_) | (apply zg3; refine zs60 ?_) | (apply zg4; refine zs9 ?_) | (apply zg5; refine zs57 ?_) | (apply zg6; refine zs12 ?_) | (apply (zs17 ?_ ?_) <;> intro _ <;> try (exfalso; omega)) | (apply (zs19 ?_ ?_) <;> intro _ <;> try (exfalso; omega)) | apply (zs65 ?_) | apply (zs68 ?_) | apply (zs69 ?_) | apply (zs70 ?_) | (apply zg27; refine zs71 ?_) | apply (zs73 ?_) | apply (zs76 ?_) | fail)
    first | apply Ya XU | apply Yb XU
    exact za
    exact rfl
    exact fun _ hw => (q3 (hc.mono zk) hw)
    repeat' (first | apply (zs1 ?_) | (apply zg1; refine zs4 ?_) | (apply zg2; refine zs6 ?_) | (apply zg3; first | refine zs7 ?_ | refine zs60 ?_) | (apply zg4; refine zs9 ?_) | (apply zg5; refine zs57 ?_) | (apply zg6; refine zs12 ?_) | (apply (zs17 ?_ ?_) <;> intro _ <;> try (exfalso; omega)) | (apply (zs19 ?_ ?_) <;> intro _ <;> try (exfalso; omega)) | (apply zg20; refine zs47 ?_) | fail)
    first | apply Ya XU | apply Yb XU
    exact za
    exact rfl
    exact fun _ hw => (q4 (hc.mono zk) hw)
    repeat' (first | apply (zs2 ?_) | (apply zg1; refine zs4 ?_) | (apply zg6; refine zs12 ?_) | (apply zg20; refine zs48 ?_) | apply (zs65 ?_) | apply (zs68 ?_) | apply (zs69 ?_) | apply (zs70 ?_) | (apply zg27; refine zs71 ?_) | apply (zs74 ?_) | apply (zs77 ?_) | apply (zs78 ?_) | fail)
    all_goals (
      apply Yi H
      · exact zk
      apply Yd; exact rfl; exact rfl; exact ⟨rfl, rfl⟩)
  | true =>
    have hkt : ok k = true := hkk
    repeat' (first | apply (zs1 ?_) | apply (zs2 ?_) | (apply zg1; refine zs4 ?_) | (apply zg3; refine zs60 ?_) | (apply zg4; refine zs9 ?_) | (apply zg5; refine zs57 ?_) | (apply zg6; refine zs12 ?_) | (apply (zs17 ?_ ?_) <;> intro _ <;> try (exfalso; omega)) | (apply (zs19 ?_ ?_) <;> intro _ <;> try (exfalso; omega)) | apply (zs65 ?_) | apply (zs68 ?_) | apply (zs69 ?_) | apply (zs70 ?_) | (apply zg27; refine zs71 ?_) | apply (zs73 ?_) | apply (zs76 ?_) | fail)
    first | apply Ya XU | apply Yb XU
    exact za
    exact rfl
    exact fun _ hw => (q3 (hc.mono zk) hw)
    repeat' (first | apply (zs1 ?_) | (apply zg1; refine zs4 ?_) | (apply zg2; refine zs6 ?_) | (apply zg3; first | refine zs7 ?_ | refine zs60 ?_) | (apply zg4; refine zs9 ?_) | (apply zg5; refine zs57 ?_) | (apply zg6; refine zs12 ?_) | (apply (zs17 ?_ ?_) <;> intro _ <;> try (exfalso; omega)) | (apply (zs19 ?_ ?_) <;> intro _ <;> try (exfalso; omega)) | (apply zg20; refine zs47 ?_) | fail)
    first | apply Ya XU | apply Yb XU
    exact za
    exact rfl
    exact fun _ hw => (q4 (hc.mono zk) hw)
    repeat' (first | apply (zs1 ?_) | (apply zg1; refine zs4 ?_) | (apply zg6; refine zs12 ?_) | (apply zg13; refine zs30 ?_) | (apply zg20; refine zs47 ?_) | apply (zs65 ?_) | apply (zs68 ?_) | apply (zs70 ?_) | (apply zg27; refine zs72 ?_) | apply (zs76 ?_) | apply (zs79 ?_) | fail)
    apply hK (k + 1)
    · exact ⟨by omega, fun j h2 => by
        rcases Nat.lt_succ_iff_lt_or_eq.1 h2 with h | rfl
        · exact hz j h
        · exact hkt⟩
    · omega
    · exact zu
    · exact zk
open Go.RowKit Go.Eng Go.Nw Go.Rt
set_option maxRecDepth 10000 in
set_option maxHeartbeats 8000000 in
theorem Qw (c : List ClM) {A : Option Addr} {cap B : Nat} {w0 : World} {H : List HP} {w : World} (hc : CIn B w0 H A c) (hw : St B w0 H w) :
    Calls Tryz.prog 75 [.slice A c.length cap].toArray w (Post B w0 fun v K => v = .bool (VB (c.map ClM.clm)) ∧ K = H) := by
  refine Yc Tryz.func75 Tryz.ntmps75 rfl rfl hw ?_
  have hcl := hc.ln
  have hcr := hc.rd
  obtain ⟨ok, hok⟩ : ∃ ok : Nat → Bool, YeN (c.map ClM.clm) = ok := ⟨_, rfl⟩
  obtain ⟨F, hF⟩ : ∃ F, VB (c.map ClM.clm) = F := ⟨_, rfl⟩
  have hFe : F = (decide (c.length ≤ 16) && (List.range c.length).all ok) := by
    rw [← hF]; unfold VB; rw [List.length_map, hok]
  rw [hF]
  repeat' (first | apply (zs1 ?_) | apply (zs2 ?_) | (apply zg4; refine zs9 ?_) | apply (zs65 ?_) | apply (zs68 ?_) | apply (zs69 ?_) | apply (zs70 ?_) | apply (zs73 ?_) | fail)
  refine Yj (fun k : Nat => [(7, .int .i64 (k : Nat)), (6, .int .i64 c.length), (5, .slice A c.length cap), (0, .slice A c.length cap)]) (fun _ => H) (fun k => k ≤ c.length ∧ ∀ j, j < k → ok j = true) (fun k => c.length - k) 0 ⟨Nat.zero_le _, fun j h => absurd h (Nat.not_lt_zero _)⟩ ?_ (fun w hw => hw) ?_
  · exact zu
  rintro k ⟨hk, hz⟩ K hK
  by_cases hlt : k < c.length
  rotate_left
  · obtain rfl : k = c.length := by omega
    have hFt : (List.range c.length).all ok = true := by
      rw [List.all_eq_true]
      exact fun j hj => hz j (List.mem_range.1 hj)
    rw [hFt, Bool.and_true] at hFe
    clear hK
    by_cases h16 : c.length ≤ 16
    · rw [decide_eq_true h16] at hFe
      subst hFe
      repeat' (first | apply (zs1 ?_) | apply (zs2 ?_) | (apply zg4; refine zs9 ?_) | (apply (zs17 ?_ ?_) <;> intro _ <;> try (exfalso; omega)) | (apply (zs18 ?_ ?_) <;> intro _ <;> try (exfalso; omega)) | apply (zs65 ?_) | apply (zs68 ?_) | apply (zs69 ?_) | apply (zs70 ?_) | (apply zg27; refine zs72 ?_) | apply (zs74 ?_) | apply (zs75 ?_) | apply (zs80 ?_) | apply (zs81 ?_) | fail)
      apply Yd; exact rfl; exact rfl; exact ⟨rfl, rfl⟩
    · rw [decide_eq_false h16] at hFe
      subst hFe
      repeat' (first | apply (zs1 ?_) | apply (zs2 ?_) | (apply zg4; refine zs9 ?_) | (apply (zs17 ?_ ?_) <;> intro _ <;> try (exfalso; omega)) | (apply (zs18 ?_ ?_) <;> intro _ <;> try (exfalso; omega)) | apply (zs65 ?_) | apply (zs68 ?_) | apply (zs69 ?_) | apply (zs70 ?_) | (apply zg27; refine zs72 ?_) | apply (zs74 ?_) | apply (zs75 ?_) | apply (zs80 ?_) | apply (zs81 ?_) | fail)
      apply Yd; exact rfl; exact rfl; exact ⟨rfl, rfl⟩
  obtain ⟨x, hx⟩ : ∃ x, c[k]? = some x := ⟨_, List.getElem?_eq_getElem hlt⟩
  have hxi := hc.x x (List.mem_of_getElem? hx)
  have q1 := fun {H' : List HP} {w : World} (hx : x.In B w0 H') (hw : St B w0 H' w) => Yb2 x hx hw
  have hok1 : ok k = (JB x.clm && (decide (k = 0) || decide ((ZU (c.map ClM.clm) (k - 1)).flow < x.flow))) := by
    rw [← hok]; unfold YeN; rw [Zb hx]; rfl
  have hno : ok k = false → F = false := fun h => by
    rw [hFe, Bool.and_eq_false_iff]
    exact .inr (List.all_eq_false.2 ⟨k, List.mem_range.2 hlt, by rw [h]; decide⟩)
  obtain ⟨b, hb⟩ : ∃ b, JB x.clm = b := ⟨_, rfl⟩
  rw [hb] at q1 hok1
  cases b with
  | false =>
    have hFf := hno hok1
    subst hFf
    clear hK
    repeat' (first | apply (zs1 ?_) | apply (zs2 ?_) | (apply zg3; refine zs61 ?_) | (apply zg5; refine zs57 ?_) | (apply (zs17 ?_ ?_) <;> intro _ <;> try (exfalso; omega)) | (apply zg22; refine zs51 ?_) | (apply zg24; (refine zs54 ?_; intro _)) | apply (zs65 ?_) | apply (zs68 ?_) | apply (zs69 ?_) | apply (zs70 ?_) | (apply zg27; refine zs71 ?_) | apply (zs73 ?_) | apply (zs76 ?_) | fail)
    apply YB [0, 1, 2, 3, 4, 5, 6, 7, 8, 9, 10, 11, 12, 13, 14, 15, 16, 17] []
    kernel_rfl
    kernel_rfl
    (simp only [Yk, nthO]; rfl)
    exact rfl
    repeat' (first | (apply zg3; refine zs8 ?_) | apply (zs87 ?_) | fail)
    first | apply Ya Ol | apply Yb Ol
    exact za
    exact rfl
    exact fun _ hw => (q1 (hxi.mono zk) hw)
    repeat' (first | apply (zs1 ?_) | apply (zs2 ?_) | (apply zg1; refine zs3 ?_) | (apply zg6; refine zs11 ?_) | (apply zg20; refine zs48 ?_) | apply (zs65 ?_) | (apply Yo; exact zp) | apply (zs68 ?_) | apply (zs69 ?_) | apply (zs70 ?_) | (apply zg27; refine zs71 ?_) | apply (zs74 ?_) | apply (zs77 ?_) | apply (zs78 ?_) | (apply Yl; (repeat (first | with_reducible exact Yh | (with_reducible apply Yf; (repeat (first | with_reducible exact Yg | with_reducible apply Ye)))))) | apply (zs93 ?_) | apply (zs94 ?_) | fail)
    · show Perm H (H ++ [])
      rw [List.append_nil]; exact Perm.refl _
    repeat' (first | fail)
    apply Yi H
    · exact zk
    apply Yd; exact rfl; exact rfl; exact ⟨rfl, rfl⟩
  | true =>
    rw [Bool.true_and] at hok1
    by_cases hk0 : k = 0
    · have hkt : ok k = true := by rw [hok1, decide_eq_true hk0]; rfl
      repeat' (first | apply (zs1 ?_) | apply (zs2 ?_) | (apply zg3; refine zs61 ?_) | (apply zg5; refine zs57 ?_) | (apply (zs17 ?_ ?_) <;> intro _ <;> try (exfalso; omega)) | (apply zg22; refine zs51 ?_) | (apply zg24; (refine zs54 ?_; intro _)) | apply (zs65 ?_) | apply (zs68 ?_) | apply (zs69 ?_) | apply (zs70 ?_) | (apply zg27; refine zs71 ?_) | apply (zs73 ?_) | apply (zs76 ?_) | fail)
      apply YB [0, 1, 2, 3, 4, 5, 6, 7, 8, 9, 10, 11, 12, 13, 14, 15, 16, 17] []
      kernel_rfl
      kernel_rfl
      (simp only [Yk, nthO]; rfl)
      exact rfl
      repeat' (first | (apply zg3; refine zs8 ?_) | apply (zs87 ?_) | fail)
      first | apply Ya Ol | apply Yb Ol
      exact za
      exact rfl
      exact fun _ hw => (q1 (hxi.mono zk) hw)
      repeat' (first | apply (zs1 ?_) | (apply zg1; refine zs4 ?_) | (apply zg20; refine zs47 ?_) | apply (zs65 ?_) | (apply Yl; (repeat (first | with_reducible exact Yh | (with_reducible apply Yf; (repeat (first | with_reducible exact Yg | with_reducible apply Ye)))))) | fail)
      · show Perm H (H ++ [])
        rw [List.append_nil]; exact Perm.refl _
      repeat' (first | apply (zs1 ?_) | (apply zg1; first | refine zs3 ?_ | refine zs4 ?_) | (apply zg6; refine zs12 ?_) | (apply (zs19 ?_ ?_) <;> intro _ <;> try (exfalso; omega)) | (apply zg13; refine zs30 ?_) | apply (zs65 ?_) | (apply Yo; exact zp) | apply (zs68 ?_) | apply (zs70 ?_) | (apply zg27; refine zs72 ?_) | apply (zs76 ?_) | apply (zs79 ?_) | apply (zs93 ?_) | apply (zs94 ?_) | fail)
      apply hK (k + 1)
      · exact ⟨by omega, fun j h2 => by
          rcases Nat.lt_succ_iff_lt_or_eq.1 h2 with h | rfl
          · exact hz j h
          · exact hkt⟩
      · omega
      · exact zu
      · exact zk
    obtain ⟨y, hy⟩ : ∃ y, c[k - 1]? = some y := ⟨_, List.getElem?_eq_getElem (by omega)⟩
    have hy2 : c[((k : Int) - 1).toNat]? = some y := by rw [show ((k : Int) - 1).toNat = k - 1 by omega]; exact hy
    rw [decide_eq_false hk0, Bool.false_or, Zb hy] at hok1
    have hok1 : ok k = decide (y.flow < x.flow) := hok1
    by_cases hfl : y.flow < x.flow
    · rw [decide_eq_true hfl] at hok1
      repeat' (first | apply (zs1 ?_) | apply (zs2 ?_) | (apply zg3; refine zs61 ?_) | (apply zg5; refine zs57 ?_) | (apply (zs17 ?_ ?_) <;> intro _ <;> try (exfalso; omega)) | (apply zg22; refine zs51 ?_) | (apply zg24; (refine zs54 ?_; intro _)) | apply (zs65 ?_) | apply (zs68 ?_) | apply (zs69 ?_) | apply (zs70 ?_) | (apply zg27; refine zs71 ?_) | apply (zs73 ?_) | apply (zs76 ?_) | fail)
      apply YB [0, 1, 2, 3, 4, 5, 6, 7, 8, 9, 10, 11, 12, 13, 14, 15, 16, 17] []
      kernel_rfl
      kernel_rfl
      (simp only [Yk, nthO]; rfl)
      exact rfl
      repeat' (first | (apply zg3; refine zs8 ?_) | apply (zs87 ?_) | fail)
      first | apply Ya Ol | apply Yb Ol
      exact za
      exact rfl
      exact fun _ hw => (q1 (hxi.mono zk) hw)
      repeat' (first | apply (zs1 ?_) | (apply zg1; refine zs4 ?_) | (apply zg20; refine zs47 ?_) | apply (zs65 ?_) | (apply Yl; (repeat (first | with_reducible exact Yh | (with_reducible apply Yf; (repeat (first | with_reducible exact Yg | with_reducible apply Ye)))))) | fail)
      · show Perm H (H ++ [])
        rw [List.append_nil]; exact Perm.refl _
      repeat' (first | apply (zs1 ?_) | (apply zg1; refine zs4 ?_) | (apply zg2; first | refine zs6 ?_ | refine zs58 ?_) | (apply zg3; first | refine zs7 ?_ | refine zs59 ?_) | (apply zg5; refine zs57 ?_) | (apply zg6; first | refine zs11 ?_ | refine zs12 ?_) | (apply (zs19 ?_ ?_) <;> intro _ <;> try (exfalso; omega)) | (apply (zs20 ?_ ?_) <;> intro _ <;> try (exfalso; omega)) | (apply zg13; refine zs30 ?_) | (apply zg14; refine zs31 ?_) | apply (zs65 ?_) | (apply Yo; exact zp) | apply (zs68 ?_) | apply (zs70 ?_) | (apply zg27; refine zs72 ?_) | apply (zs76 ?_) | apply (zs79 ?_) | apply (zs93 ?_) | apply (zs94 ?_) | fail)
      apply hK (k + 1)
      · exact ⟨by omega, fun j h2 => by
          rcases Nat.lt_succ_iff_lt_or_eq.1 h2 with h | rfl
          · exact hz j h
          · exact hok1⟩
      · omega
      · exact zu
      · exact zk
    · rw [decide_eq_false hfl] at hok1
      have hFf := hno hok1
      subst hFf
      clear hK
      repeat' (first | apply (zs1 ?_) | apply (zs2 ?_) | (apply zg3; refine zs61 ?_) | (apply zg5; refine zs57 ?_) | (apply (zs17 ?_ ?_) <;> intro _ <;> try (exfalso; omega)) | (apply zg22; refine zs51 ?_) | (apply zg24; (refine zs54 ?_; intro _)) | apply (zs65 ?_) | apply (zs68 ?_) | apply (zs69 ?_) | apply (zs70 ?_) | (apply zg27; refine zs71 ?_) | apply (zs73 ?_) | apply (zs76 ?_) | fail)
      apply YB [0, 1, 2, 3, 4, 5, 6, 7, 8, 9, 10, 11, 12, 13, 14, 15, 16, 17] []
      kernel_rfl
      kernel_rfl
      (simp only [Yk, nthO]; rfl)
      exact rfl
      repeat' (first | (apply zg3; refine zs8 ?_) | apply (zs87 ?_) | fail)
      first | apply Ya Ol | apply Yb Ol
      exact za
      exact rfl
      exact fun _ hw => (q1 (hxi.mono zk) hw)
      repeat' (first | apply (zs1 ?_) | (apply zg1; refine zs4 ?_) | (apply zg20; refine zs47 ?_) | apply (zs65 ?_) | (apply Yl; (repeat (first | with_reducible exact Yh | (with_reducible apply Yf; (repeat (first | with_reducible exact Yg | with_reducible apply Ye)))))) | fail)
      · show Perm H (H ++ [])
        rw [List.append_nil]; exact Perm.refl _
      repeat' (first | apply (zs1 ?_) | apply (zs2 ?_) | (apply zg1; refine zs4 ?_) | (apply zg2; first | refine zs6 ?_ | refine zs58 ?_) | (apply zg3; first | refine zs7 ?_ | refine zs59 ?_) | (apply zg5; refine zs57 ?_) | (apply zg6; first | refine zs11 ?_ | refine zs12 ?_) | (apply (zs19 ?_ ?_) <;> intro _ <;> try (exfalso; omega)) | (apply (zs20 ?_ ?_) <;> intro _ <;> try (exfalso; omega)) | (apply zg14; refine zs31 ?_) | apply (zs65 ?_) | (apply Yo; exact zp) | apply (zs68 ?_) | apply (zs69 ?_) | apply (zs70 ?_) | (apply zg27; refine zs71 ?_) | apply (zs74 ?_) | apply (zs77 ?_) | apply (zs78 ?_) | apply (zs93 ?_) | apply (zs94 ?_) | fail)
      apply Yi H
      · exact zk
      apply Yd; exact rfl; exact rfl; exact ⟨rfl, rfl⟩
open Go.RowKit Go.Eng Go.Nw
set_option maxRecDepth 10000 in
theorem Vd (word : List UInt8) (l : List Int) (h : ∀ n ∈ l, 0 ≤ n ∧ n < 10000) (h5 : l.length ≤ 100) (hwd : word.length ≤ 100) {A : Option Addr} {cap B : Nat} {w0 : World} {H : List HP} {w : World} (ht : TabsB B w0) (hr : Rd B w0 H A (l.flatMap numF)) (hw : St B w0 H w) :
    Calls Tryz.prog 77 [strV word, .slice A l.length cap].toArray w (Post B w0 fun v K => v = strV (XW word l) ∧ K = H) := by
  refine Yc Tryz.func77 Tryz.ntmps77 rfl rfl hw ?_
  repeat' (first | apply (zs1 ?_) | apply (zs2 ?_) | (apply zg4; refine zs9 ?_) | apply (zs65 ?_) | apply (zs68 ?_) | apply (zs69 ?_) | apply (zs70 ?_) | apply (zs73 ?_) | fail)
  refine Yj (fun (i : Nat) => [(9, .int .i64 i), (8, .int .i64 l.length), (7, .slice A l.length cap), (0, strV (YO word (l.take i)))]) (fun _ => H) (fun i => i ≤ l.length) (fun i => l.length - i) 0 (Nat.zero_le _) ?_ (fun w hw => hw) ?_
  · have e0 : YO word (l.take 0) = word := by simp [YO]
    rw [e0]
    exact zu
  intro i hi K hK
  have hbl := Wd (w := word) (l := l.take i) fun n hn => h n (List.mem_of_mem_take hn)
  have hlt0 : (l.take i).length ≤ 100 := by rw [List.length_take]; omega
  by_cases hlt : i < l.length
  · obtain ⟨n, hn⟩ : ∃ n, l[i]? = some n := ⟨_, List.getElem?_eq_getElem hlt⟩
    have hnb := h n (List.mem_of_getElem? hn)
    have hil := QV hnb
    repeat' (first | ((first | apply Ya Ybb | apply Yb Ybb); exact za; exact rfl; exact fun _ hw => (WT n (by omega) (by omega) ht hw)) | (apply VK [32] (Lib.itoa n); exact rfl; exact rfl; exact rfl; (show 1 + _ ≤ _; omega)) | (apply VK (YO word (l.take i)) ([32] ++ Lib.itoa n); exact rfl; exact rfl; exact rfl; (rw [List.length_append]; show _ + (1 + _) ≤ _; omega)) | apply (zs1 ?_) | apply (zs2 ?_) | (apply zg3; refine zs60 ?_) | (apply zg5; refine zs57 ?_) | (apply (zs17 ?_ ?_) <;> intro _ <;> try (exfalso; omega)) | (apply zg13; refine zs30 ?_) | apply (zs65 ?_) | apply (zs68 ?_) | apply (zs69 ?_) | apply (zs70 ?_) | (apply zg27; refine zs71 ?_) | apply (zs73 ?_) | apply (zs76 ?_) | apply (zs79 ?_) | fail)
    apply hK (i + 1)
    · show i + 1 ≤ l.length
      omega
    · omega
    · rw [List.take_add_one, hn, Option.toList_some, Ya4]
      exact zu
    · exact fun w hw => hw
  · skip
    repeat' (first | (apply VK (YO word (l.take i)) [10]; exact rfl; exact rfl; exact rfl; (show _ + 1 ≤ _; omega)) | apply (zs1 ?_) | apply (zs2 ?_) | (apply (zs17 ?_ ?_) <;> intro _ <;> try (exfalso; omega)) | apply (zs65 ?_) | apply (zs68 ?_) | apply (zs69 ?_) | apply (zs70 ?_) | (apply zg27; refine zs72 ?_) | apply (zs74 ?_) | apply (zs75 ?_) | apply (zs80 ?_) | apply (zs81 ?_) | fail)
    apply Yd; exact rfl; exact rfl
    rw [show i = l.length by omega, List.take_length]
    exact ⟨rfl, rfl⟩
set_option maxRecDepth 10000 in
set_option maxHeartbeats 2000000 in
theorem YaG (ws : List (List UInt8)) (hwl : ws.length ≤ 1000000) (hwm : ∀ p ∈ ws, p.length ≤ 100000) {A0 : Option Addr} {cap0 B : Nat} {w0 : World} {H : List HP} {w : World} (ht : TabsB B w0) (hrw : Rd B w0 H A0 (ws.flatMap strL)) (hw : St B w0 H w) :
    Calls Tryz.prog 143 [.slice A0 ws.length cap0].toArray w (Post B w0 (OutR H (J1 ws))) := by
  refine Yc Tryz.func143 Tryz.ntmps143 rfl rfl hw ?_
  repeat' (first | apply (zs1 ?_) | apply (zs2 ?_) | (apply zg4; refine zs9 ?_) | apply (zs65 ?_) | apply (zs68 ?_) | apply (zs69 ?_) | apply (zs70 ?_) | apply (zs73 ?_) | fail)
  have hnone : ∀ {p : List UInt8}, p ∈ ws → numW p < 0 → J1 ws = none := fun hp hn => YfJ hp hn
  refine Yj (fun (z : Nat × Option Addr × Nat) => [(11, .int .i64 z.1), (10, .int .i64 ws.length), (9, .slice A0 ws.length cap0), (4, .slice z.2.1 ((ws.take z.1).map numW).length z.2.2)]) (fun z => nrs z.2.1 z.2.2 ((ws.take z.1).map numW) :: H) (fun z => z.1 ≤ ws.length ∧ ∀ p ∈ ws.take z.1, 0 ≤ numW p) (fun z => ws.length - z.1) (0, none, 0) ⟨Nat.zero_le _, by simp⟩ ?_ (fun w hw => hw.nilSlice _ _) ?_
  · exact zu
  rintro ⟨i, A, cap⟩ ⟨hi, hall⟩ K hK
  dsimp only at hi hall ⊢
  have hlen : ((ws.take i).map numW).length = i := by rw [List.length_map, List.length_take]; omega
  have hrw' := hrw.cons (X := nrs A cap ((ws.take i).map numW))
  by_cases hlt : i < ws.length
  · obtain ⟨p, hp⟩ : ∃ p, ws[i]? = some p := ⟨_, List.getElem?_eq_getElem hlt⟩
    have hpm := List.mem_of_getElem? hp
    have hpl := hwm p hpm
    have hs : (⟨p.toArray⟩ : ByteArray).size = p.length := by simp [ByteArray.size]
    by_cases hv : ∃ v, Lib.atoiAll p = .ok v
    · obtain ⟨v, hv⟩ := hv
      have hvb := Lib.atoiAll_bounds hv
      obtain ⟨q1, q2⟩ := Yhm hv
      repeat' (first | ((first | apply Ya YgX | apply Yb YgX); exact za; exact rfl; exact fun _ hw => (Yh4 p (by omega) v hv hw)) | ((first | apply Ya Ybb | apply Yb Ybb); exact za; exact rfl; exact fun _ hw => (WT v hvb.1 hvb.2 ht hw)) | (apply YhN; exact rfl; exact rfl) | (apply YbX (Lib.itoa v) p; exact rfl; exact rfl; exact rfl; all_goals intro hwd2) | apply (zs1 ?_) | apply (zs2 ?_) | (apply zg1; first | refine zs3 ?_ | refine zs4 ?_) | (apply zg3; refine zs60 ?_) | (apply zg4; refine zs14 ?_) | (apply zg5; refine zs57 ?_) | (apply zg6; first | refine zs11 ?_ | refine zs12 ?_) | apply (zs13 ?_) | (apply (zs17 ?_ ?_) <;> intro _ <;> try (exfalso; omega)) | (apply (zs19 ?_ ?_) <;> intro _ <;> try (exfalso; omega)) | (apply zg13; refine zs30 ?_) | (apply zg21; (refine zs49 ?_; intro _ _)) | (apply zg26; (refine zs56 ?_; intro _)) | apply (zs65 ?_) | apply (zs68 ?_) | apply (zs69 ?_) | apply (zs70 ?_) | (apply zg27; first | refine zs71 ?_ | refine zs72 ?_) | apply (zs73 ?_) | apply (zs74 ?_) | apply (zs76 ?_) | apply (zs77 ?_) | apply (zs78 ?_) | apply (zs79 ?_) | fail)
      all_goals first
        | (apply Yi H
           · exact zk
           apply Yp; exact rfl; exact rfl; exact rfl
           rw [hnone hpm (q2 (by rintro ⟨c1, c2, c3⟩; first | omega | exact hwd2 c2))]
           exact ⟨rfl, rfl⟩)
        | (rename_i xA xcap
           have hq := q1 ⟨by omega, hwd2, by omega⟩
           have e5 : (ws.take i).map numW ++ [v] = (ws.take (i + 1)).map numW := by rw [List.take_add_one, hp, Option.toList_some, List.map_append, List.map_cons, List.map_nil, hq]
           rw [X3, e5]
           apply hK (i + 1, xA, xcap)
           · refine ⟨by show i + 1 ≤ _; omega, fun p' hp' => ?_⟩
             dsimp only at hp'
             rw [List.take_add_one, hp, Option.toList_some, List.mem_append, List.mem_singleton] at hp'
             rcases hp' with hp' | rfl
             · exact hall p' hp'
             · omega
           · dsimp only; omega
           · rw [show ((ws.take i).map numW).length + 1 = ((ws.take (i + 1)).map numW).length from (by rw [← e5]; simp)]
             exact zu
           · exact zk)
    · have hbad := Yhl (fun n hn => hv ⟨n, hn⟩)
      repeat' (first | apply (zs1 ?_) | apply (zs2 ?_) | (apply zg3; refine zs60 ?_) | (apply zg5; refine zs57 ?_) | (apply (zs17 ?_ ?_) <;> intro _ <;> try (exfalso; omega)) | apply (zs65 ?_) | apply (zs68 ?_) | apply (zs69 ?_) | apply (zs70 ?_) | (apply zg27; refine zs71 ?_) | apply (zs73 ?_) | apply (zs76 ?_) | fail)
      apply Yq _ YgX
      exact za
      exact rfl
      exact fun _ hw => (YgO p (by omega) (fun n hn => hv ⟨n, hn⟩) ht (hw))
      rintro _ _ ⟨⟨n9, t9, p9, rfl⟩, rfl⟩
      repeat' (first | (apply YhO; exact rfl; exact rfl) | apply (zs1 ?_) | apply (zs2 ?_) | (apply zg1; refine zs3 ?_) | (apply zg6; refine zs11 ?_) | apply (zs13 ?_) | apply (zs65 ?_) | apply (zs68 ?_) | apply (zs69 ?_) | apply (zs70 ?_) | (apply zg27; refine zs71 ?_) | apply (zs74 ?_) | apply (zs77 ?_) | apply (zs78 ?_) | fail)
      rw [hnone hpm hbad]
      apply Yi H
      · exact zk
      apply Yp; exact rfl; exact rfl; exact rfl; exact ⟨rfl, rfl⟩
  · have hie : i = ws.length := by omega
    rw [hie, List.take_length] at hall
    rw [YfK hall]
    repeat' (first | apply (zs1 ?_) | apply (zs2 ?_) | (apply (zs17 ?_ ?_) <;> intro _ <;> try (exfalso; omega)) | apply (zs65 ?_) | apply (zs68 ?_) | apply (zs69 ?_) | apply (zs70 ?_) | (apply zg27; refine zs72 ?_) | apply (zs74 ?_) | apply (zs75 ?_) | apply (zs80 ?_) | apply (zs81 ?_) | fail)
    rw [hie, List.take_length]
    apply Yp; exact rfl; exact rfl; exact rfl
    exact ⟨A, cap, by rw [List.length_map], rfl⟩
end Go.Proofs.YtmalhidldgfeoaaGreatDoor
