/- Lemmas for the claim, part 4. -/
import Derived.Test.YtmalhidldgfeoaaGreatDoorQ3

namespace Go.Proofs.YtmalhidldgfeoaaGreatDoor
open Go.RowKit Go.Eng Go.Nw Go.Rt
def relE (x : WayM) (a : Int) : Int × List Int × Bool := match QK x.n.net x.s.sch x.f x.r a with
  | none => (0, [], false)
  | some l => (JN l - a + 1, l.map (fun z => z - a), true)
theorem Wu (x : WayM) (a : Int) : QK x.n.net x.s.sch x.f x.r a = if (runW x a).length < Xp (YE x.n.net x.r) then none else some ((runW x a).map Prod.snd) := Yeo _ _ _ _ _
theorem Ycm (x : WayM) (a : Int) {B : Nat} {w0 : World} {H : List HP} {w : World} (hw : St B w0 H w) :
    Calls Tryz.prog 207 [x.val, .int .i64 a].toArray w (Post B w0 fun v K => ∃ ga gw, v = .func (.func 247) #[] #[.pointer (some ⟨ga, 0, none⟩), .pointer (some ⟨gw, 0, none⟩)] ∧ K = intB ga a :: wayB gw x :: H) := by
  refine Yd Tryz.func207 Tryz.ntmps207 rfl rfl hw ?_
  unfold WayM.val intB
  repeat' (first | apply (zs2 ?_) | (apply zg23; first | (refine zs52 ?_; intro _) | (refine zs53 ?_; intro _)) | apply (zs65 ?_) | apply (zs68 ?_) | apply (zs69 ?_) | apply (zs70 ?_) | apply (zs74 ?_) | (apply zg29; (apply Yr; exact za ; exact rfl)) | fail)
  apply Yc; exact rfl; exact rfl
  exact ⟨_, _, rfl, rfl⟩
structure NlM where
  A : Option Addr
  cap : Nat
  l : List Int
theorem YcL {x : WayM} (hok : Vl x) : 1 ≤ Xp (YE x.n.net x.r) := by
  have hl := hok.len
  have h0 := Uo (n := x.n.net) (r := x.r) (i := 0) (by omega)
  have hbd := US hok h0
  have hne : (YE x.n.net x.r) = Wn x.n.net x.r 0 :: (YE x.n.net x.r).tail := by
    cases h : YE x.n.net x.r with
    | nil => rw [h] at h0; cases h0
    | cons a t => rw [h] at h0; cases h0; rfl
  rw [hne]
  unfold Xp Y0
  rw [List.map_cons, List.sum_cons]
  omega
set_option maxRecDepth 10000 in
set_option maxHeartbeats 4000000 in
theorem YbE (x : WayM) (at0 : Int) (hok : Vl x) (hat : 0 ≤ at0 ∧ at0 ≤ 1000000) {B : Nat} {w0 : World} {H : List HP} {w : World} (hi : x.In B w0 H) (hw : St B w0 H w) :
    Calls Tryz.prog 149 [x.val, .int .i64 at0].toArray w (Post B w0 fun v K => ∃ A cap, v = .tuple #[.int .i64 (relE x at0).1, .slice A (relE x at0).2.1.length cap, .bool (relE x at0).2.2] ∧ K = nrs A cap (relE x at0).2.1 :: H) := by
  refine XR Tryz.func149 Tryz.ntmps149 rfl rfl hw ?_
  have hper := hok.per
  have hl9 := hok.len
  have hnp := YcL hok
  have hnl : Xp (YE x.n.net x.r) ≤ 72 := by
    have h1 := Ow hok (YE x.n.net x.r).length
    rw [List.take_length, J2] at h1
    omega
  have hRE : relE x at0 = if (runW x at0).length < Xp (YE x.n.net x.r) then (0, [], false) else (JN ((runW x at0).map Prod.snd) - at0 + 1, ((runW x at0).map Prod.snd).map (fun z => z - at0), true) := by
    unfold relE
    rw [Wu]
    by_cases h : (runW x at0).length < Xp (YE x.n.net x.r)
    · rw [if_pos h, if_pos h]
    · rw [if_neg h, if_neg h]
  have hWl : (runW x at0).length ≤ Xp (YE x.n.net x.r) := YbH _ _ _ _ _
  have hWs : ∀ z ∈ runW x at0, at0 ≤ z.2 ∧ z.2 < at0 + x.f.2.2.2.1 := fun z hz => YbI (by omega) hz
  have hiter := fun {ga gw : Nat} {H' : List HP} (hi : x.In B w0 H') => Ybp x at0 hok hat ga gw hi
  have hxs : Yd1 x at0 = (runW x at0).map cntV := rfl
  rw [hxs] at hiter
  obtain ⟨W, hW⟩ : ∃ W, runW x at0 = W := ⟨_, rfl⟩
  obtain ⟨nd, hnd⟩ : ∃ nd, Xp (YE x.n.net x.r) = nd := ⟨_, rfl⟩
  have hned := fun {H' : List HP} {w : World} (hi : x.In B w0 H') (hw : St B w0 H' w) => YcM x hok hi hw
  rw [hW, hnd] at hRE hWl
  rw [hW] at hWs hiter
  rw [hnd] at hnp hnl hned
  rw [hRE]
  unfold WayM.val
  unfold intB at hiter
  repeat' (first | apply (zs2 ?_) | (apply zg3; first | refine zs7 ?_ | refine zs8 ?_) | (apply zg23; first | (refine zs52 ?_; intro _) | (refine zs53 ?_; intro _)) | (apply zg24; (refine zs54 ?_; intro _)) | apply (zs65 ?_) | apply (zs68 ?_) | apply (zs69 ?_) | apply (zs70 ?_) | fail)
  rename_i g2 g3 gO
  apply Yo _ YiR
  exact za
  exact rfl
  exact fun _ hw => (Ycm x at0 (hw))
  rintro _ _ ⟨ga, gw, rfl, rfl⟩
  unfold intB
  repeat' (first | apply (zs65 ?_) | apply (zs68 ?_) | apply (zs73 ?_) | fail)
  refine Jo 3 1 ?_
  refine XT (gf := 247) (lb := [.pointer (some ⟨ga, 0, none⟩), .pointer (some ⟨gw, 0, none⟩)]) (xs := W.map cntV) (blk ga (.cells #[.int .i64 at0] 3 (0, 0)) :: wayB gw x :: blk g3 (.cells #[.int .i64 at0] 3 (0, 0)) :: wayB g2 x :: H) (fun y : NlM => [blk gO (.cells #[.slice y.A y.l.length y.cap] 24 (0, 0)), nrs y.A y.cap y.l]) (fun i y => y.l = (W.take i).map (fun z => z.2 - at0)) (fun _ _ => False) ⟨none, 0, []⟩ rfl YiV (hiter hi.cons.cons) rfl ?_ (by kernel_rfl) (by kernel_rfl) ?_ rfl ?_ ?_ (fun _ _ _ h => h.elim)
  · intro args h
    obtain ⟨z, _, rfl⟩ := List.mem_map.1 h
    rfl
  · simp only [List.cons_append, List.nil_append, List.length_nil]
    intro w hw
    have h1 : St B w0 (nrs none 0 [] :: blk ga (.cells #[.int .i64 at0] 3 (0, 0)) :: wayB gw x :: blk gO (.cells #[.slice none 0 0] 24 (0, 0)) :: blk g3 (.cells #[.int .i64 at0] 3 (0, 0)) :: wayB g2 x :: H) w := hw
    clear hw
    revert w
    exact zk
  · rintro l k args R ⟨A, cap, xs⟩ hk hI
    rw [List.getElem?_map] at hk
    obtain ⟨⟨d, sl⟩, hz, rfl⟩ : ∃ z, W[k]? = some z ∧ args = cntV z := by
      cases h : W[k]? with
      | none => rw [h] at hk; cases hk
      | some z => rw [h] at hk; exact ⟨z, rfl, (Option.some.inj hk).symm⟩
    have hzb := hWs _ (List.mem_of_getElem? hz)
    have hI : xs = (W.take k).map (fun z => z.2 - at0) := hI
    have hxl : xs.length ≤ 72 := by
      rw [hI, List.length_map, List.length_take]; omega
    dsimp only at hzb
    dsimp only [VH, cntV, List.cons_append, List.nil_append]
    repeat' (first | apply (zs2 ?_) | apply (zs65 ?_) | apply (zs70 ?_) | fail)
    apply JE Yf
    intro R'
    repeat' (first | apply (zs1 ?_) | (apply zg3; refine zs7 ?_) | (apply zg14; refine zs31 ?_) | (apply zg21; (refine zs49 ?_; intro _ _)) | (apply zg22; refine zs50 ?_) | (apply zg26; (refine zs56 ?_; intro _)) | apply (zs65 ?_) | apply (zs70 ?_) | apply (zs73 ?_) | apply (zs79 ?_) | fail)
    rename_i A' cap'
    apply JV (NlM.mk A' cap' (xs ++ [sl - at0]))
    · show xs ++ [sl - at0] = _
      rw [List.take_add_one, hz, Option.toList_some, List.map_append, hI]; rfl
    · dsimp only [List.cons_append, List.nil_append]
      rw [X5, show xs.length + 1 = (xs ++ [sl - at0]).length by simp]
      exact zk
  · rintro D ⟨A, cap, xs⟩ hI
    have hI : xs = (W.take (W.map cntV).length).map (fun z => z.2 - at0) := hI
    rw [List.length_map, List.take_length] at hI
    have hxl : xs.length = W.length := by rw [hI, List.length_map]
    dsimp only [List.cons_append, List.nil_append]
    have hll : ((W.map Prod.snd).map (fun z => z - at0)) = xs := by rw [hI, List.map_map]; rfl
    by_cases hlt : W.length < nd
    · rw [if_pos hlt]
      repeat' (first | apply (zs68 ?_) | apply (zs69 ?_) | apply (zs79 ?_) | fail)
      apply YB [0, 1, 2, 3, 4] []
      kernel_rfl
      kernel_rfl
      (simp only [Yj, nthO]; rfl)
      exact rfl
      repeat' (first | (apply zg3; first | refine zs7 ?_ | refine zs8 ?_) | (apply zg4; refine zs9 ?_) | apply (zs87 ?_) | fail)
      first | apply Ya Yef | apply Yb Yef
      exact za
      exact rfl
      exact fun _ hw => (hned (hi.mono zk) hw)
      repeat' (first | apply (zs65 ?_) | (apply Yl; (repeat (first | with_reducible exact Yh | (with_reducible apply Yg; (repeat (first | with_reducible exact Yf | with_reducible apply Ye)))))) | fail)
      · show Perm H (H ++ [])
        rw [List.append_nil]; exact Perm.refl _
      repeat' (first | apply (zs2 ?_) | (apply (zs17 ?_ ?_) <;> intro _ <;> try (exfalso; omega)) | apply (zs65 ?_) | (apply Yn; exact zp) | apply (zs68 ?_) | apply (zs69 ?_) | apply (zs70 ?_) | (apply zg27; refine zs71 ?_) | apply (zs74 ?_) | apply (zs77 ?_) | apply (zs93 ?_) | apply (zs94 ?_) | fail)
      apply Zt Yf
      apply VQ_m
      apply Yi (nrs none 0 [] :: H)
      · intro w hw
        have h5 : St B w0 H w := by
          revert w
          exact zk
        exact h5.nilSlice _ _
      apply Y6; exact rfl; exact rfl; exact rfl; exact rfl
      exact ⟨none, 0, rfl, rfl⟩
    · rw [if_neg hlt, hll]
      obtain ⟨z, hz⟩ : ∃ z, W[W.length - 1]? = some z := ⟨_, List.getElem?_eq_getElem (by omega)⟩
      have hzb := hWs _ (List.mem_of_getElem? hz)
      have hx1 : xs[((xs.length : Int) - 1).toNat]? = some (z.2 - at0) := by
        rw [show ((xs.length : Int) - 1).toNat = W.length - 1 by omega, hI, List.getElem?_map, hz]; rfl
      have hla : JN (W.map Prod.snd) = z.2 := by
        unfold JN
        rw [List.length_map, List.getD_eq_getElem?_getD, List.getElem?_map, hz]; rfl
      rw [hla]
      repeat' (first | apply (zs68 ?_) | apply (zs69 ?_) | apply (zs79 ?_) | fail)
      apply YB [0, 1, 2, 3, 4] []
      kernel_rfl
      kernel_rfl
      (simp only [Yj, nthO]; rfl)
      exact rfl
      repeat' (first | (apply zg3; first | refine zs7 ?_ | refine zs8 ?_) | (apply zg4; refine zs9 ?_) | apply (zs87 ?_) | fail)
      first | apply Ya Yef | apply Yb Yef
      exact za
      exact rfl
      exact fun _ hw => (hned (hi.mono zk) hw)
      repeat' (first | apply (zs65 ?_) | (apply Yl; (repeat (first | with_reducible exact Yh | (with_reducible apply Yg; (repeat (first | with_reducible exact Yf | with_reducible apply Ye)))))) | fail)
      · show Perm H (H ++ [])
        rw [List.append_nil]; exact Perm.refl _
      repeat' (first | apply (zs2 ?_) | (apply zg3; first | refine zs7 ?_ | refine zs60 ?_) | (apply zg4; refine zs9 ?_) | (apply zg5; refine zs10 ?_) | (apply (zs17 ?_ ?_) <;> intro _ <;> try (exfalso; omega)) | (apply zg13; refine zs30 ?_) | (apply zg14; refine zs31 ?_) | apply (zs65 ?_) | apply (zs66 ?_) | (apply Yn; exact zp) | apply (zs68 ?_) | apply (zs69 ?_) | (apply zg27; refine zs72 ?_) | apply (zs74 ?_) | apply (zs76 ?_) | (apply zg28; refine zs83 ?_) | apply (zs93 ?_) | apply (zs94 ?_) | fail)
      apply Zt Yf
      apply VQ_m
      apply Yi (nrs A cap xs :: H)
      · exact zk
      apply Y6; exact rfl; exact rfl; exact rfl; exact rfl
      exact ⟨A, cap, rfl, rfl⟩
def Ot (R : Option (Int × Int × List Int)) : Int × Int × List Int × Bool := match R with
  | none => (0, 0, [], false)
  | some b => (b.1, b.2.1, b.2.2, true)
def Vp (x : WayM) : Int × Int × List Int × Bool := Ot (Vo x.n.net x.s.sch x.f x.r)
theorem YgI {x : WayM} (hok : Vl x) {a : Int} {l : List Int} (h : QK x.n.net x.s.sch x.f x.r a = some l) : 1 ≤ l.length ∧ a ≤ JN l ∧ JN l < a + x.f.2.2.2.1 := by
  have hper := hok.per
  have hnp := YcL hok
  rw [Wu] at h
  split at h
  · cases h
  rename_i hge
  obtain rfl := Option.some.inj h
  rw [List.length_map]
  obtain ⟨z, hz⟩ : ∃ z, (runW x a)[(runW x a).length - 1]? = some z := ⟨_, List.getElem?_eq_getElem (by omega)⟩
  have hzb := YbI (by omega) (List.mem_of_getElem? hz)
  have hla : JN ((runW x a).map Prod.snd) = z.2 := by
    unfold JN
    rw [List.length_map, List.getD_eq_getElem?_getD, List.getElem?_map, hz]; rfl
  rw [hla]
  exact ⟨by omega, hzb⟩
structure BdM where
  k : Nat
  rel : Int
  b : Int × Int × List Int
  A : Option Addr
  cap : Nat
set_option maxRecDepth 10000 in
set_option maxHeartbeats 4000000 in
theorem Ydi (x : WayM) (hok : Vl x) {B : Nat} {w0 : World} {H : List HP} {w : World} (hi : x.In B w0 H) (hw : St B w0 H w) :
    Calls Tryz.prog 86 [x.val].toArray w (Post B w0 fun v K => ∃ A cap, v = .tuple #[.int .i64 (Vp x).1, .int .i64 (Vp x).2.1, .slice A (Vp x).2.2.1.length cap, .bool (Vp x).2.2.2] ∧ K = nrs A cap (Vp x).2.2.1 :: H) := by
  refine Yd Tryz.func86 Tryz.ntmps86 rfl rfl hw ?_
  have hper := hok.per
  have hph := hok.ph
  have hsl := hok.slen
  obtain ⟨R, hR⟩ : ∃ R, Vo x.n.net x.s.sch x.f x.r = R := ⟨_, rfl⟩
  have hO : Vp x = Ot R := by unfold Vp; rw [hR]
  rw [hO]
  unfold Vo at hR
  rw [show x.s.sch.len = x.s.len from rfl] at hR
  obtain ⟨S, hS⟩ : ∃ S, QK x.n.net x.s.sch x.f x.r = S := ⟨_, rfl⟩
  rw [hS] at hR
  have hrl := fun {H' : List HP} {w : World} (a : Int) (ha : 0 ≤ a ∧ a ≤ 1000000) (hi : x.In B w0 H') (hw : St B w0 H' w) => YbE x a hok ha hi hw
  unfold WayM.val
  repeat' (first | apply (zs2 ?_) | (apply zg2; refine zs6 ?_) | (apply zg3; refine zs7 ?_) | (apply zg23; (refine zs52 ?_; intro _)) | apply (zs65 ?_) | apply (zs68 ?_) | apply (zs69 ?_) | apply (zs70 ?_) | apply (zs73 ?_) | fail)
  rename_i g
  refine Jo 3 1 ?_
  refine Yk (fun z : BdM => [(9, .int .i64 z.rel), (8, .slice z.A z.b.2.2.length z.cap), (7, .int .i64 z.b.2.1), (6, .int .i64 z.b.1), (1, .pointer (some ⟨g, 0, none⟩))]) (fun z => nrs z.A z.cap z.b.2.2 :: wayB g x :: H)
    (fun z => WD S x.s.len x.f.2.2.2.1 z.k z.rel z.b = R ∧ x.s.len - z.rel ≤ z.k ∧ 0 ≤ z.rel ∧ z.rel ≤ 2000 ∧ 0 ≤ z.b.1 ∧ z.b.1 ≤ 2000) (fun z => z.k) ⟨x.s.len.toNat, x.f.2.2.2.2.1, (0, 0, []), none, 0⟩ ⟨hR, by show x.s.len - x.f.2.2.2.2.1 ≤ ((x.s.len.toNat : Nat) : Int); omega, hph.1, by show x.f.2.2.2.2.1 ≤ 2000; omega, Int.le_refl _, by show (0 : Int) ≤ 2000; decide⟩ ?_ (fun w hw => hw) ?_
  · exact zu
  rintro ⟨k, rel, ⟨b1, b2, bl⟩, A, cap⟩ ⟨hb, hk, h0, h1, hb0, hb1⟩ K hK
  dsimp only at hb hk h0 h1 hb0 hb1 ⊢
  by_cases hge : x.s.len ≤ rel
  · have hRe : R = some (b1, b2, bl) := by
      rw [← hb]
      cases k with
      | zero => rfl
      | succ k => unfold WD; rw [if_pos hge]
    rw [hRe]
    clear hK
    repeat' (first | apply (zs1 ?_) | apply (zs2 ?_) | (apply zg2; refine zs6 ?_) | (apply zg3; refine zs7 ?_) | (apply (zs17 ?_ ?_) <;> intro _ <;> try (exfalso; omega)) | apply (zs65 ?_) | apply (zs68 ?_) | apply (zs69 ?_) | apply (zs70 ?_) | (apply zg27; refine zs72 ?_) | apply (zs74 ?_) | apply (zs75 ?_) | apply (zs80 ?_) | apply (zs81 ?_) | fail)
    apply Yi (nrs A cap bl :: H)
    · exact zk
    apply Uy; exact rfl; exact rfl; exact rfl; exact rfl; exact rfl
    exact ⟨A, cap, rfl, rfl⟩
  obtain ⟨k, rfl⟩ : ∃ k', k = k' + 1 := ⟨k - 1, by omega⟩
  unfold WD at hb
  rw [if_neg hge] at hb
  have hrr := fun {H' : List HP} {w : World} (hi : x.In B w0 H') (hw : St B w0 H' w) => hrl rel (by omega) hi hw
  unfold relE at hrr
  rw [hS] at hrr
  cases hSr : S rel with
  | none =>
    rw [hSr] at hb hrr
    dsimp only at hb hrr
    rw [← hb]
    clear hK
    repeat' (first | apply (zs1 ?_) | (apply zg2; refine zs6 ?_) | (apply zg3; first | refine zs7 ?_ | refine zs8 ?_) | (apply (zs17 ?_ ?_) <;> intro _ <;> try (exfalso; omega)) | apply (zs65 ?_) | apply (zs68 ?_) | apply (zs69 ?_) | apply (zs70 ?_) | (apply zg27; refine zs71 ?_) | apply (zs73 ?_) | apply (zs76 ?_) | fail)
    apply Yo _ YhM
    exact za
    exact rfl
    exact fun _ hw => (hrr (hi.mono zk) (hw))
    rintro _ _ ⟨A2, cap2, rfl, rfl⟩
    repeat' (first | apply (zs1 ?_) | apply (zs2 ?_) | apply (zs13 ?_) | (apply zg20; refine zs48 ?_) | apply (zs65 ?_) | apply (zs68 ?_) | apply (zs69 ?_) | apply (zs70 ?_) | (apply zg27; refine zs71 ?_) | apply (zs74 ?_) | apply (zs77 ?_) | apply (zs78 ?_) | fail)
    apply Yi (nrs none 0 [] :: H)
    · intro w hw
      have h5 : St B w0 H w := by
        revert w
        exact zk
      exact h5.nilSlice _ _
    apply Uy; exact rfl; exact rfl; exact rfl; exact rfl; exact rfl
    exact ⟨none, 0, rfl, rfl⟩
  | some l =>
    rw [hSr] at hb hrr
    dsimp only at hb hrr
    have hlb : 0 ≤ JN l - rel + 1 ∧ JN l - rel + 1 ≤ 513 := by
      have := YgI hok (a := rel) (l := l) (by rw [hS]; exact hSr)
      omega
    obtain ⟨m, hm⟩ : ∃ m, JN l - rel + 1 = m := ⟨_, rfl⟩
    rw [hm] at hb hrr hlb
    repeat' (first | apply (zs1 ?_) | (apply zg2; refine zs6 ?_) | (apply zg3; first | refine zs7 ?_ | refine zs8 ?_) | (apply (zs17 ?_ ?_) <;> intro _ <;> try (exfalso; omega)) | apply (zs65 ?_) | apply (zs68 ?_) | apply (zs69 ?_) | apply (zs70 ?_) | (apply zg27; refine zs71 ?_) | apply (zs73 ?_) | apply (zs76 ?_) | fail)
    apply Yo _ YhM
    exact za
    exact rfl
    exact fun _ hw => (hrr (hi.mono zk) (hw))
    rintro _ _ ⟨A2, cap2, rfl, rfl⟩
    by_cases hgt : b1 < m
    · rw [if_pos hgt] at hb
      repeat' (first | apply (zs1 ?_) | apply (zs2 ?_) | (apply zg2; refine zs6 ?_) | (apply zg3; refine zs7 ?_) | apply (zs13 ?_) | (apply (zs19 ?_ ?_) <;> intro _ <;> try (exfalso; omega)) | (apply zg13; refine zs30 ?_) | (apply zg20; refine zs47 ?_) | apply (zs65 ?_) | apply (zs68 ?_) | apply (zs69 ?_) | apply (zs70 ?_) | (apply zg27; first | refine zs71 ?_ | refine zs72 ?_) | apply (zs76 ?_) | apply (zs79 ?_) | fail)
      apply hK ⟨k, rel + x.f.2.2.2.1, (m, rel, l.map fun z => z - rel), A2, cap2⟩
      · exact ⟨hb, by show x.s.len - (rel + x.f.2.2.2.1) ≤ ((k : Nat) : Int); omega, by show 0 ≤ rel + x.f.2.2.2.1; omega, by show rel + x.f.2.2.2.1 ≤ 2000; omega, hlb.1, by show m ≤ 2000; omega⟩
      · dsimp only; omega
      · exact zu
      · exact zk
    · rw [if_neg hgt] at hb
      repeat' (first | apply (zs1 ?_) | apply (zs2 ?_) | (apply zg2; refine zs6 ?_) | (apply zg3; refine zs7 ?_) | apply (zs13 ?_) | (apply (zs19 ?_ ?_) <;> intro _ <;> try (exfalso; omega)) | (apply zg13; refine zs30 ?_) | (apply zg20; refine zs47 ?_) | apply (zs65 ?_) | apply (zs68 ?_) | apply (zs69 ?_) | apply (zs70 ?_) | (apply zg27; refine zs72 ?_) | apply (zs76 ?_) | apply (zs79 ?_) | fail)
      apply hK ⟨k, rel + x.f.2.2.2.1, (b1, b2, bl), A, cap⟩
      · exact ⟨hb, by show x.s.len - (rel + x.f.2.2.2.1) ≤ ((k : Nat) : Int); omega, by show 0 ≤ rel + x.f.2.2.2.1; omega, by show rel + x.f.2.2.2.1 ≤ 2000; omega, hb0, hb1⟩
      · dsimp only; omega
      · exact zu
      · exact zk
open Go.RowKit Go.Eng Go.Nw Go.Rt
set_option maxRecDepth 10000 in
set_option maxHeartbeats 4000000 in
theorem YdG (x : WayM) {B : Nat} {w0 : World} {H : List HP} {w : World} (ht : TabsB B w0) (hi : x.In B w0 H) (hw : St B w0 H w) :
    Calls Tryz.prog 34 [x.n.val, x.s.val, flwV x.f, .slice x.A x.r.length x.cap].toArray w (Post B w0 fun v K => ∃ A cap, v = .tuple #[.int .i64 (Xu x.n.net x.s.sch x.f x.r).1.1, .int .i64 (Xu x.n.net x.s.sch x.f x.r).1.2.1, .slice A (Xu x.n.net x.s.sch x.f x.r).1.2.2.length cap, .int .i64 (Xu x.n.net x.s.sch x.f x.r).2] ∧ K = nrs A cap (Xu x.n.net x.s.sch x.f x.r).1.2.2 :: H) := by
  refine Yd Tryz.func34 Tryz.ntmps34 rfl rfl hw ?_
  have p1 := fun {H' : List HP} {w : World} (hi : x.In B w0 H') (hw : St B w0 H' w) => Ydb x ht hi hw
  obtain ⟨R, hR⟩ : ∃ R, Xu x.n.net x.s.sch x.f x.r = R := ⟨_, rfl⟩
  rw [hR]
  unfold Xu at hR
  obtain ⟨e, he⟩ : ∃ e, wayE x.n.net x.s.sch x.f x.r = e := ⟨_, rfl⟩
  rw [he] at p1 hR
  unfold NetM.val SchM.val flwV
  by_cases h0 : e = 0
  rotate_left
  · rw [if_pos h0] at hR
    subst hR
    repeat' (first | ((first | apply Ya en85 | apply Yb en85); exact za; exact rfl; exact fun _ hw => (p1 (hi.mono zk) hw)) | apply (zs1 ?_) | apply (zs2 ?_) | (apply zg3; refine zs8 ?_) | (apply zg8; (refine zs16 ?_ ?_ <;> intro _ <;> try (exfalso; omega))) | (apply zg22; refine zs51 ?_) | (apply zg23; (refine zs52 ?_; intro _)) | (apply zg24; (refine zs54 ?_; intro _)) | (apply zg25; refine zs55 ?_) | apply (zs65 ?_) | apply (zs68 ?_) | apply (zs69 ?_) | apply (zs70 ?_) | (apply zg27; refine zs71 ?_) | apply (zs74 ?_) | apply (zs77 ?_) | fail)
    apply Yi (nrs none 0 [] :: H)
    · intro w hw
      have h5 : St B w0 H w := by
        revert w
        exact zk
      exact h5.nilSlice _ _
    apply Uy; exact rfl; exact rfl; exact rfl; exact rfl; exact rfl
    exact ⟨none, 0, rfl, rfl⟩
  subst h0
  rw [if_neg (fun h => h rfl)] at hR
  have hok := Yes he
  have p2 := fun {H' : List HP} {w : World} (hi : x.In B w0 H') (hw : St B w0 H' w) => Ydi x hok hi hw
  unfold Vp at p2
  cases hb : Vo x.n.net x.s.sch x.f x.r with
  | none =>
    rw [hb] at hR p2
    dsimp only [Ot] at hR p2
    subst hR
    repeat' (first | ((first | apply Ya en85 | apply Yb en85); exact za; exact rfl; exact fun _ hw => (p1 (hi.mono zk) hw)) | apply (zs1 ?_) | apply (zs2 ?_) | (apply zg3; refine zs8 ?_) | (apply zg8; (refine zs16 ?_ ?_ <;> intro _ <;> try (exfalso; omega))) | (apply zg22; refine zs51 ?_) | (apply zg23; (refine zs52 ?_; intro _)) | (apply zg24; (refine zs54 ?_; intro _)) | (apply zg25; refine zs55 ?_) | apply (zs65 ?_) | apply (zs68 ?_) | apply (zs69 ?_) | apply (zs70 ?_) | (apply zg27; refine zs72 ?_) | apply (zs76 ?_) | fail)
    apply Yo _ en86
    exact za
    exact rfl
    exact fun _ hw => (p2 (hi.mono zk) (hw))
    rintro _ _ ⟨A2, cap2, rfl, rfl⟩
    repeat' (first | apply (zs1 ?_) | apply (zs2 ?_) | apply (zs13 ?_) | (apply zg20; refine zs48 ?_) | apply (zs65 ?_) | apply (zs68 ?_) | apply (zs69 ?_) | apply (zs70 ?_) | (apply zg27; refine zs71 ?_) | apply (zs74 ?_) | apply (zs77 ?_) | fail)
    apply Yi (nrs none 0 [] :: H)
    · intro w hw
      have h5 : St B w0 H w := by
        revert w
        exact zk
      exact h5.nilSlice _ _
    apply Uy; exact rfl; exact rfl; exact rfl; exact rfl; exact rfl
    exact ⟨none, 0, rfl, rfl⟩
  | some b =>
    rw [hb] at hR p2
    dsimp only [Ot] at hR p2
    subst hR
    repeat' (first | ((first | apply Ya en85 | apply Yb en85); exact za; exact rfl; exact fun _ hw => (p1 (hi.mono zk) hw)) | apply (zs1 ?_) | apply (zs2 ?_) | (apply zg3; refine zs8 ?_) | (apply zg8; (refine zs16 ?_ ?_ <;> intro _ <;> try (exfalso; omega))) | (apply zg22; refine zs51 ?_) | (apply zg23; (refine zs52 ?_; intro _)) | (apply zg24; (refine zs54 ?_; intro _)) | (apply zg25; refine zs55 ?_) | apply (zs65 ?_) | apply (zs68 ?_) | apply (zs69 ?_) | apply (zs70 ?_) | (apply zg27; refine zs72 ?_) | apply (zs76 ?_) | fail)
    apply Yo _ en86
    exact za
    exact rfl
    exact fun _ hw => (p2 (hi.mono zk) (hw))
    rintro _ _ ⟨A2, cap2, rfl, rfl⟩
    repeat' (first | apply (zs1 ?_) | apply (zs2 ?_) | apply (zs13 ?_) | (apply zg20; refine zs47 ?_) | apply (zs65 ?_) | apply (zs68 ?_) | apply (zs69 ?_) | apply (zs70 ?_) | (apply zg27; refine zs72 ?_) | apply (zs74 ?_) | apply (zs76 ?_) | fail)
    apply Yi (nrs A2 cap2 b.2.2 :: H)
    · exact zk
    apply Uy; exact rfl; exact rfl; exact rfl; exact rfl; exact rfl
    exact ⟨A2, cap2, rfl, rfl⟩
open Go.RowKit Go.Eng Go.Nw Go.Rt
set_option maxRecDepth 10000 in
theorem Og (l : List Int) (hlen : l.length ≤ 1000) {A : Option Addr} {cap B : Nat} {w0 : World} {H : List HP} {w : World} (hr : Rd B w0 H A (l.flatMap numF)) (hw : St B w0 H w) :
    Calls Tryz.prog 122 [.slice A l.length cap].toArray w (Post B w0 fun v K => ∃ A' cap', v = .slice A' l.length cap' ∧ K = sl 3 1 A' l.length cap' (l.flatMap numF) :: H) := by
  cases A with
  | none =>
    have hl : l = [] := by
      cases l with
      | nil => rfl
      | cons x l =>
        obtain ⟨g, o, e, _⟩ := hr w hw 0 _ rfl
        cases e
    subst hl
    refine Yd Tryz.func122 Tryz.ntmps122 rfl rfl hw ?_
    repeat' (first | (apply VS; exact rfl; exact rfl; exact rfl) | apply (zs1 ?_) | apply (zs2 ?_) | apply (zs65 ?_) | apply (zs68 ?_) | apply (zs69 ?_) | apply (zs70 ?_) | (apply zg27; refine zs71 ?_) | apply (zs74 ?_) | apply (zs77 ?_) | fail)
    apply WB 3 1; apply Yc; exact rfl; exact rfl; exact ⟨none, 0, rfl, rfl⟩
  | some a =>
    refine Yd Tryz.func122 Tryz.ntmps122 rfl rfl hw ?_
    repeat' (first | (apply VS; exact rfl; exact rfl; exact rfl) | (apply Y8 T; exact rfl; exact rfl; intro g2) | apply (zs1 ?_) | apply (zs2 ?_) | apply (zs65 ?_) | apply (zs68 ?_) | apply (zs69 ?_) | apply (zs70 ?_) | (apply zg27; refine zs72 ?_) | apply (zs76 ?_) | fail)
    apply Us T (f := numF) (l2 := l) (e := 3) (size := 1) (xs := []); exact rfl; exact rfl; exact rfl; exact hr.cons; exact (fun _ => rfl); exact (fun _ => rfl); exact rfl; (intro _ _; exact zd); omega; intro A' cap'
    repeat' (first | apply (zs2 ?_) | apply (zs65 ?_) | apply (zs68 ?_) | apply (zs74 ?_) | fail)
    rw [Nat.zero_add, List.nil_append]
    apply Yc; exact rfl; exact rfl; exact ⟨A', cap', rfl, rfl⟩
abbrev clA (g : Nat) (c : ClM) : HP := blk g (.cells #[.int .i64 c.flow, .slice c.rA c.rs.length c.rcap, .slice c.bA c.bs.length c.bcap, .slice c.wA c.ws.length c.wcap, .slice c.sA c.ss.length c.scap] 61 (0, 0))
theorem JP (e : Nat) (A : Option Addr) (cap : Nat) (l : List RowM) (r : RowM) : sl e 1 A (l.length + 1) cap (l.flatMap rowF ++ #[Value.slice r.A r.xs.length r.cap].toList) = sl e 1 A (l ++ [r]).length cap ((l ++ [r]).flatMap rowF) := by simp [List.flatMap_append, rowF]
theorem ZT (f : RowM → HP) (l : List RowM) (r : RowM) (H : List HP) : Perm (f r :: many (l.map f) :: H) (many ((l ++ [r]).map f) :: H) := by
  have := Perm.push (f r) (l.map f) [] H
  rw [List.append_nil] at this
  rw [List.map_append]
  exact this
theorem Yce {S : Int → Option (List Int)} {len per : Int} {N : Nat} (hS : ∀ a l, S a = some l → l.length ≤ N) : ∀ {k : Nat} {rel : Int} {b0 b : Int × Int × List Int}, b0.2.2.length ≤ N → WD S len per k rel b0 = some b → b.2.2.length ≤ N
  | 0, rel, b0, b, h0, h => by
    unfold WD at h
    rw [← Option.some.inj h]; exact h0
  | k + 1, rel, b0, b, h0, h => by
    unfold WD at h
    split at h
    · rw [← Option.some.inj h]; exact h0
    cases hs : S rel with
    | none => rw [hs] at h; cases h
    | some l =>
      rw [hs] at h
      refine Yce hS ?_ h
      split
      · show (l.map _).length ≤ N
        rw [List.length_map]; exact hS _ _ hs
      · exact h0
theorem YeD {x : WayM} (hok : Vl x) {b : Int × Int × List Int} (h : Vo x.n.net x.s.sch x.f x.r = some b) : b.2.2.length ≤ 72 := by
  have hl := hok.len
  refine Yce (fun a l hs => ?_) (Nat.zero_le _) h
  rw [Wu] at hs
  split at hs
  · cases hs
  rw [← Option.some.inj hs, List.length_map]
  have h1 : (runW x a).length ≤ Xp (YE x.n.net x.r) := YbH _ _ _ _ _
  have h2 := Ow hok (YE x.n.net x.r).length
  rw [List.take_length, J2] at h2
  omega
structure M8 (xs : List Int) where
  A1 : Option Addr
  c1 : Nat
  r : RowM
  hr : r.xs = xs
  A3 : Option Addr
  c3 : Nat
structure CkM where
  i : Nat
  c : ClM
def ClM.lens (c : ClM) : Prop := (c.rs.length ≤ 1000 ∧ c.bs.length ≤ 1000 ∧ c.ws.length ≤ 1000 ∧ c.ss.length ≤ 1000) ∧ (∀ r ∈ c.rs, r.xs.length ≤ 1000) ∧ ∀ r ∈ c.ss, r.xs.length ≤ 1000
set_option maxRecDepth 10000 in
set_option maxHeartbeats 8000000 in
theorem Ydm (n : NetM) (s : SchM) (x : RqM) {B : Nat} {w0 : World} {H : List HP} {w : World} (ht : TabsB B w0) (hin : n.In B w0 H) (hrs : Rd B w0 H s.A (s.cells.flatMap celF)) (hsl : s.cells.length ≤ 1000000000000) (hx : x.In B w0 H) (hr9 : x.rows.length ≤ 9) (hw : St B w0 H w) :
    Calls Tryz.prog 69 [n.val, s.val, rqV x].toArray w (Post B w0 fun v K => ∃ c : ClM, v = .tuple #[clV c, .bool (!(Ud n.net s.sch x.rq))] ∧ (Ud n.net s.sch x.rq = false → c.clm = clmE n.net s.sch x.rq ∧ c.lens) ∧ K = clQ c :: H) := by
  refine Yd Tryz.func69 Tryz.ntmps69 rfl rfl hw ?_
  have e1 : x.rq.1 = x.f := rfl
  have p1 := fun {H' : List HP} {w : World} (r : RowM) (hr : r ∈ x.rows) (hin : n.In B w0 H') (hrs : Rd B w0 H' s.A (s.cells.flatMap celF)) (hx : x.In B w0 H') (hw : St B w0 H' w) => YdG ⟨n, s, x.f, r.A, r.cap, r.xs⟩ ht ⟨hin, hrs, hx.rw_ r hr, hsl, (hx.rl r hr).1, (hx.rl r hr).2⟩ hw
  unfold NetM.val SchM.val rqV
  repeat' (first | apply (zs1 ?_) | apply (zs2 ?_) | (apply zg2; refine zs6 ?_) | (apply zg3; refine zs7 ?_) | (apply zg4; refine zs9 ?_) | (apply zg22; refine zs51 ?_) | (apply zg23; (refine zs52 ?_; intro _)) | (apply zg24; (refine zs54 ?_; intro _)) | (apply zg25; refine zs55 ?_) | apply (zs65 ?_) | apply (zs68 ?_) | apply (zs69 ?_) | apply (zs70 ?_) | apply (zs73 ?_) | fail)
  rename_i g3 g4 g5 g6 g8
  have hln : x.rq.2 = x.rows.map (·.xs) := rfl
  obtain ⟨P, hP⟩ : ∃ P, badR n.net s.sch x.f = P := ⟨_, rfl⟩
  have hla : Ud n.net s.sch x.rq = (x.rows.map (·.xs)).any P := by unfold Ud; rw [hln, e1, hP]
  rw [hla]
  refine Yk (fun z : CkM => [(22, .int .i64 (z.i : Nat)), (21, .int .i64 x.rows.length), (20, .slice x.A x.rows.length x.cap), (8, .pointer (some ⟨g8, 0, none⟩)), (6, .pointer (some ⟨g6, 0, none⟩)), (5, .pointer (some ⟨g5, 0, none⟩)), (4, .pointer (some ⟨g4, 0, none⟩)), (3, .pointer (some ⟨g3, 0, none⟩))]) (fun z => clA g8 z.c :: clQ z.c :: clA g6 (nilC 0) :: rqA g5 x :: schA g4 s :: netA g3 n :: H)
    (fun z => z.i ≤ x.rows.length ∧ z.c.clm = Ycj n.net s.sch x.rq ((x.rows.take z.i).map (·.xs)) ∧ z.c.lens ∧ ((x.rows.take z.i).map (·.xs)).any P = false) (fun z => x.rows.length - z.i) ⟨0, nilC x.f.1⟩ ⟨Nat.zero_le _, rfl, ⟨by unfold nilC; simp, by unfold nilC; simp, by unfold nilC; simp⟩, by simp⟩ ?_ ?_ ?_
  · exact zu
  · intro w hw
    have h1 := UT x.f.1 hw
    have h2 : St B w0 (clQ (nilC x.f.1) :: clA g8 (nilC x.f.1) :: clA g6 (nilC 0) :: rqA g5 x :: schA g4 s :: netA g3 n :: H) w := h1
    clear hw h1
    revert w
    exact zk
  rintro ⟨i, c⟩ ⟨hi, hcm, hlen, hno⟩ K hK
  dsimp only at hi hcm hlen hno ⊢
  have hrt : Rd B w0 (clA g8 c :: clQ c :: clA g6 (nilC 0) :: rqA g5 x :: schA g4 s :: netA g3 n :: H) x.A (x.rows.flatMap rowF) := hx.rt.cons.cons.cons.cons.cons.cons
  by_cases hlt : i < x.rows.length
  rotate_left
  · obtain rfl : i = x.rows.length := by omega
    rw [List.take_length] at hcm hno
    rw [hno]
    clear hK
    repeat' (first | apply (zs2 ?_) | (apply zg3; refine zs8 ?_) | (apply (zs17 ?_ ?_) <;> intro _ <;> try (exfalso; omega)) | (apply zg22; refine zs51 ?_) | apply (zs65 ?_) | apply (zs68 ?_) | apply (zs69 ?_) | apply (zs70 ?_) | (apply zg27; refine zs72 ?_) | apply (zs74 ?_) | apply (zs75 ?_) | apply (zs80 ?_) | apply (zs81 ?_) | fail)
    apply Yb5 T (H2 := clQ c :: H); exact rfl; exact rfl; exact rfl; exact zm; exact rfl; exact rfl; exact zk
    exact ⟨c, rfl, fun _ => ⟨hcm, hlen⟩, rfl⟩
  obtain ⟨r, hr⟩ : ∃ r, x.rows[i]? = some r := ⟨_, List.getElem?_eq_getElem hlt⟩
  have hrm := List.mem_of_getElem? hr
  have hri := hx.rw_ r hrm
  have p2 := fun {H' : List HP} {w : World} (hin : n.In B w0 H') (hrs : Rd B w0 H' s.A (s.cells.flatMap celF)) (hx : x.In B w0 H') (hw : St B w0 H' w) => p1 r hrm hin hrs hx hw
  dsimp only at p2
  obtain ⟨⟨⟨m, wst, sx⟩, e⟩, hRt⟩ : ∃ z, Xu n.net s.sch x.f r.xs = z := ⟨_, rfl⟩
  rw [hRt] at p2
  dsimp only at p2
  unfold flwV at p2
  repeat' (first | (apply Xd T; exact rfl; exact zm; exact rfl; exact zv; exact rfl; exact rfl) | apply (zs1 ?_) | apply (zs2 ?_) | (apply zg2; refine zs6 ?_) | (apply zg3; refine zs60 ?_) | (apply zg5; refine zs57 ?_) | (apply (zs17 ?_ ?_) <;> intro _ <;> try (exfalso; omega)) | apply (zs65 ?_) | apply (zs68 ?_) | apply (zs69 ?_) | apply (zs70 ?_) | (apply zg27; refine zs71 ?_) | apply (zs73 ?_) | apply (zs76 ?_) | fail)
  apply Yo _ en34
  exact za
  exact rfl
  exact fun _ hw => (p2 (hin.mono zk) (hrs.mono zk) (hx.mono zk) (hw))
  rintro _ _ ⟨A2, cap2, rfl, rfl⟩
  have hPr : P r.xs = decide (e ≠ 0 ∨ x.f.2.2.2.2.2 < m) := by rw [← hP]; unfold badR; rw [hRt]
  by_cases hbad : e ≠ 0 ∨ x.f.2.2.2.2.2 < m
  · rw [decide_eq_true hbad] at hPr
    have hany : (x.rows.map (·.xs)).any P = true := List.any_eq_true.2 ⟨r.xs, List.mem_map_of_mem hrm, hPr⟩
    rw [hany]
    clear hK
    by_cases he0 : e = 0
    all_goals (
      repeat' (first | apply (zs1 ?_) | apply (zs2 ?_) | (apply zg1; first | refine zs3 ?_ | refine zs4 ?_) | (apply zg2; refine zs6 ?_) | (apply zg3; refine zs7 ?_) | (apply zg6; first | refine zs11 ?_ | refine zs12 ?_) | apply (zs13 ?_) | (apply zg8; (refine zs16 ?_ ?_ <;> intro _ <;> try (exfalso; omega))) | (apply (zs19 ?_ ?_) <;> intro _ <;> try (exfalso; omega)) | (apply zg22; refine zs51 ?_) | (apply zg25; refine zs55 ?_) | apply (zs65 ?_) | apply (zs68 ?_) | apply (zs69 ?_) | apply (zs70 ?_) | (apply zg27; refine zs71 ?_) | apply (zs74 ?_) | apply (zs77 ?_) | apply (zs78 ?_) | fail)
      apply Yb5 T (H2 := clQ (nilC 0) :: H); exact rfl; exact rfl; exact rfl; exact zm; exact rfl; exact rfl
      · intro w hw
        have h5 : St B w0 H w := by
          revert w
          exact zk
        exact UT 0 h5
      exact ⟨nilC 0, rfl, (fun h => by cases h), rfl⟩)
  rw [decide_eq_false hbad] at hPr
  have he0 : e = 0 := Decidable.byContradiction fun h => hbad (.inl h)
  have hml : m ≤ x.f.2.2.2.2.2 := by omega
  subst he0
  obtain ⟨hri9, hsx9⟩ : r.xs.length ≤ 9 ∧ sx.length ≤ 72 := by
    have h0 : (Xu n.net s.sch x.f r.xs).2 = 0 := by rw [hRt]
    obtain ⟨h1, b, h2, h3⟩ := YgE h0
    have hok := Yes (x := ⟨n, s, x.f, r.A, r.cap, r.xs⟩) h1
    have h4 := YeD hok h2
    rw [hRt] at h3
    injection h3 with h3 _
    rw [← h3] at h4
    exact ⟨hok.len.2, h4⟩
  have hinv : ∀ (A1 : Option Addr) (c1 : Nat) (r8 : RowM) (_ : r8.xs = r.xs) (A3 : Option Addr) (c3 : Nat) (A4 : Option Addr) (c4 : Nat) (A5 : Option Addr) (c5 : Nat), (i + 1 ≤ x.rows.length ∧ (ClM.mk c.flow A1 c1 (c.rs ++ [r8]) A3 c3 (c.bs ++ [m]) A4 c4 (c.ws ++ [wst]) A5 c5 (c.ss ++ [⟨A2, cap2, sx⟩])).clm = Ycj n.net s.sch x.rq ((x.rows.take (i + 1)).map (·.xs)) ∧ (ClM.mk c.flow A1 c1 (c.rs ++ [r8]) A3 c3 (c.bs ++ [m]) A4 c4 (c.ws ++ [wst]) A5 c5 (c.ss ++ [⟨A2, cap2, sx⟩])).lens ∧ ((x.rows.take (i + 1)).map (·.xs)).any P = false) := by
    intro A1 c1 r8 hr8 A3 c3 A4 c4 A5 c5
    have hst : (x.rows.take (i + 1)).map (·.xs) = (x.rows.take i).map (·.xs) ++ [r.xs] := by
      rw [List.take_add_one, hr, Option.toList_some, List.map_append]; rfl
    have hli : ((x.rows.take i).map (·.xs)).length = i := by rw [List.length_map, List.length_take]; omega
    rw [hst]
    unfold ClM.clm Ycj at hcm
    injection hcm with f1 f2 f3 f4 f5
    have l1 : c.rs.length = i := by rw [← hli, ← f2, List.length_map]
    have l2 : c.bs.length = i := by rw [f3, List.length_map, hli]
    have l3 : c.ws.length = i := by rw [f4, List.length_map, hli]
    have l4 : c.ss.length = i := by
      have := congrArg List.length f5
      rw [List.length_map, List.length_map, hli] at this
      exact this
    refine ⟨by omega, ?_, ⟨?_, ?_, ?_⟩, ?_⟩
    · unfold ClM.clm Ycj
      simp only [List.map_append, List.map_cons, List.map_nil, hr8, f1, f2, f3, f4, f5, e1, hRt]
    · simp only [List.length_append, List.length_cons, List.length_nil, l1, l2, l3, l4]
      omega
    · intro q hq
      rcases List.mem_append.1 hq with h | h
      · exact hlen.2.1 q h
      · rw [List.mem_singleton.1 h, hr8]; omega
    · intro q hq
      rcases List.mem_append.1 hq with h | h
      · exact hlen.2.2 q h
      · rw [List.mem_singleton.1 h]; show sx.length ≤ 1000; omega
    · rw [List.any_append, hno]
      simp [hPr]
  repeat' (first | apply (zs1 ?_) | apply (zs2 ?_) | (apply zg1; refine zs4 ?_) | (apply zg2; refine zs6 ?_) | (apply zg3; refine zs7 ?_) | (apply zg6; refine zs12 ?_) | apply (zs13 ?_) | (apply zg8; (refine zs16 ?_ ?_ <;> intro _ <;> try (exfalso; omega))) | (apply (zs19 ?_ ?_) <;> intro _ <;> try (exfalso; omega)) | apply (zs65 ?_) | apply (zs68 ?_) | apply (zs69 ?_) | apply (zs70 ?_) | (apply zg27; refine zs72 ?_) | apply (zs76 ?_) | fail)
  refine Yal (nrs A2 cap2 sx :: clA g8 c :: sl 72 1 c.rA c.rs.length c.rcap (c.rs.flatMap rowF) :: many (c.rs.map rowQ) :: nrs c.bA c.bcap c.bs :: nrs c.wA c.wcap c.ws :: sl 24 1 c.sA c.ss.length c.scap (c.ss.flatMap rowF) :: many (c.ss.map rowQ) :: clA g6 (nilC 0) :: rqA g5 x :: schA g4 s :: netA g3 n :: H) (fun w hw => hw.perm (.cons _ (.cons _ (.open_ (clP c) _)))) ?_
  have hl1 := hlen.1
  refine Om (fun z : M8 r.xs => [(22, .int .i64 (i : Nat)), (21, .int .i64 x.rows.length), (20, .slice x.A x.rows.length x.cap), (8, .pointer (some ⟨g8, 0, none⟩)), (6, .pointer (some ⟨g6, 0, none⟩)), (5, .pointer (some ⟨g5, 0, none⟩)), (4, .pointer (some ⟨g4, 0, none⟩)), (3, .pointer (some ⟨g3, 0, none⟩)), (13, .slice A2 sx.length cap2), (12, .int .i64 wst)])
    (fun z => nrs A2 cap2 sx :: blk g8 (.cells #[.int .i64 c.flow, .slice z.A1 (c.rs ++ [z.r]).length z.c1, .slice z.A3 (c.bs ++ [m]).length z.c3, .slice c.wA c.ws.length c.wcap, .slice c.sA c.ss.length c.scap] 61 (0, 0)) :: sl 72 1 z.A1 (c.rs ++ [z.r]).length z.c1 ((c.rs ++ [z.r]).flatMap rowF) :: many ((c.rs ++ [z.r]).map rowQ) :: nrs z.A3 z.c3 (c.bs ++ [m]) :: nrs c.wA c.wcap c.ws :: sl 24 1 c.sA c.ss.length c.scap (c.ss.flatMap rowF) :: many (c.ss.map rowQ) :: clA g6 (nilC 0) :: rqA g5 x :: schA g4 s :: netA g3 n :: H) ?_ ?_
  · intro K8 hK8
    apply OF (.n1 0 (.n1 1 (.n1 2 (.n1 6 (.n1 7 (.n1 8 (.n2 3 (.n2 4 (.n2 5 (.n1 11 (.n1 9 (.n1 10 .done))) 9 (.n1 5 (.n1 11 (.n1 10 .done)))) 9 (.n1 4 (.n1 5 (.n1 11 (.n1 10 .done))))) 9 (.n1 3 (.n1 4 (.n1 5 (.n1 11 (.n1 10 .done)))))))))))) [12, 13, 14] [false, true]
    kernel_rfl
    kernel_rfl
    exact zy
    (simp only [Yj, nthO]; rfl)
    repeat' (first | ((apply Yo _ YiE); exact za; exact rfl; exact fun _ hw => Og r.xs (by omega) (hri.mono zk) hw; rintro _ _ ⟨A8, cap8, rfl, rfl⟩) | (apply YfY; (simp only [nthO]; rfl); (simp only [nthO]; rfl)) | (apply YfX; (simp only [nthO]; rfl)) | (apply OL; (repeat (first | with_reducible exact Yh | (with_reducible apply Yg; (repeat (first | with_reducible exact Yf | with_reducible apply Ye)))))) | (apply Ybh; exact zp) | apply (zs1 ?_) | (apply zg2; refine zs6 ?_) | (apply zg3; refine zs7 ?_) | (apply zg21; (refine zs49 ?_; intro _ _)) | (apply zg22; refine zs50 ?_) | (apply zg26; (refine zs56 ?_; intro _)) | apply (zs65 ?_) | (apply Yn; exact zp) | apply (zs87 ?_) | (apply Yl; (repeat (first | with_reducible exact Yh | (with_reducible apply Yg; (repeat (first | with_reducible exact Yf | with_reducible apply Ye)))))) | apply (zs93 ?_) | apply (zs94 ?_) | fail)
    all_goals (
      first
        | (rename_i A1 c1 g A3 c3; guard_hyp g : Nat; guard_hyp A1 : Option Addr)
        | (rename_i A1 c1 A3 c3; guard_hyp A1 : Option Addr)
      refine hK8 ⟨A1, c1, ⟨A8, cap8, r.xs⟩, rfl, A3, c3⟩ _ _ zu ?_
      intro w hw
      have q1 : sl 72 1 A1 (c.rs.length + 1) c1 (c.rs.flatMap rowF ++ #[Value.slice A8 r.xs.length cap8].toList) = sl 72 1 A1 (c.rs ++ [(⟨A8, cap8, r.xs⟩ : RowM)]).length c1 ((c.rs ++ [(⟨A8, cap8, r.xs⟩ : RowM)]).flatMap rowF) := JP _ _ _ _ ⟨A8, cap8, r.xs⟩
      rw [q1, X5, show c.rs.length + 1 = (c.rs ++ [(⟨A8, cap8, r.xs⟩ : RowM)]).length by simp, show c.bs.length + 1 = (c.bs ++ [m]).length by simp] at hw
      have h5 : St B w0 (nrs A2 cap2 sx :: blk g8 (.cells #[.int .i64 c.flow, .slice A1 (c.rs ++ [(⟨A8, cap8, r.xs⟩ : RowM)]).length c1, .slice A3 (c.bs ++ [m]).length c3, .slice c.wA c.ws.length c.wcap, .slice c.sA c.ss.length c.scap] 61 (0, 0)) :: sl 72 1 A1 (c.rs ++ [(⟨A8, cap8, r.xs⟩ : RowM)]).length c1 ((c.rs ++ [(⟨A8, cap8, r.xs⟩ : RowM)]).flatMap rowF) :: sl 3 1 A8 r.xs.length cap8 (r.xs.flatMap numF) :: many (c.rs.map rowQ) :: nrs A3 c3 (c.bs ++ [m]) :: nrs c.wA c.wcap c.ws :: sl 24 1 c.sA c.ss.length c.scap (c.ss.flatMap rowF) :: many (c.ss.map rowQ) :: clA g6 (nilC 0) :: rqA g5 x :: schA g4 s :: netA g3 n :: H) w := by
        clear q1
        revert w
        exact zk
      exact h5.perm (.cons _ (.cons _ (.cons _ (ZT rowQ c.rs ⟨A8, cap8, r.xs⟩ _)))))
  rintro ⟨A1, c1, r8, hr8, A3, c3⟩
  dsimp only
  repeat' (first | fail)
  apply OF (.n1 0 (.n1 1 (.n1 2 (.n1 5 (.n1 6 (.n1 7 (.n2 3 (.n2 4 (.n1 10 (.n1 8 (.n1 9 .done))) 8 (.n1 4 (.n1 10 (.n1 9 .done)))) 8 (.n1 3 (.n1 4 (.n1 10 (.n1 9 .done))))))))))) [11, 12, 13] [false, true]
  kernel_rfl
  kernel_rfl
  exact zy
  (simp only [Yj, nthO]; rfl)
  repeat' (first | (apply YfY; (simp only [nthO]; rfl); (simp only [nthO]; rfl)) | (apply YfX; (simp only [nthO]; rfl)) | (apply OL; (repeat (first | with_reducible exact Yh | (with_reducible apply Yg; (repeat (first | with_reducible exact Yf | with_reducible apply Ye)))))) | (apply Ybh; exact zp) | apply (zs1 ?_) | (apply zg2; refine zs6 ?_) | (apply zg3; refine zs7 ?_) | (apply zg13; refine zs30 ?_) | (apply zg21; (refine zs49 ?_; intro _ _)) | (apply zg22; refine zs50 ?_) | (apply zg26; (refine zs56 ?_; intro _)) | apply (zs65 ?_) | (apply Yn; exact zp) | apply (zs68 ?_) | apply (zs70 ?_) | apply (zs79 ?_) | apply (zs87 ?_) | (apply Yl; (repeat (first | with_reducible exact Yh | (with_reducible apply Yg; (repeat (first | with_reducible exact Yf | with_reducible apply Ye)))))) | apply (zs93 ?_) | apply (zs94 ?_) | fail)
  all_goals (
    first
      | (rename_i A4 c4 g A5 c5; guard_hyp g : Nat; guard_hyp A4 : Option Addr)
      | (rename_i A4 c4 A5 c5; guard_hyp A4 : Option Addr)
    refine hK ⟨i + 1, ⟨c.flow, A1, c1, c.rs ++ [r8], A3, c3, c.bs ++ [m], A4, c4, c.ws ++ [wst], A5, c5, c.ss ++ [⟨A2, cap2, sx⟩]⟩⟩ ?_ ?_ _ _ zu ?_
    · exact hinv A1 c1 r8 hr8 A3 c3 A4 c4 A5 c5
    · dsimp only; omega
    intro w hw
    have q1 : sl 24 1 A5 (c.ss.length + 1) c5 (c.ss.flatMap rowF ++ #[Value.slice A2 sx.length cap2].toList) = sl 24 1 A5 (c.ss ++ [(⟨A2, cap2, sx⟩ : RowM)]).length c5 ((c.ss ++ [(⟨A2, cap2, sx⟩ : RowM)]).flatMap rowF) := JP _ _ _ _ ⟨A2, cap2, sx⟩
    rw [q1, X5, show c.ss.length + 1 = (c.ss ++ [(⟨A2, cap2, sx⟩ : RowM)]).length by simp, show c.ws.length + 1 = (c.ws ++ [wst]).length by simp] at hw
    have h5 : St B w0 (blk g8 (.cells #[.int .i64 c.flow, .slice A1 (c.rs ++ [r8]).length c1, .slice A3 (c.bs ++ [m]).length c3, .slice A4 (c.ws ++ [wst]).length c4, .slice A5 (c.ss ++ [(⟨A2, cap2, sx⟩ : RowM)]).length c5] 61 (0, 0)) :: sl 72 1 A1 (c.rs ++ [r8]).length c1 ((c.rs ++ [r8]).flatMap rowF) :: many ((c.rs ++ [r8]).map rowQ) :: nrs A3 c3 (c.bs ++ [m]) :: nrs A4 c4 (c.ws ++ [wst]) :: sl 24 1 A5 (c.ss ++ [(⟨A2, cap2, sx⟩ : RowM)]).length c5 ((c.ss ++ [(⟨A2, cap2, sx⟩ : RowM)]).flatMap rowF) :: nrs A2 cap2 sx :: many (c.ss.map rowQ) :: clA g6 (nilC 0) :: rqA g5 x :: schA g4 s :: netA g3 n :: H) w := by
      clear q1
      revert w
      exact zk
    have h6 := h5.perm (.cons _ (.cons _ (.cons _ (.cons _ (.cons _ (.cons _ (ZT rowQ c.ss ⟨A2, cap2, sx⟩ _)))))))
    exact h6.perm (.cons _ (.close [_, _, _, _, _, _] _)))
open Go.RowKit Go.Eng Go.Nw
def netN (g : Nat) (n : NetM) : HP := blk g (.cells #[.int .i64 n.nodes, .slice n.pA n.rows.length n.pcap, .int .i64 n.noise, .int .i64 n.thr, .slice n.lA n.links.length n.lcap, .slice n.mA n.margin.length n.mcap] 26 (0, 0))
set_option maxRecDepth 10000 in
set_option maxHeartbeats 2000000 in
theorem Oe (n : NetM) (l : List Flw) (s : SchM) (hck : YA n.net = 0) (hlen : l.length ≤ 1000) (hl : s.cells.length ≤ 1000000000000) {A : Option Addr} {cap B : Nat} {w0 : World} {H : List HP} {w : World} (hin : n.In B w0 H) (hrf : Rd B w0 H A (l.flatMap flwF)) (hr : Rd B w0 H s.A (s.cells.flatMap celF)) (hw : St B w0 H w) :
    Calls Tryz.prog 55 [n.val, .slice A l.length cap, s.val].toArray w (Post B w0 fun v K => v = .tuple #[.int .i64 (JB n.net l s.sch).1, .int .i64 (JB n.net l s.sch).2] ∧ K = H) := by
  refine Yd Tryz.func55 Tryz.ntmps55 rfl rfl hw ?_
  have e4 : s.sch.cells.length = s.cells.length := rfl
  have hE : JB n.net l s.sch = Yx (Vd n.net l s.sch) s.cells.length 0 := rfl
  rw [hE]
  repeat' (first | apply (zs1 ?_) | apply (zs2 ?_) | (apply zg2; refine zs6 ?_) | (apply zg3; refine zs7 ?_) | (apply zg4; refine zs9 ?_) | (apply zg23; (refine zs52 ?_; intro _)) | apply (zs65 ?_) | apply (zs68 ?_) | apply (zs69 ?_) | apply (zs70 ?_) | apply (zs73 ?_) | fail)
  rename_i gn gs
  refine Yk (fun (i : Nat) => [(13, .int .i64 i), (12, .int .i64 s.cells.length), (11, .slice s.A s.cells.length s.cap), (3, .pointer (some ⟨gn, 0, none⟩)), (5, .pointer (some ⟨gs, 0, none⟩)), (1, .slice A l.length cap)])
    (fun _ => blk gs (.cells #[.int .i64 s.len, .int .i64 s.off, .slice s.A s.cells.length s.cap] 30 (0, 0)) :: netN gn n :: H) (fun i => i ≤ s.cells.length ∧ ∀ k, k < i → Vd n.net l s.sch k = 0) (fun i => s.cells.length - i) 0 ⟨Nat.zero_le _, fun k hk => absurd hk (Nat.not_lt_zero _)⟩ ?_ (fun w hw => hw) ?_
  · exact zu
  rintro i ⟨hi, hall⟩ K hK
  unfold netN
  have hrc := fun (X : HP) => ((hr.cons (X := netN gn n)).cons (X := blk gs (.cells #[.int .i64 s.len, .int .i64 s.off, .slice s.A s.cells.length s.cap] 30 (0, 0)))).cons (X := X)
  by_cases hlt : i < s.cells.length
  · have hget : s.cells[i]? = some (Ym s.sch i) := YD (s := s.sch) hlt
    have hbad : Vd n.net l s.sch i ≠ 0 → Yx (Vd n.net l s.sch) s.cells.length 0 = ((i : Int), Vd n.net l s.sch i) := fun h => Xb (fun k _ hk => hall k hk) (Nat.zero_le _) (by omega) h
    have hstep : Vd n.net l s.sch i = 0 → ∀ k, k < i + 1 → Vd n.net l s.sch k = 0 := fun h k hk => by
      by_cases e : k = i
      · rw [e]; exact h
      · exact hall k (by omega)
    obtain ⟨c, hc⟩ : ∃ c, Ym s.sch i = c := ⟨_, rfl⟩
    have hce : Vd n.net l s.sch i = if X8 s.sch c = false then 2 else if YY n.net (YR c) (toC c) = false ∨ JJ l (UL c) < 0 then 7 else if 0 < i ∧ ZG (Ym s.sch (i - 1)) c = false then 5 else 0 := by
      unfold Vd
      rw [hc]
    rw [hc] at hget
    have hplc := fun {H' : List HP} {w : World} (hw : St B w0 H' w) => WY s c hw
    cases hp : X8 s.sch c with
    | false =>
      rw [hp] at hplc
      rw [hp, if_pos rfl] at hce
      rw [hbad (by rw [hce]; decide), hce]
      repeat' (first | ((first | apply Ya Jq | apply Yb Jq); exact za; exact rfl; exact fun _ hw => (hplc hw)) | apply (zs1 ?_) | apply (zs2 ?_) | (apply zg3; first | refine zs8 ?_ | refine zs61 ?_) | (apply zg5; refine zs57 ?_) | (apply (zs17 ?_ ?_) <;> intro _ <;> try (exfalso; omega)) | (apply zg20; refine zs48 ?_) | (apply zg22; refine zs51 ?_) | (apply zg24; (refine zs54 ?_; intro _)) | apply (zs65 ?_) | apply (zs68 ?_) | apply (zs69 ?_) | apply (zs70 ?_) | (apply zg27; refine zs71 ?_) | apply (zs73 ?_) | apply (zs74 ?_) | apply (zs76 ?_) | apply (zs77 ?_) | apply (zs78 ?_) | fail)
      apply Yi H
      · exact zk
      apply Yp; exact rfl; exact rfl; exact rfl; exact ⟨rfl, rfl⟩
    | true =>
    rw [hp] at hplc
    rw [hp, if_neg (by decide)] at hce
    have hix := fun {H' : List HP} {w : World} (hin : n.In B w0 H') (hw : St B w0 H' w) => Zk n c.2.2.1 c.2.2.2.1 hin hw
    have hus := fun {H' : List HP} {w : World} (hin : n.In B w0 H') (hw : St B w0 H' w) => Wz n (ZE n.net c.2.2.1 c.2.2.2.1) hin hw
    rw [YgP hck] at hus
    have hfi := fun {H' : List HP} {w : World} (hr : Rd B w0 H' A (l.flatMap flwF)) (hw : St B w0 H' w) => Ydu l c.2.2.2.2 hlen (cap := cap) hr hw
    have hgf : YY n.net (YR c) (toC c) = YY n.net c.2.2.1 c.2.2.2.1 := rfl
    have hff : JJ l (UL c) = JJ l c.2.2.2.2 := rfl
    by_cases hg : YY n.net c.2.2.1 c.2.2.2.1 = false ∨ JJ l c.2.2.2.2 < 0
    · rw [hgf, hff, if_pos hg] at hce
      rw [hbad (by rw [hce]; decide), hce]
      cases hgd : YY n.net c.2.2.1 c.2.2.2.1 with
      | false =>
        rw [hgd] at hus
        repeat' (first | ((first | apply Ya Jq | apply Yb Jq); exact za; exact rfl; exact fun _ hw => (hplc hw)) | ((first | apply Ya en95 | apply Yb en95); exact za; exact rfl; exact fun _ hw => (hix hin.cons.cons.cons hw)) | ((first | apply Ya Jr | apply Yb Jr); exact za; exact rfl; exact fun _ hw => (hus hin.cons.cons.cons hw)) | apply (zs1 ?_) | apply (zs2 ?_) | (apply zg1; refine zs3 ?_) | (apply zg2; refine zs6 ?_) | (apply zg3; first | refine zs7 ?_ | refine zs8 ?_ | refine zs61 ?_) | (apply zg5; refine zs57 ?_) | (apply zg6; refine zs11 ?_) | (apply (zs17 ?_ ?_) <;> intro _ <;> try (exfalso; omega)) | (apply zg20; first | refine zs47 ?_ | refine zs48 ?_) | (apply zg22; refine zs51 ?_) | (apply zg24; (refine zs54 ?_; intro _)) | apply (zs65 ?_) | apply (zs66 ?_) | apply (zs68 ?_) | apply (zs69 ?_) | apply (zs70 ?_) | (apply zg27; first | refine zs71 ?_ | refine zs72 ?_) | apply (zs73 ?_) | apply (zs74 ?_) | apply (zs76 ?_) | apply (zs77 ?_) | apply (zs78 ?_) | (apply zg28; refine zs84 ?_) | fail)
        apply Yi H
        · exact zk
        apply Yp; exact rfl; exact rfl; exact rfl; exact ⟨rfl, rfl⟩
      | true =>
        have hneg : JJ l c.2.2.2.2 < 0 := hg.elim (fun h => by rw [hgd] at h; cases h) id
        rw [hgd] at hus
        repeat' (first | ((first | apply Ya Jq | apply Yb Jq); exact za; exact rfl; exact fun _ hw => (hplc hw)) | ((first | apply Ya en95 | apply Yb en95); exact za; exact rfl; exact fun _ hw => (hix hin.cons.cons.cons hw)) | ((first | apply Ya Jr | apply Yb Jr); exact za; exact rfl; exact fun _ hw => (hus hin.cons.cons.cons hw)) | ((first | apply Ya WL | apply Yb WL); exact za; exact rfl; exact fun _ hw => (hfi hrf.cons.cons.cons hw)) | apply (zs1 ?_) | apply (zs2 ?_) | (apply zg1; refine zs4 ?_) | (apply zg2; refine zs6 ?_) | (apply zg3; first | refine zs7 ?_ | refine zs8 ?_ | refine zs61 ?_) | (apply zg5; refine zs57 ?_) | (apply zg6; refine zs12 ?_) | (apply (zs17 ?_ ?_) <;> intro _ <;> try (exfalso; omega)) | (apply zg20; refine zs47 ?_) | (apply zg22; refine zs51 ?_) | (apply zg24; (refine zs54 ?_; intro _)) | apply (zs65 ?_) | apply (zs66 ?_) | apply (zs68 ?_) | apply (zs69 ?_) | apply (zs70 ?_) | (apply zg27; first | refine zs71 ?_ | refine zs72 ?_) | apply (zs73 ?_) | apply (zs74 ?_) | apply (zs76 ?_) | apply (zs77 ?_) | apply (zs78 ?_) | (apply zg28; refine zs84 ?_) | fail)
        apply Yi H
        · exact zk
        apply Yp; exact rfl; exact rfl; exact rfl; exact ⟨rfl, rfl⟩
    have hgd : YY n.net c.2.2.1 c.2.2.2.1 = true := by
      cases h : YY n.net c.2.2.1 c.2.2.2.1 with
      | true => rfl
      | false => exact absurd (.inl h) hg
    have hpos : ¬ JJ l c.2.2.2.2 < 0 := fun h => hg (.inr h)
    rw [hgf, hff, if_neg hg] at hce
    rw [hgd] at hus
    rcases Nat.eq_zero_or_pos i with h0 | h0
    · subst h0
      rw [if_neg (by omega)] at hce
      repeat' (first | ((first | apply Ya Jq | apply Yb Jq); exact za; exact rfl; exact fun _ hw => (hplc hw)) | ((first | apply Ya en95 | apply Yb en95); exact za; exact rfl; exact fun _ hw => (hix hin.cons.cons.cons hw)) | ((first | apply Ya Jr | apply Yb Jr); exact za; exact rfl; exact fun _ hw => (hus hin.cons.cons.cons hw)) | ((first | apply Ya WL | apply Yb WL); exact za; exact rfl; exact fun _ hw => (hfi hrf.cons.cons.cons hw)) | apply (zs1 ?_) | apply (zs2 ?_) | (apply zg1; first | refine zs3 ?_ | refine zs4 ?_) | (apply zg2; refine zs6 ?_) | (apply zg3; first | refine zs7 ?_ | refine zs8 ?_ | refine zs61 ?_) | (apply zg5; refine zs57 ?_) | (apply zg6; refine zs12 ?_) | (apply (zs17 ?_ ?_) <;> intro _ <;> try (exfalso; omega)) | (apply (zs19 ?_ ?_) <;> intro _ <;> try (exfalso; omega)) | (apply zg13; refine zs30 ?_) | (apply zg20; refine zs47 ?_) | (apply zg22; refine zs51 ?_) | (apply zg24; (refine zs54 ?_; intro _)) | apply (zs65 ?_) | apply (zs66 ?_) | apply (zs68 ?_) | apply (zs69 ?_) | apply (zs70 ?_) | (apply zg27; first | refine zs71 ?_ | refine zs72 ?_) | apply (zs73 ?_) | apply (zs76 ?_) | apply (zs79 ?_) | (apply zg28; refine zs84 ?_) | fail)
      apply hK (0 + 1)
      · exact ⟨by omega, hstep hce⟩
      · omega
      · exact zu
      · unfold netN
        exact zk
    have hget2 : s.cells[((i : Int) - 1).toNat]? = some (Ym s.sch (i - 1)) := by
      rw [show ((i : Int) - 1).toNat = i - 1 by omega]
      exact YD (s := s.sch) (show i - 1 < s.cells.length by omega)
    obtain ⟨p, hpv⟩ : ∃ p, Ym s.sch (i - 1) = p := ⟨_, rfl⟩
    rw [hpv] at hce hget2
    have hcl := Ydo p c
    have hcm := fun {H' : List HP} {w : World} (hw : St B w0 H' w) => V8 p c hw
    obtain ⟨q, hq⟩ : ∃ q, cmpV (nums p) (nums c) = q := ⟨_, rfl⟩
    rw [hq] at hcl hcm
    by_cases hlt2 : q < 0
    · rw [hcl.1 hlt2, if_neg (by simp)] at hce
      repeat' (first | ((first | apply Ya Jq | apply Yb Jq); exact za; exact rfl; exact fun _ hw => (hplc hw)) | ((first | apply Ya en95 | apply Yb en95); exact za; exact rfl; exact fun _ hw => (hix hin.cons.cons.cons hw)) | ((first | apply Ya Jr | apply Yb Jr); exact za; exact rfl; exact fun _ hw => (hus hin.cons.cons.cons hw)) | ((first | apply Ya WL | apply Yb WL); exact za; exact rfl; exact fun _ hw => (hfi hrf.cons.cons.cons hw)) | ((first | apply Ya en62 | apply Yb en62); exact za; exact rfl; exact fun _ hw => (hcm hw)) | apply (zs1 ?_) | apply (zs2 ?_) | (apply zg1; refine zs4 ?_) | (apply zg2; refine zs6 ?_) | (apply zg3; first | refine zs7 ?_ | refine zs8 ?_ | refine zs61 ?_) | (apply zg5; refine zs57 ?_) | (apply zg6; first | refine zs11 ?_ | refine zs12 ?_) | (apply (zs17 ?_ ?_) <;> intro _ <;> try (exfalso; omega)) | (apply (zs19 ?_ ?_) <;> intro _ <;> try (exfalso; omega)) | (apply (zs20 ?_ ?_) <;> intro _ <;> try (exfalso; omega)) | (apply zg13; refine zs30 ?_) | (apply zg14; refine zs31 ?_) | (apply zg20; refine zs47 ?_) | (apply zg22; refine zs51 ?_) | (apply zg24; (refine zs54 ?_; intro _)) | apply (zs65 ?_) | apply (zs66 ?_) | apply (zs68 ?_) | apply (zs69 ?_) | apply (zs70 ?_) | (apply zg27; first | refine zs71 ?_ | refine zs72 ?_) | apply (zs73 ?_) | apply (zs76 ?_) | apply (zs79 ?_) | (apply zg28; refine zs84 ?_) | fail)
      apply hK (i + 1)
      · exact ⟨by omega, hstep hce⟩
      · omega
      · exact zu
      · unfold netN
        exact zk
    · have hnl : ZG p c = false := by
        cases h : ZG p c with
        | false => rfl
        | true => exact absurd (hcl.2 h) hlt2
      rw [hnl, if_pos ⟨h0, rfl⟩] at hce
      rw [hbad (by rw [hce]; decide), hce]
      repeat' (first | ((first | apply Ya Jq | apply Yb Jq); exact za; exact rfl; exact fun _ hw => (hplc hw)) | ((first | apply Ya en95 | apply Yb en95); exact za; exact rfl; exact fun _ hw => (hix hin.cons.cons.cons hw)) | ((first | apply Ya Jr | apply Yb Jr); exact za; exact rfl; exact fun _ hw => (hus hin.cons.cons.cons hw)) | ((first | apply Ya WL | apply Yb WL); exact za; exact rfl; exact fun _ hw => (hfi hrf.cons.cons.cons hw)) | ((first | apply Ya en62 | apply Yb en62); exact za; exact rfl; exact fun _ hw => (hcm hw)) | apply (zs1 ?_) | apply (zs2 ?_) | (apply zg1; refine zs4 ?_) | (apply zg2; refine zs6 ?_) | (apply zg3; first | refine zs7 ?_ | refine zs8 ?_ | refine zs61 ?_) | (apply zg5; refine zs57 ?_) | (apply zg6; first | refine zs11 ?_ | refine zs12 ?_) | (apply (zs17 ?_ ?_) <;> intro _ <;> try (exfalso; omega)) | (apply (zs19 ?_ ?_) <;> intro _ <;> try (exfalso; omega)) | (apply (zs20 ?_ ?_) <;> intro _ <;> try (exfalso; omega)) | (apply zg14; refine zs31 ?_) | (apply zg20; refine zs47 ?_) | (apply zg22; refine zs51 ?_) | (apply zg24; (refine zs54 ?_; intro _)) | apply (zs65 ?_) | apply (zs66 ?_) | apply (zs68 ?_) | apply (zs69 ?_) | apply (zs70 ?_) | (apply zg27; first | refine zs71 ?_ | refine zs72 ?_) | apply (zs73 ?_) | apply (zs74 ?_) | apply (zs76 ?_) | apply (zs77 ?_) | apply (zs78 ?_) | (apply zg28; refine zs84 ?_) | fail)
      apply Yi H
      · exact zk
      apply Yp; exact rfl; exact rfl; exact rfl; exact ⟨rfl, rfl⟩
  · repeat' (first | apply (zs2 ?_) | (apply (zs17 ?_ ?_) <;> intro _ <;> try (exfalso; omega)) | apply (zs65 ?_) | apply (zs68 ?_) | apply (zs69 ?_) | apply (zs70 ?_) | (apply zg27; refine zs72 ?_) | apply (zs74 ?_) | apply (zs75 ?_) | apply (zs80 ?_) | apply (zs81 ?_) | fail)
    rw [show i = s.cells.length by omega] at hall
    rw [Xx fun k _ hk => hall k (by omega)]
    apply Yi H
    · exact zk
    apply Yp; exact rfl; exact rfl; exact rfl; exact ⟨rfl, rfl⟩
end Go.Proofs.YtmalhidldgfeoaaGreatDoor
namespace Go.Eng
open Go.RowKit
theorem YdZ {P : Program} {B : Nat} {w0 : World} {env : Env} {H : List HP} {n : Nat} (T : Tab P) {fn : Func} {Φ : Value → List HP → Prop} {p g rt : Nat} {v : Value} {cs : Array Value} {tt : TypeId} {fr : Nat × Nat} (hr : fn.results = #[.cell p rt]) (hp : get env p = some (.pointer (some ⟨g, 0, none⟩)))
    (hm : Eng.blk g (.cells cs tt fr) ∈ H) (hv : nth cs.toList 0 = some v) (ht : Eng.look T.sc rt = some ()) {H2 : List HP} (hH : ∀ w, St B w0 H w → St B w0 H2 w) (h : Φ v H2) : VQ ⟨n, [], none⟩ B w0 (bodyPost P fn (Post B w0 Φ)) .ret env H := by
  refine ⟨fun a w ha hw => bodyPost_ret (v := v) ?_ ha.defers ⟨_, H2, rfl, hH w hw, h⟩⟩
  have hp' := ha.slot p _ hp
  rw [Ybx] at hv
  have hc := YT (i := 0) (hw.blk hm).1
  simp [results, hr, Array.getD_eq_getD_getElem?, hp', asAddr, loadVar, XC (T.scal ht).1, hc, hv]
end Go.Eng
namespace Go.Proofs.YtmalhidldgfeoaaGreatDoor
open Go.RowKit Go.Eng Go.Nw
theorem Yfu {s : Sch} {i : Nat} (hi : i < s.cells.length) (h : ∀ j ∈ inI s (Ym s i).1 s.cells.length, j < i → VN (Ym s i) (Ym s j) = false) : Jk s i = false := by
  unfold Jk
  rw [List.any_eq_false]
  intro j hj
  have hj := List.mem_range.1 hj
  rw [Bool.and_eq_true, decide_eq_true_eq]
  rintro ⟨h1, h2⟩
  rw [h j (V1.2 ⟨by omega, h1⟩) hj] at h2
  cases h2
theorem Yfv {s : Sch} {i j : Nat} (hji : j < i) (hs : (Ym s j).1 = (Ym s i).1) (ht : VN (Ym s i) (Ym s j) = true) : Jk s i = true := by
  unfold Jk
  rw [List.any_eq_true]
  exact ⟨j, List.mem_range.2 hji, by rw [decide_eq_true hs, ht]; rfl⟩
set_option maxRecDepth 10000 in
set_option maxHeartbeats 2000000 in
theorem YdO (s : SchM) (i : Nat) (hi : i < s.cells.length) (hl : s.cells.length ≤ 1000) {B : Nat} {w0 : World} {H : List HP} {w : World} (hr : Rd B w0 H s.A (s.cells.flatMap celF)) (hw : St B w0 H w) :
    Calls Tryz.prog 56 [s.val, .int .i64 i].toArray w (Post B w0 fun v K => v = .bool (Jk s.sch i) ∧ K = H) := by
  refine XR Tryz.func56 Tryz.ntmps56 rfl rfl hw ?_
  have hget : s.cells[i]? = some (Ym s.sch i) := YD (s := s.sch) hi
  obtain ⟨c, hc⟩ : ∃ c, Ym s.sch i = c := ⟨_, rfl⟩
  rw [hc] at hget
  repeat' (first | (apply zg2; refine zs6 ?_) | (apply zg3; first | refine zs7 ?_ | refine zs8 ?_ | refine zs61 ?_) | (apply zg5; refine zs57 ?_) | (apply zg22; refine zs51 ?_) | (apply zg23; first | (refine zs52 ?_; intro _) | (refine zs53 ?_; intro _)) | (apply zg24; (refine zs54 ?_; intro _)) | apply (zs65 ?_) | apply (zs68 ?_) | apply (zs69 ?_) | apply (zs70 ?_) | fail)
  rename_i gs gi gr gc
  apply Yo _ en59
  exact za
  exact rfl
  exact fun _ hw => (Ycy s c.1 (hw))
  rintro _ _ ⟨g1, g2, rfl, rfl⟩
  repeat' (first | apply (zs65 ?_) | apply (zs68 ?_) | apply (zs73 ?_) | fail)
  have hr6 : Rd B w0 (intB g2 c.1 :: schB g1 s :: blk gc (.cells (celF c).toArray 40 (0, 0)) :: blk gi (.cells #[.int .i64 i] 3 (0, 0)) :: schB gs s :: H) s.A (s.cells.flatMap celF) := hr.cons.cons.cons.cons.cons
  refine XT (gf := 118) (lb := [.pointer (some ⟨g1, 0, none⟩), .pointer (some ⟨g2, 0, none⟩)]) (xs := inXs s.sch c.1) (intB g2 c.1 :: schB g1 s :: blk gc (.cells (celF c).toArray 40 (0, 0)) :: blk gi (.cells #[.int .i64 i] 3 (0, 0)) :: schB gs s :: H) (fun _ : Unit => [blk gr (.cells #[.bool false] 4 (0, 0))])
    (fun k _ => ∀ m j, m < k → (inI s.sch c.1 s.cells.length)[m]? = some j → j < i → VN c (Ym s.sch j) = false) (fun e K => e = .ret ∧ Jk s.sch i = true ∧ K = [blk gr (.cells #[.bool true] 4 (0, 0))]) () rfl YhG (Ycx s c.1 g1 g2 hr6 (by omega) (.tail _ (.head _)) (.head _)) rfl ?_ (by kernel_rfl) (by kernel_rfl) ?_ (fun m j h => absurd h (Nat.not_lt_zero _)) ?_ ?_ ?_
  · intro args h
    obtain ⟨k, hk⟩ := List.mem_iff_getElem?.1 h
    obtain ⟨i, _, _, rfl⟩ := UP hk
    rfl
  · exact fun w hw => hw.perm (.trans (.cons _ (.cons _ (.swap _ _ _))) (.trans (.cons _ (.swap _ _ _)) (.swap _ _ _)))
  · rintro l k args R ⟨⟩ hk hI
    obtain ⟨j, hj, hlt, rfl⟩ := UP hk
    have hlt2 : j < s.cells.length := hlt
    dsimp only [VH, List.cons_append, List.nil_append]
    have hgj : s.cells[j]? = some (Ym s.sch j) := YD (s := s.sch) hlt
    have hjs : (Ym s.sch j).1 = c.1 := (V1.1 (List.mem_of_getElem? hj)).2
    obtain ⟨d, hd⟩ : ∃ d, Ym s.sch j = d := ⟨_, rfl⟩
    rw [hd] at hgj
    have htc : VN c d = true ↔ (c.2.2.1 = d.2.2.1 ∨ c.2.2.1 = d.2.2.2.1 ∨ c.2.2.2.1 = d.2.2.1 ∨ c.2.2.2.1 = d.2.2.2.1) := by unfold VN YR toC; rw [decide_eq_true_eq]
    repeat' (first | apply (zs2 ?_) | apply (zs65 ?_) | apply (zs70 ?_) | fail)
    apply JE Yf
    intro R'
    unfold intB schB
    have hr7 : Rd B w0 (R' :: blk gr (.cells #[.bool false] 4 (0, 0)) :: intB g2 c.1 :: schB g1 s :: blk gc (.cells (celF c).toArray 40 (0, 0)) :: blk gi (.cells #[.int .i64 i] 3 (0, 0)) :: schB gs s :: H) s.A (s.cells.flatMap celF) := hr6.cons.cons
    unfold intB schB at hr7
    clear hr6
    repeat' (first | apply (zs1 ?_) | (apply zg1; first | refine zs3 ?_ | refine zs4 ?_) | (apply zg2; refine zs6 ?_) | (apply zg3; first | refine zs7 ?_ | refine zs61 ?_) | (apply zg5; refine zs57 ?_) | (apply zg6; first | refine zs11 ?_ | refine zs12 ?_) | (apply zg7; (refine zs15 ?_ ?_ <;> intro _ <;> try (exfalso; omega))) | (apply (zs17 ?_ ?_) <;> intro _ <;> try (exfalso; omega)) | (apply zg22; first | refine zs50 ?_ | refine zs51 ?_) | (apply zg24; (refine zs54 ?_; intro _)) | apply (zs65 ?_) | apply (zs68 ?_) | apply (zs69 ?_) | apply (zs70 ?_) | (apply zg27; first | refine zs71 ?_ | refine zs72 ?_) | apply (zs73 ?_) | apply (zs74 ?_) | apply (zs76 ?_) | apply (zs78 ?_) | apply (zs79 ?_) | fail)
    all_goals first
      | (refine OK [blk gr (.cells #[.bool true] 4 (0, 0))] ⟨rfl, ?_, rfl⟩ ?_
         · exact Yfv (j := j) (by omega) (by rw [hc]; exact hjs) (by rw [hc, hd]; exact htc.2 (by omega))
         · dsimp only [List.cons_append, List.nil_append]
           exact zk
         done)
      | (refine JV () ?_ ?_
         · intro m j2 hm hj2 hji
           rcases Nat.lt_succ_iff_lt_or_eq.1 hm with h | h
           · exact hI m j2 h hj2 hji
           · subst h
             obtain rfl := Option.some.inj (hj.symm.trans hj2)
             rw [hd]
             exact Bool.eq_false_iff.2 fun h => by have := htc.1 h; omega
         · dsimp only [List.cons_append, List.nil_append]
           exact zk
         done)
  · rintro D ⟨⟩ hI
    have htw : Jk s.sch i = false := Yfu hi fun j hj hji => by
      rw [hc] at hj ⊢
      obtain ⟨m, hm⟩ := List.mem_iff_getElem?.1 hj
      refine hI m j ?_ hm hji
      rw [inXs, List.length_map]
      exact (List.getElem?_eq_some_iff.1 hm).1
    rw [htw]
    dsimp only [List.cons_append, List.nil_append]
    unfold intB schB
    repeat' (first | (apply zg22; refine zs50 ?_) | apply (zs65 ?_) | apply (zs68 ?_) | apply (zs69 ?_) | apply (zs70 ?_) | apply (zs74 ?_) | apply (zs79 ?_) | fail)
    apply Zt Yf
    apply VQ_m
    apply YdZ T (H2 := H); exact rfl; exact rfl; exact zm; exact rfl; exact rfl; exact zk; exact ⟨rfl, rfl⟩
  · rintro D e K ⟨rfl, htw, rfl⟩ hjmp
    rw [htw]
    dsimp only [List.cons_append, List.nil_append]
    unfold intB schB
    repeat' (first | apply (zs77 ?_) | apply (zs78 ?_) | fail)
    apply Zt Yf
    apply VQ_m
    apply YdZ T (H2 := H); exact rfl; exact rfl; exact zm; exact rfl; exact rfl; exact zk; exact ⟨rfl, rfl⟩
open Go.RowKit Go.Eng Go.Nw
theorem Uj (n : NetM) (v : Int) {B : Nat} {w0 : World} {H : List HP} {w : World} (hw : St B w0 H w) :
    Calls Tryz.prog 173 [n.val, .int .i64 v].toArray w (Post B w0 fun u K => u = .bool (insE v n.net.nodes) ∧ K = H) := by
  have e1 : n.net.nodes = n.nodes := rfl
  refine Yd Tryz.func173 Tryz.ntmps173 rfl rfl hw ?_
  repeat' (first | apply (zs1 ?_) | apply (zs2 ?_) | (apply zg1; first | refine zs3 ?_ | refine zs4 ?_) | (apply zg2; refine zs6 ?_) | (apply zg3; refine zs7 ?_) | (apply zg6; first | refine zs11 ?_ | refine zs12 ?_) | (apply (zs17 ?_ ?_) <;> intro _ <;> try (exfalso; omega)) | (apply (zs20 ?_ ?_) <;> intro _ <;> try (exfalso; omega)) | (apply zg23; (refine zs52 ?_; intro _)) | apply (zs65 ?_) | apply (zs68 ?_) | apply (zs69 ?_) | apply (zs70 ?_) | apply (zs74 ?_) | fail)
  all_goals (
    apply Yi H
    · exact zk
    apply Yc; exact rfl; exact rfl
    first
      | exact ⟨by rw [show insE v n.net.nodes = true from decide_eq_true (by omega)], rfl⟩
      | exact ⟨by rw [show insE v n.net.nodes = false from decide_eq_false (by omega)], rfl⟩)
theorem Ydq (n : NetM) (c : Cel) (gn : Nat) {B : Nat} {w0 : World} {H : List HP} {w : World} (hm : blk gn (.cells #[.int .i64 n.nodes, .slice n.pA n.rows.length n.pcap, .int .i64 n.noise, .int .i64 n.thr, .slice n.lA n.links.length n.lcap, .slice n.mA n.margin.length n.mcap] 26 (0, 0)) ∈ H) (hw : St B w0 H w) :
    Calls Tryz.prog 172 [celV c, .pointer (some ⟨gn, 0, none⟩)].toArray w (Post B w0 fun v K => v = .bool (VB n.net c) ∧ K = H) := by
  refine Yd Tryz.func172 Tryz.ntmps172 rfl rfl hw ?_
  obtain ⟨b, hb⟩ : ∃ b, VB n.net c = b := ⟨_, rfl⟩
  rw [hb]
  unfold VB YR toC at hb
  repeat' (first | ((first | apply XJ WP | apply XI WP); exact za; exact rfl; exact fun _ hw => (Uj n _ hw); all_goals (intro hB; (try simp only [decide_eq_true_eq, decide_eq_false_iff_not] at hB); try (exfalso; omega))) | apply (zs1 ?_) | apply (zs2 ?_) | (apply zg1; first | refine zs3 ?_ | refine zs4 ?_) | (apply zg2; refine zs6 ?_) | (apply zg3; first | refine zs7 ?_ | refine zs8 ?_) | (apply zg6; first | refine zs11 ?_ | refine zs12 ?_) | (apply zg20; first | refine zs47 ?_ | refine zs48 ?_) | (apply zg23; (refine zs52 ?_; intro _)) | apply (zs65 ?_) | apply (zs68 ?_) | apply (zs69 ?_) | apply (zs70 ?_) | apply (zs74 ?_) | fail)
  all_goals (
    apply Yi H
    · exact zk
    apply Yc; exact rfl; exact rfl
    refine ⟨?_, rfl⟩
    rw [← hb]
    simp [*])
theorem O1 (p : Cel → Bool) (l : List Cel) (f : Nat) (cs : List Value) (hen : ∀ xs w, (callFunc f xs).run Tryz.prog w = .ok (.enter f xs) w) (hlen : l.length ≤ 1000) {A : Option Addr} {cap B : Nat} {w0 : World} {H : List HP} {w : World} (hr : Rd B w0 H A (l.flatMap celF))
    (hp : ∀ a ∈ l, ∀ w, St B w0 H w → Calls Tryz.prog f ([celV a] ++ cs).toArray w (Post B w0 fun v K => v = .bool (p a) ∧ K = H)) (hw : St B w0 H w) :
    Calls Tryz.prog 174 [.slice A l.length cap, .func (.func f) #[] cs.toArray].toArray w (Post B w0 fun v K => v = .bool (l.any p) ∧ K = H) := by
  refine Yd Tryz.func174 Tryz.ntmps174 rfl rfl hw ?_
  rw [← Ycw]
  repeat' (first | apply (zs1 ?_) | apply (zs2 ?_) | apply (zs65 ?_) | apply (zs68 ?_) | apply (zs69 ?_) | apply (zs70 ?_) | fail)
  first | apply Ya Yaw | apply Yb Yaw
  exact za
  exact rfl
  exact fun _ hw => (Ql p l f cs hen hlen hr hp hw)
  by_cases h0 : 0 ≤ Yt p l 0
  · rw [decide_eq_true h0]
    repeat' (first | apply (zs2 ?_) | (apply (zs20 ?_ ?_) <;> intro _ <;> try (exfalso; omega)) | apply (zs65 ?_) | apply (zs68 ?_) | apply (zs74 ?_) | fail)
    apply Yc; exact rfl; exact rfl
    exact ⟨rfl, rfl⟩
  · rw [decide_eq_false h0]
    repeat' (first | apply (zs2 ?_) | (apply (zs20 ?_ ?_) <;> intro _ <;> try (exfalso; omega)) | apply (zs65 ?_) | apply (zs68 ?_) | apply (zs74 ?_) | fail)
    apply Yc; exact rfl; exact rfl
    exact ⟨rfl, rfl⟩
def Vg (n : Net) (c : Cel) (node : Int) (m : Nat) : Int := (([c.2.2.1, c.2.2.2.1].take m).map fun e => powN n e node).sum
theorem Ye5 {n : Net} {c : Cel} {node e : Int} {m : Nat} (h : [c.2.2.1, c.2.2.2.1][m]? = some e) : Vg n c node (m + 1) = Vg n c node m + powN n e node := by
  unfold Vg
  rw [List.take_add_one, h, Option.toList_some, List.map_append, List.sum_append]
  simp
theorem Yhq {n : Net} (hok : Ok n) (c : Cel) (node : Int) {m : Nat} (h : m ≤ 2) : 0 ≤ Vg n c node m ∧ Vg n c node m ≤ 137438953472 := by
  have h1 := J6 hok c.2.2.1 node
  have h2 := J6 hok c.2.2.2.1 node
  match m, h with
  | 0, _ => simp [Vg]
  | 1, _ => simp [Vg]; omega
  | 2, _ => simp [Vg]; omega
set_option maxRecDepth 10000 in
set_option maxHeartbeats 2000000 in
theorem Ydr (n : NetM) (l : List Cel) (j : Nat) (node : Int) (hok : Ok n.net) (hnode : 0 ≤ node ∧ node < n.nodes) (hlen : l.length ≤ 1000) {A : Option Addr} {cap B : Nat} {w0 : World} {H : List HP} {w : World} (hin : n.In B w0 H) (hr : Rd B w0 H A (l.flatMap celF)) (hw : St B w0 H w) :
    Calls Tryz.prog 175 [n.val, .slice A l.length cap, .int .i64 j, .int .i64 node].toArray w (Post B w0 fun v K => v = .int .i64 (XD n.net l j node l.length) ∧ K = H) := by
  refine Yd Tryz.func175 Tryz.ntmps175 rfl rfl hw ?_
  have e1 : n.net.nodes = n.nodes := rfl
  repeat' (first | apply (zs1 ?_) | apply (zs2 ?_) | (apply zg4; refine zs9 ?_) | (apply zg23; (refine zs52 ?_; intro _)) | apply (zs65 ?_) | apply (zs68 ?_) | apply (zs69 ?_) | apply (zs70 ?_) | apply (zs73 ?_) | fail)
  rename_i gn
  refine Yk (fun (k : Nat) => [(16, .int .i64 k), (15, .int .i64 l.length), (14, .slice A l.length cap), (9, .int .i64 (XD n.net l j node k)), (4, .pointer (some ⟨gn, 0, none⟩)), (2, .int .i64 j), (3, .int .i64 node)]) (fun _ => netN gn n :: H) (fun k => k ≤ l.length) (fun k => l.length - k) 0 (Nat.zero_le _) ?_ (fun w hw => hw) ?_
  · exact zu
  rintro k hk K hK
  have hbd := Yd2 hok l j node k
  have hrc := hr.cons (X := netN gn n)
  by_cases hlt : k < l.length
  · obtain ⟨c, hc⟩ : ∃ c, l[k]? = some c := ⟨_, List.getElem?_eq_getElem hlt⟩
    have hcl : celL l k = c := by unfold celL; rw [List.getD_eq_getElem?_getD, hc]; rfl
    have hst : XD n.net l j node (k + 1) = XD n.net l j node k + if k = j then 0 else powN n.net c.2.2.1 node + powN n.net c.2.2.2.1 node := by
      rw [XD, hcl]; rfl
    by_cases hkj : k = j
    · rw [if_pos hkj, Int.add_zero] at hst
      repeat' (first | apply (zs1 ?_) | apply (zs2 ?_) | (apply zg3; refine zs61 ?_) | (apply zg5; refine zs57 ?_) | (apply zg7; (refine zs15 ?_ ?_ <;> intro _ <;> try (exfalso; omega))) | (apply (zs17 ?_ ?_) <;> intro _ <;> try (exfalso; omega)) | (apply zg13; refine zs30 ?_) | (apply zg22; refine zs51 ?_) | (apply zg24; (refine zs54 ?_; intro _)) | apply (zs65 ?_) | apply (zs68 ?_) | apply (zs69 ?_) | apply (zs70 ?_) | (apply zg27; refine zs71 ?_) | apply (zs73 ?_) | apply (zs75 ?_) | apply (zs76 ?_) | apply (zs80 ?_) | apply (zs81 ?_) | fail)
      apply hK (k + 1)
      · show k + 1 ≤ _
        omega
      · omega
      · rw [hst]
        exact zu
      · exact zk
    rw [if_neg hkj] at hst
    repeat' (first | apply (zs1 ?_) | apply (zs2 ?_) | (apply zg2; refine zs6 ?_) | (apply zg3; first | refine zs7 ?_ | refine zs61 ?_) | (apply zg4; refine zs9 ?_) | (apply zg5; refine zs57 ?_) | (apply zg7; (refine zs15 ?_ ?_ <;> intro _ <;> try (exfalso; omega))) | (apply (zs17 ?_ ?_) <;> intro _ <;> try (exfalso; omega)) | (apply zg22; refine zs51 ?_) | (apply zg24; (refine zs54 ?_; intro _)) | (apply zg26; (refine zs56 ?_; intro _)) | apply (zs65 ?_) | apply (zs68 ?_) | apply (zs69 ?_) | apply (zs70 ?_) | (apply zg27; first | refine zs71 ?_ | refine zs72 ?_) | apply (zs73 ?_) | apply (zs76 ?_) | fail)
    rename_i gc _ ge
    refine Yk (fun (m : Nat) => [(30, .int .i64 m), (29, .int .i64 ((2 : Nat) : Int)), (28, .slice (some ⟨ge, 0, none⟩) ([c.2.2.1, c.2.2.2.1] : List Int).length 2), (9, .int .i64 (XD n.net l j node k + Vg n.net c node m)), (16, .int .i64 k), (15, .int .i64 l.length), (14, .slice A l.length cap), (4, .pointer (some ⟨gn, 0, none⟩)), (2, .int .i64 j), (3, .int .i64 node)]) (fun _ => blk ge (.cells #[.int .i64 c.2.2.1, .int .i64 c.2.2.2.1] 3 (0, 0)) :: netN gn n :: H) (fun m => m ≤ 2) (fun m => 2 - m) 0 (Nat.zero_le _) ?_ ?_ ?_
    · rw [show Vg n.net c node 0 = 0 from rfl, Int.add_zero]
      exact zu
    · exact zk
    rintro m hm K2 hK2
    have hpb := Yhq hok c node hm
    have hre : Rd B w0 (blk ge (.cells #[.int .i64 c.2.2.1, .int .i64 c.2.2.2.1] 3 (0, 0)) :: netN gn n :: H) (some ⟨ge, 0, none⟩) (([c.2.2.1, c.2.2.2.1] : List Int).flatMap numF) := Rd.blk (cs := #[.int .i64 c.2.2.1, .int .i64 c.2.2.2.1]) (.head _)
    clear hrc
    unfold netN at hre ⊢
    by_cases hlt2 : m < 2
    · obtain ⟨e, he⟩ : ∃ e, [c.2.2.1, c.2.2.2.1][m]? = some e := ⟨_, List.getElem?_eq_getElem hlt2⟩
      have hst2 := Ye5 (n := n.net) (node := node) he
      have hcn := fun {H' : List HP} {w : World} (hw : St B w0 H' w) => Uj n e hw
      have hl2 : ([c.2.2.1, c.2.2.2.1] : List Int).length = 2 := rfl
      cases hie : insE e n.net.nodes with
      | false =>
        rw [hie] at hcn
        rw [show powN n.net e node = 0 by unfold powN; rw [hie]; simp, Int.add_zero] at hst2
        repeat' (first | ((first | apply Ya WP | apply Yb WP); exact za; exact rfl; exact fun _ hw => (hcn hw)) | apply (zs1 ?_) | apply (zs2 ?_) | (apply zg3; first | refine zs8 ?_ | refine zs60 ?_) | (apply zg5; refine zs57 ?_) | (apply (zs17 ?_ ?_) <;> intro _ <;> try (exfalso; omega)) | (apply zg13; refine zs30 ?_) | apply (zs65 ?_) | apply (zs68 ?_) | apply (zs69 ?_) | apply (zs70 ?_) | (apply zg27; first | refine zs71 ?_ | refine zs72 ?_) | apply (zs73 ?_) | apply (zs76 ?_) | apply (zs79 ?_) | fail)
        apply hK2 (m + 1)
        · show m + 1 ≤ 2
          omega
        · omega
        · rw [hst2]
          exact zu
        · unfold netN
          exact zk
      | true =>
        rw [hie] at hcn
        have he2 : 0 ≤ e ∧ e < n.net.nodes := of_decide_eq_true hie
        have hp0 : (n.rows.length : Int) = n.net.nodes := by
          have := hok.p0
          rwa [show n.net.power = n.rows.map RowM.xs from rfl, List.length_map] at this
        obtain ⟨r, hrw⟩ : ∃ r, n.rows[e.toNat]? = some r := ⟨_, List.getElem?_eq_getElem (by omega)⟩
        have hrm := List.mem_of_getElem? hrw
        have hrl : (r.xs.length : Int) = n.net.nodes := hok.p1 r.xs (List.mem_map.2 ⟨r, hrm, rfl⟩)
        obtain ⟨q, hq⟩ : ∃ q, r.xs[node.toNat]? = some q := ⟨_, List.getElem?_eq_getElem (by omega)⟩
        have hpw : powN n.net e node = q := by
          unfold powN
          rw [if_pos ⟨hie, decide_eq_true (by omega)⟩]
          exact YcS (n := n.net) (r := r.xs) (by simp [NetM.net, hrw]) hq
        have hqb := J6 hok e node
        rw [hpw] at hqb hst2
        have hpd := hin.pw
        have hrd := hin.rw_ r hrm
        have hs1 := hin.s1
        have hs2 := hin.s2 r hrm
        repeat' (first | ((first | apply Ya WP | apply Yb WP); exact za; exact rfl; exact fun _ hw => (hcn hw)) | apply (zs1 ?_) | apply (zs2 ?_) | (apply zg2; refine zs6 ?_) | (apply zg3; first | refine zs7 ?_ | refine zs8 ?_ | refine zs60 ?_) | (apply zg5; refine zs57 ?_) | (apply (zs17 ?_ ?_) <;> intro _ <;> try (exfalso; omega)) | (apply zg13; refine zs30 ?_) | apply (zs65 ?_) | apply (zs68 ?_) | apply (zs69 ?_) | apply (zs70 ?_) | (apply zg27; refine zs71 ?_) | apply (zs73 ?_) | apply (zs76 ?_) | apply (zs79 ?_) | fail)
        apply hK2 (m + 1)
        · show m + 1 ≤ 2
          omega
        · omega
        · rw [hst2]
          exact zu
        · unfold netN
          exact zk
    · obtain rfl : m = 2 := by omega
      have hp2 : XD n.net l j node (k + 1) = XD n.net l j node k + Vg n.net c node 2 := by
        rw [hst]
        simp [Vg]
      repeat' (first | apply (zs1 ?_) | (apply (zs17 ?_ ?_) <;> intro _ <;> try (exfalso; omega)) | (apply zg13; refine zs30 ?_) | apply (zs65 ?_) | apply (zs68 ?_) | apply (zs69 ?_) | apply (zs70 ?_) | (apply zg27; refine zs72 ?_) | apply (zs75 ?_) | apply (zs79 ?_) | apply (zs80 ?_) | apply (zs81 ?_) | fail)
      apply hK (k + 1)
      · show k + 1 ≤ _
        omega
      · omega
      · rw [hp2]
        exact zu
      · unfold netN
        exact zk
  · repeat' (first | apply (zs1 ?_) | apply (zs2 ?_) | (apply (zs17 ?_ ?_) <;> intro _ <;> try (exfalso; omega)) | apply (zs65 ?_) | apply (zs68 ?_) | apply (zs69 ?_) | apply (zs70 ?_) | (apply zg27; refine zs72 ?_) | apply (zs74 ?_) | apply (zs75 ?_) | apply (zs80 ?_) | apply (zs81 ?_) | fail)
    apply Yi H
    · exact zk
    apply Yc; exact rfl; exact rfl
    rw [show k = l.length by omega]
    exact ⟨rfl, rfl⟩
set_option maxRecDepth 10000 in
set_option maxHeartbeats 1000000 in
theorem JI (n : NetM) (l : List Cel) (j : Nat) (node : Int) (hck : YA n.net = 0) (hnode : 0 ≤ node ∧ node < n.nodes) (hj : j < l.length) (hlen : l.length ≤ 1000) (hno : l.any (VB n.net) = false) {A : Option Addr} {cap B : Nat} {w0 : World} {H : List HP} {w : World} (hin : n.In B w0 H) (hr : Rd B w0 H A (l.flatMap celF)) (hw : St B w0 H w) :
    Calls Tryz.prog 116 [n.val, .slice A l.length cap, .int .i64 j, .int .i64 node].toArray w (Post B w0 fun v K => v = .int .i64 (Vr n.net l j node) ∧ K = H) := by
  refine Yd Tryz.func116 Tryz.ntmps116 rfl rfl hw ?_
  have e1 : n.net.nodes = n.nodes := rfl
  have hins : insE node n.net.nodes = true := decide_eq_true hnode
  have hd : Vr n.net l j node = XD n.net l j node l.length := by
    unfold Vr
    rw [if_neg (by rw [hck, hins, hno]; simp; omega), Int.toNat_natCast]
  rw [hd]
  have hchk := fun {H' : List HP} {w : World} (hin : n.In B w0 H') (hw : St B w0 H' w) => YK n hin hw
  rw [hck] at hchk
  have hcn := fun {H' : List HP} {w : World} (hw : St B w0 H' w) => Uj n node hw
  rw [hins] at hcn
  (apply JT; apply ZR; apply Zi; exact rfl; exact rfl; intro g)
  have hct := fun {H' : List HP} {w : World} (hm : blk g (.cells #[.int .i64 n.nodes, .slice n.pA n.rows.length n.pcap, .int .i64 n.noise, .int .i64 n.thr, .slice n.lA n.links.length n.lcap, .slice n.mA n.margin.length n.mcap] 26 (0, 0)) ∈ H') (hr : Rd B w0 H' A (l.flatMap celF)) (hw : St B w0 H' w) => O1 (VB n.net) l 172 [.pointer (some ⟨g, 0, none⟩)] YiN hlen (cap := cap) hr (fun c _ w hw => Ydq n c g hm hw) hw
  rw [hno] at hct
  repeat' (first | ((first | apply Ya en50 | apply Yb en50); exact za; exact rfl; exact fun _ hw => (hchk hin.cons hw)) | ((first | apply Ya WP | apply Yb WP); exact za; exact rfl; exact fun _ hw => (hcn hw)) | ((first | apply Ya YhP | apply Yb YhP); exact za; exact rfl; exact fun _ hw => (hct zm hr.cons hw)) | ((first | apply Ya YhQ | apply Yb YhQ); exact za; exact rfl; exact fun _ hw => (Ydr n l j node (Xa hck) hnode hlen hin.cons hr.cons hw)) | apply (zs1 ?_) | apply (zs2 ?_) | (apply zg1; refine zs4 ?_) | (apply zg3; refine zs8 ?_) | (apply zg4; refine zs9 ?_) | (apply zg6; refine zs12 ?_) | (apply zg8; (refine zs16 ?_ ?_ <;> intro _ <;> try (exfalso; omega))) | (apply (zs17 ?_ ?_) <;> intro _ <;> try (exfalso; omega)) | (apply (zs20 ?_ ?_) <;> intro _ <;> try (exfalso; omega)) | (apply zg20; refine zs47 ?_) | apply (zs65 ?_) | apply (zs68 ?_) | apply (zs69 ?_) | apply (zs70 ?_) | (apply zg27; refine zs72 ?_) | apply (zs74 ?_) | apply (zs76 ?_) | (apply zg29; (apply Yr; exact za ; exact rfl)) | fail)
  apply Yi H
  · exact zk
  apply Yc; exact rfl; exact rfl; exact ⟨rfl, rfl⟩
open Go.RowKit Go.Eng Go.Nw
theorem YeO {s : Sch} {slot : Int} {j n : Nat} (h : (Ym s j).1 = slot) (hj : j < n) : ∃ R, inI s slot n = inI s slot j ++ j :: R ∧ ∀ x ∈ R, j < x := by
  obtain ⟨m, rfl⟩ : ∃ m, n = j + (m + 1) := ⟨n - j - 1, by omega⟩
  have e : inI s slot (j + (m + 1)) = inI s slot j ++ ((List.range (m + 1)).map (j + ·)).filter fun i => decide ((Ym s i).1 = slot) := by
    unfold inI; rw [List.range_add, List.filter_append]
  rw [e, List.range_succ_eq_map, List.map_cons, List.filter_cons, if_pos (by simpa using h)]
  refine ⟨_, rfl, fun x hx => ?_⟩
  obtain ⟨y, hy, rfl⟩ := List.mem_map.1 (List.mem_filter.1 hx).1
  obtain ⟨z, _, rfl⟩ := List.mem_map.1 hy
  omega
theorem Ygj {s : Sch} {slot : Int} {n k j : Nat} (h : (inI s slot n)[k]? = some j) : (inI s slot n).take k = inI s slot j := by
  have hm := V1.1 (List.mem_of_getElem? h)
  obtain ⟨R, hR, hRx⟩ := YeO hm.2 hm.1
  rw [hR] at h ⊢
  have hk : k = (inI s slot j).length := by
    rcases Nat.lt_trichotomy k (inI s slot j).length with h1 | h1 | h1
    · rw [List.getElem?_append_left h1] at h
      have := (V1.1 (List.mem_of_getElem? h)).1
      omega
    · exact h1
    · rw [List.getElem?_append_right (by omega)] at h
      obtain ⟨q, hq⟩ : ∃ q, k - (inI s slot j).length = q + 1 := ⟨k - (inI s slot j).length - 1, by omega⟩
      rw [hq, List.getElem?_cons_succ] at h
      have := hRx j (List.mem_of_getElem? h)
      omega
  rw [hk, List.take_left' rfl]
theorem Ybs {α : Type} {p : α → Bool} {l : List α} {i : Nat} {x : α} (h : l[i]? = some x) : (l.take (i + 1)).filter p = (l.take i).filter p ++ if p x = true then [x] else [] := by
  rw [List.take_add_one, h, Option.toList_some, List.filter_append]
  cases hp : p x <;> simp [hp]
def VG (s : Sch) (c : Cel) (l : List Nat) : List Cel := (l.filter fun j => decide ((Ym s j).2.1 = c.2.1)).map (Ym s)
theorem Wr {s : Sch} {c : Cel} : ∀ {m : Nat}, m ≤ s.cells.length → VG s c (inI s c.1 m) = (s.cells.take m).filter (Xc c)
  | 0, _ => by simp [VG, inI]
  | m + 1, h => by
    have ih := Wr (s := s) (c := c) (m := m) (by omega)
    have hg := YD (s := s) (i := m) (by omega)
    rw [Ybs hg, ← ih]
    have hp : Xc c (Ym s m) = true ↔ (Ym s m).1 = c.1 ∧ (Ym s m).2.1 = c.2.1 := by unfold Xc; rw [decide_eq_true_eq]
    by_cases h1 : (Ym s m).1 = c.1
    · rw [Yek h1]
      unfold VG
      rw [List.filter_append, List.map_append]
      by_cases h2 : (Ym s m).2.1 = c.2.1
      · rw [if_pos (hp.2 ⟨h1, h2⟩)]
        simp [h2]
      · rw [if_neg fun h => h2 (hp.1 h).2]
        simp [h2]
    · rw [Ygi h1, if_neg fun h => h1 (hp.1 h).1, List.append_nil]
theorem YcR (s : Sch) (c : Cel) (l : List Nat) (j : Nat) : VG s c (l ++ [j]) = VG s c l ++ if (Ym s j).2.1 = c.2.1 then [Ym s j] else [] := by
  unfold VG
  rw [List.filter_append, List.map_append]
  by_cases h : (Ym s j).2.1 = c.2.1
  · rw [if_pos h]; simp [h]
  · rw [if_neg h]; simp [h]
structure DsM where
  A : Option Addr
  cap : Nat
  M : List Cel
  a : Int
set_option maxRecDepth 10000 in
set_option maxHeartbeats 4000000 in
theorem O7 (n : NetM) (s : SchM) (i : Nat) (hck : YA n.net = 0) (hgood : ∀ c ∈ s.cells, YY n.net (YR c) (toC c) = true) (hi : i < s.cells.length) (hl : s.cells.length ≤ 1000) {B : Nat} {w0 : World} {H : List HP} {w : World} (hin : n.In B w0 H) (hr : Rd B w0 H s.A (s.cells.flatMap celF)) (hw : St B w0 H w) :
    Calls Tryz.prog 57 [n.val, s.val, .int .i64 i].toArray w (Post B w0 fun v K => v = .bool (Z6 n.net s.sch i) ∧ K = H) := by
  refine XR Tryz.func57 Tryz.ntmps57 rfl rfl hw ?_
  have hget : s.cells[i]? = some (Ym s.sch i) := YD (s := s.sch) hi
  obtain ⟨c, hc⟩ : ∃ c, Ym s.sch i = c := ⟨_, rfl⟩
  rw [hc] at hget
  have hrm : Rd B w0 [many H] s.A (s.cells.flatMap celF) := hr.tail
  clear hr
  refine Yal [many H] (fun w hw => hw.perm (.closeT H)) ?_
  repeat' (first | apply (zs2 ?_) | (apply zg22; refine zs50 ?_) | (apply zg23; first | (refine zs52 ?_; intro _) | (refine zs53 ?_; intro _)) | (apply zg24; (refine zs54 ?_; intro _)) | apply (zs65 ?_) | apply (zs68 ?_) | apply (zs69 ?_) | apply (zs70 ?_) | fail)
  rename_i gn gs gi g7 g8
  apply ZL [0, 1, 2, 3, 4, 5, 6] [7] [false, false, true, true, false, true]
  kernel_rfl
  kernel_rfl
  exact zy
  (simp only [Yj, nthO]; rfl)
  (simp only [Yj, nthO]; rfl)
  repeat' (first | (apply zg2; first | refine zs6 ?_ | refine zs58 ?_) | (apply zg3; first | refine zs7 ?_ | refine zs8 ?_ | refine zs59 ?_) | (apply zg5; refine zs57 ?_) | (apply Yn; exact zp) | apply (zs93 ?_) | fail)
  apply Yo _ en59
  exact za
  exact rfl
  exact fun _ hw => (Ycy s c.1 (hw))
  rintro _ _ ⟨g1, g2, rfl, rfl⟩
  repeat' (first | apply (zs65 ?_) | apply (zs68 ?_) | apply (zs73 ?_) | apply (zs94 ?_) | fail)
  obtain ⟨L, hL⟩ : ∃ L, inI s.sch c.1 s.cells.length = L := ⟨_, rfl⟩
  have hiL : i ∈ L := by
    rw [← hL]
    exact V1.2 ⟨hi, by rw [hc]⟩
  have hr7 : Rd B w0 (intB g2 c.1 :: schB g1 s :: blk gi (.cells #[.int .i64 i] 3 (0, 0)) :: schB gs s :: netN gn n :: [many H]) s.A (s.cells.flatMap celF) := hrm.cons.cons.cons.cons.cons
  rw [show (Value.slice none 0 0).cells = #[Value.slice none 0 0] from rfl]
  refine Jo 40 5 ?_
  refine XT (gf := 118) (lb := [.pointer (some ⟨g1, 0, none⟩), .pointer (some ⟨g2, 0, none⟩)]) (xs := inXs s.sch c.1) (intB g2 c.1 :: schB g1 s :: blk gi (.cells #[.int .i64 i] 3 (0, 0)) :: schB gs s :: netN gn n :: [many H]) (fun x : DsM => [blk g7 (.cells #[.slice x.A x.M.length x.cap] 28 (0, 0)), cels x.A x.cap x.M, blk g8 (.cells #[.int .i64 x.a] 3 (0, 0))])
    (fun k x => x.M = VG s.sch c (L.take k) ∧ x.a = if i ∈ L.take k then (Y1 s.sch i : Int) else 0) (fun _ _ => False) ⟨none, 0, [], 0⟩ rfl YhG (Ycx s c.1 g1 g2 hr7 (by omega) (.tail _ (.head _)) (.head _)) rfl ?_ (by kernel_rfl) (by kernel_rfl) ?_ ⟨by simp [VG], by simp⟩ ?_ ?_ (fun _ _ _ h => h.elim)
  · intro args h
    obtain ⟨k, hk⟩ := List.mem_iff_getElem?.1 h
    obtain ⟨i, _, _, rfl⟩ := UP hk
    rfl
  · unfold schB intB cels netN
    simp only [List.cons_append, List.nil_append, List.length_nil, List.flatMap_nil]
    exact zk
  · rintro l k args R ⟨A, cap, M, a⟩ hk ⟨hM, ha⟩
    obtain ⟨j, hj, hlt, rfl⟩ := UP hk
    have hlt2 : j < s.cells.length := hlt
    have hj : L[k]? = some j := by rw [← hL]; exact hj
    dsimp only at hM ha ⊢
    dsimp only [VH, List.cons_append, List.nil_append]
    have hgj : s.cells[j]? = some (Ym s.sch j) := YD (s := s.sch) hlt
    have htj : L.take k = inI s.sch c.1 j := by
      rw [← hL] at hj ⊢
      exact Ygj hj
    have htk : L.take (k + 1) = L.take k ++ [j] := by rw [List.take_add_one, hj, Option.toList_some]
    have hMf : M = (s.cells.take j).filter (Xc c) := by
      rw [hM, htj]
      exact Wr (s := s.sch) (by show j ≤ s.cells.length; omega)
    have hMl : M.length ≤ s.cells.length := by
      rw [hMf]
      have h1 := List.length_filter_le (Xc c) (s.cells.take j)
      rw [List.length_take] at h1
      omega
    have hps := YcR s.sch c (L.take k) j
    rw [← htk, ← hM] at hps
    obtain ⟨d, hd⟩ : ∃ d, Ym s.sch j = d := ⟨_, rfl⟩
    rw [hd] at hgj hps
    repeat' (first | apply (zs2 ?_) | apply (zs65 ?_) | apply (zs70 ?_) | fail)
    apply JE Yf
    intro R'
    unfold intB schB netN cels
    clear hr7
    by_cases hoff : d.2.1 = c.2.1
    rotate_left
    · have hij : i ≠ j := by
        rintro rfl
        rw [hc] at hd
        subst hd
        exact hoff rfl
      repeat' (first | apply (zs1 ?_) | (apply zg2; first | refine zs6 ?_ | refine zs58 ?_) | (apply zg3; first | refine zs7 ?_ | refine zs59 ?_) | (apply zg5; refine zs57 ?_) | (apply zg8; (refine zs16 ?_ ?_ <;> intro _ <;> try (exfalso; omega))) | apply (zs66 ?_) | apply (zs68 ?_) | apply (zs69 ?_) | (apply zg27; refine zs71 ?_) | apply (zs73 ?_) | apply (zs75 ?_) | apply (zs80 ?_) | apply (zs81 ?_) | (apply zg28; refine zs83 ?_) | fail)
      all_goals (
        apply JV ⟨A, cap, M, a⟩
        · refine ⟨?_, ?_⟩
          · show M = _
            rw [hps, if_neg hoff, List.append_nil]
          · show a = _
            rw [ha, htk]
            simp [hij]
        · dsimp only [List.cons_append, List.nil_append]
          exact zk)
    by_cases hji : j = i
    · obtain rfl := hji
      obtain rfl : d = c := hd.symm.trans hc
      have hsa : (M.length : Int) = (Y1 s.sch j : Int) := by
        rw [hMf]
        unfold Y1
        rw [hc]
        rfl
      repeat' (first | apply (zs1 ?_) | (apply zg2; first | refine zs6 ?_ | refine zs58 ?_) | (apply zg3; first | refine zs7 ?_ | refine zs59 ?_) | (apply zg4; refine zs9 ?_) | (apply zg5; refine zs57 ?_) | (apply zg7; (refine zs15 ?_ ?_ <;> intro _ <;> try (exfalso; omega))) | (apply zg8; (refine zs16 ?_ ?_ <;> intro _ <;> try (exfalso; omega))) | (apply zg22; refine zs50 ?_) | apply (zs65 ?_) | apply (zs66 ?_) | apply (zs68 ?_) | apply (zs69 ?_) | apply (zs70 ?_) | (apply zg27; first | refine zs71 ?_ | refine zs72 ?_) | apply (zs73 ?_) | apply (zs76 ?_) | (apply zg28; refine zs83 ?_) | fail)
      apply Vj [0, 1, 2, 3, 4, 5, 6] [7, 8] [false, true, false, false, false, false, false, true, false, true]
      kernel_rfl
      kernel_rfl
      exact zy
      (simp only [Yj, nthO]; rfl)
      (simp only [Yj, nthO]; rfl)
      repeat' (first | (apply OJ T; exact rfl; exact zm; exact rfl; exact rfl; exact rfl) | apply (zs1 ?_) | (apply zg2; refine zs6 ?_) | (apply zg3; first | refine zs7 ?_ | refine zs61 ?_) | (apply zg5; refine zs57 ?_) | (apply zg21; (refine zs49 ?_; intro _ _)) | (apply zg22; refine zs50 ?_) | (apply zg26; (refine zs56 ?_; intro _)) | apply (zs65 ?_) | (apply Yn; exact zp) | apply (zs79 ?_) | apply (zs87 ?_) | (apply Yl; (repeat (first | with_reducible exact Yh | (with_reducible apply Yg; (repeat (first | with_reducible exact Yf | with_reducible apply Ye)))))) | apply (zs93 ?_) | apply (zs94 ?_) | fail)
      rename_i A9 cap9
      apply JV ⟨A9, cap9, M ++ [d], (M.length : Int)⟩
      · refine ⟨?_, ?_⟩
        · show M ++ [d] = _
          rw [hps, if_pos hoff]
        · show (M.length : Int) = _
          rw [htk, if_pos (by simp), hsa]
      · dsimp only [List.cons_append, List.nil_append]
        intro w hw
        rw [OS, YcC M d] at hw
        unfold cels at hw
        revert w
        exact zk
    · have hji2 : i ≠ j := fun e => hji e.symm
      repeat' (first | apply (zs1 ?_) | (apply zg2; first | refine zs6 ?_ | refine zs58 ?_) | (apply zg3; first | refine zs7 ?_ | refine zs59 ?_) | (apply zg5; refine zs57 ?_) | (apply zg7; (refine zs15 ?_ ?_ <;> intro _ <;> try (exfalso; omega))) | (apply zg8; (refine zs16 ?_ ?_ <;> intro _ <;> try (exfalso; omega))) | apply (zs65 ?_) | apply (zs66 ?_) | apply (zs68 ?_) | apply (zs69 ?_) | apply (zs70 ?_) | (apply zg27; refine zs72 ?_) | apply (zs73 ?_) | apply (zs76 ?_) | (apply zg28; refine zs83 ?_) | fail)
      apply Vj [0, 1, 2, 3, 4, 5, 6] [7, 8] [false, true, false, false, false, false, false, true, false, true]
      kernel_rfl
      kernel_rfl
      exact zy
      (simp only [Yj, nthO]; rfl)
      (simp only [Yj, nthO]; rfl)
      repeat' (first | (apply OJ T; exact rfl; exact zm; exact rfl; exact rfl; exact rfl) | apply (zs1 ?_) | (apply zg2; refine zs6 ?_) | (apply zg3; first | refine zs7 ?_ | refine zs61 ?_) | (apply zg5; refine zs57 ?_) | (apply zg21; (refine zs49 ?_; intro _ _)) | (apply zg22; refine zs50 ?_) | (apply zg26; (refine zs56 ?_; intro _)) | apply (zs65 ?_) | (apply Yn; exact zp) | apply (zs79 ?_) | apply (zs87 ?_) | (apply Yl; (repeat (first | with_reducible exact Yh | (with_reducible apply Yg; (repeat (first | with_reducible exact Yf | with_reducible apply Ye)))))) | apply (zs93 ?_) | apply (zs94 ?_) | fail)
      rename_i A9 cap9
      apply JV ⟨A9, cap9, M ++ [d], a⟩
      · refine ⟨?_, ?_⟩
        · show M ++ [d] = _
          rw [hps, if_pos hoff]
        · show a = _
          rw [ha, htk]
          simp [hji2]
      · dsimp only [List.cons_append, List.nil_append]
        intro w hw
        rw [OS, YcC M d] at hw
        unfold cels at hw
        revert w
        exact zk
  · rintro D ⟨A, cap, M, a⟩ ⟨hM, ha⟩
    have hLl : (inXs s.sch c.1).length = L.length := by rw [inXs, List.length_map]; exact congrArg List.length hL
    dsimp only at hM ha ⊢
    rw [hLl, List.take_length] at hM ha
    rw [if_pos hiL] at ha
    subst ha
    have hMS : M = Wt s.sch i := by
      rw [hM, ← hL]
      have h1 := Wr (s := s.sch) (c := c) (Nat.le_refl _)
      rw [List.take_length] at h1
      rw [show s.cells.length = s.sch.cells.length from rfl, h1]
      unfold Wt
      rw [hc]
    have hMl : M.length ≤ 1000 := by
      rw [hMS]
      have h1 := List.length_filter_le (Xc (Ym s.sch i)) s.sch.cells
      exact Nat.le_trans h1 hl
    have hgM : M[((Y1 s.sch i : Nat) : Int).toNat]? = some c := by rw [hMS, Int.toNat_natCast, YgH (s := s.sch) hi, hc]
    have hal : Y1 s.sch i < M.length := (List.getElem?_eq_some_iff.1 hgM).1
    have hok := Xa hck
    have hcm : c ∈ s.cells := List.mem_of_getElem? hget
    have hgd := hgood c hcm
    obtain ⟨⟨f0, f1⟩, ⟨t0, t1⟩, _, k1, k2⟩ : (0 ≤ c.2.2.1 ∧ c.2.2.1 < n.net.nodes) ∧ (0 ≤ c.2.2.2.1 ∧ c.2.2.2.1 < n.net.nodes) ∧ c.2.2.1 ≠ c.2.2.2.1 ∧ 0 ≤ YF n.net c.2.2.1 c.2.2.2.1 ∧ 0 ≤ YF n.net c.2.2.2.1 c.2.2.1 := Ul hok hgd
    have hno : M.any (VB n.net) = false := by
      rw [List.any_eq_false]
      intro x hx
      have hxm : x ∈ s.cells := by
        rw [hMS] at hx
        exact (List.mem_filter.1 hx).1
      obtain ⟨h1, h2, _⟩ := Ul hok (hgood x hxm)
      unfold VB
      rw [show insE (YR x) n.net.nodes = true from decide_eq_true h1, show insE (toC x) n.net.nodes = true from decide_eq_true h2]
      simp
    have hinm : n.In B w0 [many H] := ⟨hin.pw.tail, fun r hr => (hin.rw_ r hr).tail, hin.lk.tail, hin.mg.tail, hin.s1, hin.s2, hin.s3, hin.s4⟩
    have hmg := hinm.mg
    have hs4 := hin.s4
    have hml : n.margin.length = n.net.links.length := hok.k1
    have x1 := Js k1
    have x2 := Js k2
    have hix : ∀ u v : Int, ZE n.net u v = YF n.net u v := fun u v => by unfold ZE; rw [if_neg (by omega)]
    have p1 := fun {H' : List HP} {w : World} (hin : n.In B w0 H') (hw : St B w0 H' w) => Zk n c.2.2.1 c.2.2.2.1 hin hw
    have p2 := fun {H' : List HP} {w : World} (hin : n.In B w0 H') (hw : St B w0 H' w) => Zk n c.2.2.2.1 c.2.2.1 hin hw
    rw [hix] at p1 p2
    obtain ⟨i1, hi1⟩ : ∃ z, YF n.net c.2.2.1 c.2.2.2.1 = z := ⟨_, rfl⟩
    obtain ⟨i2, hi2⟩ : ∃ z, YF n.net c.2.2.2.1 c.2.2.1 = z := ⟨_, rfl⟩
    rw [hi1] at p1 k1 x1
    rw [hi2] at p2 k2 x2
    have hm1 : n.margin[i1.toNat]? = some (mar n.net i1.toNat) := by
      unfold mar
      rw [List.getD_eq_getElem?_getD, show n.net.margin = n.margin from rfl, List.getElem?_eq_getElem (by omega)]; rfl
    have hm2 : n.margin[i2.toNat]? = some (mar n.net i2.toNat) := by
      unfold mar
      rw [List.getD_eq_getElem?_getD, show n.net.margin = n.margin from rfl, List.getElem?_eq_getElem (by omega)]; rfl
    have q1 := fun {H' : List HP} {w : World} (hin : n.In B w0 H') (hr : Rd B w0 H' A (M.flatMap celF)) (hw : St B w0 H' w) => JI n M (Y1 s.sch i) c.2.2.2.1 hck ⟨t0, t1⟩ hal hMl hno (cap := cap) hin hr hw
    have q2 := fun {H' : List HP} {w : World} (hin : n.In B w0 H') (hr : Rd B w0 H' A (M.flatMap celF)) (hw : St B w0 H' w) => JI n M (Y1 s.sch i) c.2.2.1 hck ⟨f0, f1⟩ hal hMl hno (cap := cap) hin hr hw
    have r1 := fun {H' : List HP} {w : World} (hin : n.In B w0 H') (hw : St B w0 H' w) => OD n (mar n.net i1.toNat) (Vr n.net M (Y1 s.sch i) c.2.2.2.1) hin hw
    have r2 := fun {H' : List HP} {w : World} (hin : n.In B w0 H') (hw : St B w0 H' w) => OD n (mar n.net i2.toNat) (Vr n.net M (Y1 s.sch i) c.2.2.1) hin hw
    have hres : Z6 n.net s.sch i = (!(Vw n.net (mar n.net i1.toNat) (Vr n.net M (Y1 s.sch i) c.2.2.2.1)) || !(Vw n.net (mar n.net i2.toNat) (Vr n.net M (Y1 s.sch i) c.2.2.1))) := by
      unfold Z6
      rw [hc, ← hMS]
      unfold YR toC
      rw [hi1, hi2]
    obtain ⟨b1, hb1⟩ : ∃ b, Vw n.net (mar n.net i1.toNat) (Vr n.net M (Y1 s.sch i) c.2.2.2.1) = b := ⟨_, rfl⟩
    obtain ⟨b2, hb2⟩ : ∃ b, Vw n.net (mar n.net i2.toNat) (Vr n.net M (Y1 s.sch i) c.2.2.1) = b := ⟨_, rfl⟩
    rw [hb1] at r1 hres
    rw [hb2] at r2 hres
    rw [hres]
    dsimp only [List.cons_append, List.nil_append]
    unfold cels intB schB netN
    cases b1 with
    | false =>
      repeat' (first | (apply zg2; refine zs6 ?_) | (apply zg3; first | refine zs7 ?_ | refine zs8 ?_ | refine zs61 ?_) | (apply zg5; refine zs10 ?_) | (apply zg22; refine zs51 ?_) | (apply zg24; (refine zs54 ?_; intro _)) | apply (zs65 ?_) | apply (zs68 ?_) | apply (zs69 ?_) | apply (zs70 ?_) | apply (zs79 ?_) | (apply zg28; refine zs84 ?_) | fail)
      first | apply Ya en95 | apply Yb en95
      exact za
      exact rfl
      exact fun _ hw => (p1 (by repeat (first | exact hinm | apply NetM.In.cons)) hw)
      repeat' (first | (apply zg2; refine zs6 ?_) | (apply zg3; first | refine zs7 ?_ | refine zs8 ?_) | fail)
      first | apply Ya en95 | apply Yb en95
      exact za
      exact rfl
      exact fun _ hw => (p2 (by repeat (first | exact hinm | apply NetM.In.cons)) hw)
      repeat' (first | apply (zs1 ?_) | apply (zs2 ?_) | (apply zg2; refine zs6 ?_) | (apply zg3; first | refine zs7 ?_ | refine zs8 ?_ | refine zs60 ?_) | (apply zg5; refine zs57 ?_) | apply (zs66 ?_) | apply (zs68 ?_) | apply (zs69 ?_) | (apply zg28; refine zs84 ?_) | fail)
      first | apply Ya Ua | apply Yb Ua
      exact za
      exact rfl
      exact fun _ hw => (q1 (by repeat (first | exact hinm | apply NetM.In.cons)) (Rd.sl zm) hw)
      repeat' (first | fail)
      first | apply Ya V9 | apply Yb V9
      exact za
      exact rfl
      exact fun _ hw => (r1 (by repeat (first | exact hinm | apply NetM.In.cons)) hw)
      repeat' (first | apply (zs1 ?_) | apply (zs2 ?_) | (apply zg1; refine zs3 ?_) | (apply zg6; refine zs11 ?_) | (apply zg20; refine zs48 ?_) | apply (zs66 ?_) | apply (zs68 ?_) | apply (zs74 ?_) | fail)
      apply Zt
      · (repeat (first | with_reducible exact Yf | with_reducible apply Ye))
      apply VQ_m
      apply Yi H
      · intro w hw
        have h5 : St B w0 [many H] w := by
          revert w
          exact zk
        exact h5.perm (.openT H)
      apply Yc; exact rfl; exact rfl; exact ⟨rfl, rfl⟩
    | true =>
      cases b2 with
      | false =>
        repeat' (first | (apply zg2; refine zs6 ?_) | (apply zg3; first | refine zs7 ?_ | refine zs8 ?_ | refine zs61 ?_) | (apply zg5; refine zs10 ?_) | (apply zg22; refine zs51 ?_) | (apply zg24; (refine zs54 ?_; intro _)) | apply (zs65 ?_) | apply (zs68 ?_) | apply (zs69 ?_) | apply (zs70 ?_) | apply (zs79 ?_) | (apply zg28; refine zs84 ?_) | fail)
        first | apply Ya en95 | apply Yb en95
        exact za
        exact rfl
        exact fun _ hw => (p1 (by repeat (first | exact hinm | apply NetM.In.cons)) hw)
        repeat' (first | (apply zg2; refine zs6 ?_) | (apply zg3; first | refine zs7 ?_ | refine zs8 ?_) | fail)
        first | apply Ya en95 | apply Yb en95
        exact za
        exact rfl
        exact fun _ hw => (p2 (by repeat (first | exact hinm | apply NetM.In.cons)) hw)
        repeat' (first | apply (zs1 ?_) | apply (zs2 ?_) | (apply zg2; refine zs6 ?_) | (apply zg3; first | refine zs7 ?_ | refine zs8 ?_ | refine zs60 ?_) | (apply zg5; refine zs57 ?_) | apply (zs66 ?_) | apply (zs68 ?_) | apply (zs69 ?_) | (apply zg28; refine zs84 ?_) | fail)
        first | apply Ya Ua | apply Yb Ua
        exact za
        exact rfl
        exact fun _ hw => (q1 (by repeat (first | exact hinm | apply NetM.In.cons)) (Rd.sl zm) hw)
        repeat' (first | fail)
        first | apply Ya V9 | apply Yb V9
        exact za
        exact rfl
        exact fun _ hw => (r1 (by repeat (first | exact hinm | apply NetM.In.cons)) hw)
        repeat' (first | apply (zs1 ?_) | (apply zg1; refine zs4 ?_) | (apply zg2; refine zs6 ?_) | (apply zg3; first | refine zs7 ?_ | refine zs8 ?_ | refine zs60 ?_) | (apply zg5; refine zs57 ?_) | (apply zg20; refine zs47 ?_) | fail)
        first | apply Ya Ua | apply Yb Ua
        exact za
        exact rfl
        exact fun _ hw => (q2 (by repeat (first | exact hinm | apply NetM.In.cons)) (Rd.sl zm) hw)
        repeat' (first | (apply zg1; refine zs4 ?_) | fail)
        first | apply Ya V9 | apply Yb V9
        exact za
        exact rfl
        exact fun _ hw => (r2 (by repeat (first | exact hinm | apply NetM.In.cons)) hw)
        repeat' (first | apply (zs2 ?_) | (apply zg1; refine zs4 ?_) | (apply zg6; refine zs12 ?_) | (apply zg20; refine zs48 ?_) | apply (zs66 ?_) | apply (zs68 ?_) | apply (zs74 ?_) | fail)
        apply Zt
        · (repeat (first | with_reducible exact Yf | with_reducible apply Ye))
        apply VQ_m
        apply Yi H
        · intro w hw
          have h5 : St B w0 [many H] w := by
            revert w
            exact zk
          exact h5.perm (.openT H)
        apply Yc; exact rfl; exact rfl; exact ⟨rfl, rfl⟩
      | true =>
        repeat' (first | (apply zg2; refine zs6 ?_) | (apply zg3; first | refine zs7 ?_ | refine zs8 ?_ | refine zs61 ?_) | (apply zg5; refine zs10 ?_) | (apply zg22; refine zs51 ?_) | (apply zg24; (refine zs54 ?_; intro _)) | apply (zs65 ?_) | apply (zs68 ?_) | apply (zs69 ?_) | apply (zs70 ?_) | apply (zs79 ?_) | (apply zg28; refine zs84 ?_) | fail)
        first | apply Ya en95 | apply Yb en95
        exact za
        exact rfl
        exact fun _ hw => (p1 (by repeat (first | exact hinm | apply NetM.In.cons)) hw)
        repeat' (first | (apply zg2; refine zs6 ?_) | (apply zg3; first | refine zs7 ?_ | refine zs8 ?_) | fail)
        first | apply Ya en95 | apply Yb en95
        exact za
        exact rfl
        exact fun _ hw => (p2 (by repeat (first | exact hinm | apply NetM.In.cons)) hw)
        repeat' (first | apply (zs1 ?_) | apply (zs2 ?_) | (apply zg2; refine zs6 ?_) | (apply zg3; first | refine zs7 ?_ | refine zs8 ?_ | refine zs60 ?_) | (apply zg5; refine zs57 ?_) | apply (zs66 ?_) | apply (zs68 ?_) | apply (zs69 ?_) | (apply zg28; refine zs84 ?_) | fail)
        first | apply Ya Ua | apply Yb Ua
        exact za
        exact rfl
        exact fun _ hw => (q1 (by repeat (first | exact hinm | apply NetM.In.cons)) (Rd.sl zm) hw)
        repeat' (first | fail)
        first | apply Ya V9 | apply Yb V9
        exact za
        exact rfl
        exact fun _ hw => (r1 (by repeat (first | exact hinm | apply NetM.In.cons)) hw)
        repeat' (first | apply (zs1 ?_) | (apply zg1; refine zs4 ?_) | (apply zg2; refine zs6 ?_) | (apply zg3; first | refine zs7 ?_ | refine zs8 ?_ | refine zs60 ?_) | (apply zg5; refine zs57 ?_) | (apply zg20; refine zs47 ?_) | fail)
        first | apply Ya Ua | apply Yb Ua
        exact za
        exact rfl
        exact fun _ hw => (q2 (by repeat (first | exact hinm | apply NetM.In.cons)) (Rd.sl zm) hw)
        repeat' (first | (apply zg1; refine zs4 ?_) | fail)
        first | apply Ya V9 | apply Yb V9
        exact za
        exact rfl
        exact fun _ hw => (r2 (by repeat (first | exact hinm | apply NetM.In.cons)) hw)
        repeat' (first | apply (zs2 ?_) | (apply zg1; refine zs4 ?_) | (apply zg6; refine zs12 ?_) | (apply zg20; refine zs47 ?_) | apply (zs66 ?_) | apply (zs68 ?_) | apply (zs74 ?_) | fail)
        apply Zt
        · (repeat (first | with_reducible exact Yf | with_reducible apply Ye))
        apply VQ_m
        apply Yi H
        · intro w hw
          have h5 : St B w0 [many H] w := by
            revert w
            exact zk
          exact h5.perm (.openT H)
        apply Yc; exact rfl; exact rfl; exact ⟨rfl, rfl⟩
open Go.RowKit Go.Eng Go.Nw
theorem Ydj {n : Net} {l : List Flw} {s : Sch} (h1 : (JB n l s).2 = 0) : ∀ c ∈ s.cells, YY n (YR c) (toC c) = true := by
  have k1 := XM.1 h1
  intro c hc
  obtain ⟨i, hi⟩ := List.mem_iff_getElem?.1 hc
  have hl := (List.getElem?_eq_some_iff.1 hi).1
  have := k1 i (Nat.zero_le _) (by omega)
  unfold Vd at this
  rw [Zj hi] at this
  cases hg : YY n (YR c) (toC c) with
  | true => rfl
  | false =>
    rw [hg] at this
    split at this
    · omega
    · rw [if_pos (.inl rfl)] at this; omega
theorem YeK {nodes : Int} {l : List Flw} (h : (YV nodes l).2 = 0) : l.length ≤ 16 := by
  unfold YV at h
  split at h
  · cases h
  split at h
  · cases h
  · omega
set_option maxRecDepth 10000 in
set_option maxHeartbeats 4000000 in
theorem Yae (n : NetM) (l : List Flw) (s : SchM) (hlf : l.length ≤ 9223372036854775807) (hl : s.cells.length ≤ 1000000000000) {A : Option Addr} {cap B : Nat} {w0 : World} {H : List HP} {w : World} (hin : n.In B w0 H) (hrf : Rd B w0 H A (l.flatMap flwF)) (hr : Rd B w0 H s.A (s.cells.flatMap celF)) (hw : St B w0 H w) :
    Calls Tryz.prog 13 [n.val, .slice A l.length cap, s.val].toArray w (Post B w0 fun v K => v = .tuple #[.int .i64 (schE n.net l s.sch).1, .int .i64 (schE n.net l s.sch).2] ∧ K = H) := by
  refine Yd Tryz.func13 Tryz.ntmps13 rfl rfl hw ?_
  have e4 : s.sch.cells.length = s.cells.length := rfl
  have e5 : s.sch.len = s.len := rfl
  have hchk := fun {H' : List HP} {w : World} (hin : n.In B w0 H') (hw : St B w0 H' w) => YK n hin hw
  have hsz := fun {H' : List HP} {w : World} (hw : St B w0 H' w) => QI s hw
  by_cases h1 : YA n.net = 0
  rotate_left
  · have hS : schE n.net l s.sch = (-1, 1) := by
      have hw1 : Zr n.net l s.sch = 1 := by unfold Zr; rw [if_pos h1]
      unfold schE; rw [hw1]; rfl
    rw [hS]
    repeat' (first | ((first | apply Ya en50 | apply Yb en50); exact za; exact rfl; exact fun _ hw => (hchk hin.cons.cons hw)) | apply (zs2 ?_) | (apply zg3; refine zs8 ?_) | (apply zg8; (refine zs16 ?_ ?_ <;> intro _ <;> try (exfalso; omega))) | (apply zg23; (refine zs52 ?_; intro _)) | apply (zs65 ?_) | apply (zs68 ?_) | apply (zs69 ?_) | apply (zs70 ?_) | (apply zg27; refine zs71 ?_) | apply (zs74 ?_) | apply (zs77 ?_) | fail)
    apply Yi H
    · exact zk
    apply Yp; exact rfl; exact rfl; exact rfl; exact ⟨rfl, rfl⟩
  rw [h1] at hchk
  by_cases h2 : (YV n.nodes l).2 = 0
  rotate_left
  · have hS : schE n.net l s.sch = (-1, 1) := by
      have hw1 : Zr n.net l s.sch = 1 := by unfold Zr; rw [if_neg (by omega)]; exact if_pos h2
      unfold schE; rw [hw1]; rfl
    rw [hS]
    repeat' (first | ((first | apply Ya en50 | apply Yb en50); exact za; exact rfl; exact fun _ hw => (hchk hin.cons.cons hw)) | ((first | apply Ya en51 | apply Yb en51); exact za; exact rfl; exact fun _ hw => (YO n.nodes l hlf hrf.cons.cons hw)) | apply (zs1 ?_) | apply (zs2 ?_) | (apply zg2; refine zs6 ?_) | (apply zg3; first | refine zs7 ?_ | refine zs8 ?_) | apply (zs13 ?_) | (apply zg8; (refine zs16 ?_ ?_ <;> intro _ <;> try (exfalso; omega))) | (apply zg23; (refine zs52 ?_; intro _)) | apply (zs65 ?_) | apply (zs68 ?_) | apply (zs69 ?_) | apply (zs70 ?_) | (apply zg27; first | refine zs71 ?_ | refine zs72 ?_) | apply (zs74 ?_) | apply (zs76 ?_) | apply (zs77 ?_) | fail)
    apply Yi H
    · exact zk
    apply Yp; exact rfl; exact rfl; exact rfl; exact ⟨rfl, rfl⟩
  have hl16 := YeK h2
  have hper := YaD h2
  cases h3 : Jg s.sch with
  | false =>
    rw [h3] at hsz
    have hS : schE n.net l s.sch = (-1, 2) := by
      have hw1 : Zr n.net l s.sch = 2 := by unfold Zr; rw [if_neg (by omega), if_neg (fun h => h h2), if_pos h3]
      unfold schE; rw [hw1]; rfl
    rw [hS]
    repeat' (first | ((first | apply Ya en50 | apply Yb en50); exact za; exact rfl; exact fun _ hw => (hchk hin.cons.cons hw)) | ((first | apply Ya en51 | apply Yb en51); exact za; exact rfl; exact fun _ hw => (YO n.nodes l hlf hrf.cons.cons hw)) | ((first | apply Ya en52 | apply Yb en52); exact za; exact rfl; exact fun _ hw => (hsz hw)) | apply (zs1 ?_) | apply (zs2 ?_) | (apply zg2; refine zs6 ?_) | (apply zg3; first | refine zs7 ?_ | refine zs8 ?_) | apply (zs13 ?_) | (apply zg8; (refine zs16 ?_ ?_ <;> intro _ <;> try (exfalso; omega))) | (apply zg20; refine zs48 ?_) | (apply zg23; (refine zs52 ?_; intro _)) | apply (zs65 ?_) | apply (zs68 ?_) | apply (zs69 ?_) | apply (zs70 ?_) | (apply zg27; first | refine zs71 ?_ | refine zs72 ?_) | apply (zs73 ?_) | apply (zs74 ?_) | apply (zs76 ?_) | apply (zs77 ?_) | apply (zs78 ?_) | fail)
    apply Yi H
    · exact zk
    apply Yp; exact rfl; exact rfl; exact rfl; exact ⟨rfl, rfl⟩
  | true =>
  rw [h3] at hsz
  have hsl : 1 ≤ s.len ∧ s.len ≤ 512 := by
    have := of_decide_eq_true h3
    exact ⟨this.1, this.2.1⟩
  obtain ⟨b, hb⟩ : ∃ b, (l.any fun f => decide (s.len.tmod f.2.2.2.1 ≠ 0)) = b := ⟨_, rfl⟩
  have hw0 : Zr n.net l s.sch = if b = true then 11 else if 512 < s.cells.length then 8 else 0 := by
    unfold Zr
    rw [if_neg (by omega), if_neg (fun h => h h2), h3, if_neg (by decide), e5, hb]
    rfl
  have hcf := fun {H' : List HP} {w : World} (gs : Nat) (hm : blk gs (.cells #[.int .i64 s.len, .int .i64 s.off, .slice s.A s.cells.length s.cap] 30 (0, 0)) ∈ H') (hr : Rd B w0 H' A (l.flatMap flwF)) (hw : St B w0 H' w) => O2 (fun f => decide (s.len.tmod f.2.2.2.1 ≠ 0)) l 54 [.pointer (some ⟨gs, 0, none⟩)] en54 (by omega) (cap := cap) hr (fun f hf w hw => YbC s f gs hsl ⟨(hper f hf).2.2.1, (hper f hf).2.2.2⟩ hm hw) hw
  rw [hb] at hcf
  cases b with
  | true =>
    rw [if_pos rfl] at hw0
    have hS : schE n.net l s.sch = (-1, 11) := by unfold schE; rw [hw0]; rfl
    rw [hS]
    repeat' (first | ((first | apply Ya en50 | apply Yb en50); exact za; exact rfl; exact fun _ hw => (hchk hin.cons.cons hw)) | ((first | apply Ya en51 | apply Yb en51); exact za; exact rfl; exact fun _ hw => (YO n.nodes l hlf hrf.cons.cons hw)) | ((first | apply Ya en52 | apply Yb en52); exact za; exact rfl; exact fun _ hw => (hsz hw)) | ((first | apply Ya en53 | apply Yb en53); exact za; exact rfl; exact fun _ hw => (hcf _ zm hrf.cons.cons hw)) | apply (zs1 ?_) | apply (zs2 ?_) | (apply zg2; refine zs6 ?_) | (apply zg3; first | refine zs7 ?_ | refine zs8 ?_) | apply (zs13 ?_) | (apply zg8; (refine zs16 ?_ ?_ <;> intro _ <;> try (exfalso; omega))) | (apply zg20; refine zs47 ?_) | (apply zg23; (refine zs52 ?_; intro _)) | apply (zs65 ?_) | apply (zs68 ?_) | apply (zs69 ?_) | apply (zs70 ?_) | (apply zg27; first | refine zs71 ?_ | refine zs72 ?_) | apply (zs73 ?_) | apply (zs74 ?_) | apply (zs76 ?_) | apply (zs77 ?_) | apply (zs78 ?_) | (apply zg29; (apply Yr; exact za ; exact rfl)) | fail)
    apply Yi H
    · exact zk
    apply Yp; exact rfl; exact rfl; exact rfl; exact ⟨rfl, rfl⟩
  | false =>
  rw [if_neg (by decide)] at hw0
  by_cases h5 : 512 < s.cells.length
  · rw [if_pos h5] at hw0
    have hS : schE n.net l s.sch = (-1, 8) := by unfold schE; rw [hw0]; rfl
    rw [hS]
    repeat' (first | ((first | apply Ya en50 | apply Yb en50); exact za; exact rfl; exact fun _ hw => (hchk hin.cons.cons hw)) | ((first | apply Ya en51 | apply Yb en51); exact za; exact rfl; exact fun _ hw => (YO n.nodes l hlf hrf.cons.cons hw)) | ((first | apply Ya en52 | apply Yb en52); exact za; exact rfl; exact fun _ hw => (hsz hw)) | ((first | apply Ya en53 | apply Yb en53); exact za; exact rfl; exact fun _ hw => (hcf _ zm hrf.cons.cons hw)) | apply (zs1 ?_) | apply (zs2 ?_) | (apply zg2; refine zs6 ?_) | (apply zg3; first | refine zs7 ?_ | refine zs8 ?_) | (apply zg4; refine zs9 ?_) | apply (zs13 ?_) | (apply zg8; (refine zs16 ?_ ?_ <;> intro _ <;> try (exfalso; omega))) | (apply (zs19 ?_ ?_) <;> intro _ <;> try (exfalso; omega)) | (apply zg20; refine zs47 ?_) | (apply zg23; (refine zs52 ?_; intro _)) | apply (zs65 ?_) | apply (zs68 ?_) | apply (zs69 ?_) | apply (zs70 ?_) | (apply zg27; first | refine zs71 ?_ | refine zs72 ?_) | apply (zs73 ?_) | apply (zs74 ?_) | apply (zs76 ?_) | apply (zs77 ?_) | apply (zs78 ?_) | (apply zg29; (apply Yr; exact za ; exact rfl)) | fail)
    apply Yi H
    · exact zk
    apply Yp; exact rfl; exact rfl; exact rfl; exact ⟨rfl, rfl⟩
  rw [if_neg h5] at hw0
  have hS : schE n.net l s.sch = if (JB n.net l s.sch).2 ≠ 0 then JB n.net l s.sch else if (VO s.sch).2 ≠ 0 then VO s.sch else Yar n.net s.sch := by
    unfold schE; rw [hw0]; rfl
  rw [hS]
  have hcc := fun {H' : List HP} {w : World} (hin : n.In B w0 H') (hrf : Rd B w0 H' A (l.flatMap flwF)) (hr : Rd B w0 H' s.A (s.cells.flatMap celF)) (hw : St B w0 H' w) => Oe n l s h1 (by omega) hl (cap := cap) hin hrf hr hw
  obtain ⟨⟨c1, c2⟩, hcv⟩ : ∃ R, JB n.net l s.sch = R := ⟨_, rfl⟩
  rw [hcv] at hcc ⊢
  dsimp only at hcc ⊢
  by_cases h6 : c2 ≠ 0
  · rw [if_pos h6]
    repeat' (first | ((first | apply Ya en50 | apply Yb en50); exact za; exact rfl; exact fun _ hw => (hchk hin.cons.cons hw)) | ((first | apply Ya en51 | apply Yb en51); exact za; exact rfl; exact fun _ hw => (YO n.nodes l hlf hrf.cons.cons hw)) | ((first | apply Ya en52 | apply Yb en52); exact za; exact rfl; exact fun _ hw => (hsz hw)) | ((first | apply Ya en53 | apply Yb en53); exact za; exact rfl; exact fun _ hw => (hcf _ zm hrf.cons.cons hw)) | ((first | apply Ya en55 | apply Yb en55); exact za; exact rfl; exact fun _ hw => (hcc hin.cons.cons hrf.cons.cons hr.cons.cons hw)) | apply (zs1 ?_) | apply (zs2 ?_) | (apply zg2; refine zs6 ?_) | (apply zg3; first | refine zs7 ?_ | refine zs8 ?_) | (apply zg4; refine zs9 ?_) | apply (zs13 ?_) | (apply zg8; (refine zs16 ?_ ?_ <;> intro _ <;> try (exfalso; omega))) | (apply (zs19 ?_ ?_) <;> intro _ <;> try (exfalso; omega)) | (apply zg20; refine zs47 ?_) | (apply zg23; (refine zs52 ?_; intro _)) | apply (zs65 ?_) | apply (zs68 ?_) | apply (zs69 ?_) | apply (zs70 ?_) | (apply zg27; first | refine zs71 ?_ | refine zs72 ?_) | apply (zs73 ?_) | apply (zs74 ?_) | apply (zs76 ?_) | apply (zs77 ?_) | apply (zs79 ?_) | (apply zg29; (apply Yr; exact za ; exact rfl)) | fail)
    apply Yi H
    · exact zk
    apply Yp; exact rfl; exact rfl; exact rfl; exact ⟨rfl, rfl⟩
  obtain rfl : c2 = 0 := Decidable.not_not.1 h6
  rw [if_neg h6]
  have hgood := Ydj (n := n.net) (l := l) (s := s.sch) (by rw [hcv])
  repeat' (first | ((first | apply Ya en50 | apply Yb en50); exact za; exact rfl; exact fun _ hw => (hchk hin.cons.cons hw)) | ((first | apply Ya en51 | apply Yb en51); exact za; exact rfl; exact fun _ hw => (YO n.nodes l hlf hrf.cons.cons hw)) | ((first | apply Ya en52 | apply Yb en52); exact za; exact rfl; exact fun _ hw => (hsz hw)) | ((first | apply Ya en53 | apply Yb en53); exact za; exact rfl; exact fun _ hw => (hcf _ zm hrf.cons.cons hw)) | ((first | apply Ya en55 | apply Yb en55); exact za; exact rfl; exact fun _ hw => (hcc hin.cons.cons hrf.cons.cons hr.cons.cons hw)) | apply (zs1 ?_) | apply (zs2 ?_) | (apply zg2; refine zs6 ?_) | (apply zg3; first | refine zs7 ?_ | refine zs8 ?_) | (apply zg4; refine zs9 ?_) | apply (zs13 ?_) | (apply zg8; (refine zs16 ?_ ?_ <;> intro _ <;> try (exfalso; omega))) | (apply (zs19 ?_ ?_) <;> intro _ <;> try (exfalso; omega)) | (apply zg20; refine zs47 ?_) | (apply zg23; (refine zs52 ?_; intro _)) | apply (zs65 ?_) | apply (zs68 ?_) | apply (zs69 ?_) | apply (zs70 ?_) | (apply zg27; refine zs72 ?_) | apply (zs73 ?_) | apply (zs76 ?_) | apply (zs79 ?_) | (apply zg29; (apply Yr; exact za ; exact rfl)) | fail)
  first | (rename_i gn gs; guard_hyp gn : Nat; guard_hyp gs : Nat) | (rename_i gn gs _; guard_hyp gn : Nat; guard_hyp gs : Nat) | (rename_i gn gs _ _; guard_hyp gn : Nat; guard_hyp gs : Nat) | (rename_i gn gs _ _ _; guard_hyp gn : Nat; guard_hyp gs : Nat) | (rename_i gn gs _ _ _ _; guard_hyp gn : Nat; guard_hyp gs : Nat) | (rename_i gn gs _ _ _ _ _; guard_hyp gn : Nat; guard_hyp gs : Nat) | (rename_i gn gs _ _ _ _ _ _; guard_hyp gn : Nat; guard_hyp gs : Nat)
  refine Yk (fun (k : Nat) => [(53, .int .i64 k), (52, .int .i64 s.cells.length), (51, .slice s.A s.cells.length s.cap), (3, .pointer (some ⟨gn, 0, none⟩)), (5, .pointer (some ⟨gs, 0, none⟩))]) (fun _ => blk gs (.cells #[.int .i64 s.len, .int .i64 s.off, .slice s.A s.cells.length s.cap] 30 (0, 0)) :: netN gn n :: H) (fun k => k ≤ s.cells.length ∧ ∀ j, j < k → Jk s.sch j = false) (fun k => s.cells.length - k) 0 ⟨Nat.zero_le _, fun j hj => absurd hj (Nat.not_lt_zero _)⟩ ?_ (fun w hw => hw) ?_
  · exact zu
  rintro k ⟨hk, hall⟩ K hK
  have hF : VO s.sch = Yx (fun i => if Jk s.sch i = true then 6 else 0) s.cells.length 0 := rfl
  unfold netN
  by_cases hlt : k < s.cells.length
  · have htc := fun {H' : List HP} {w : World} (hr : Rd B w0 H' s.A (s.cells.flatMap celF)) (hw : St B w0 H' w) => YdO s k hlt (by omega) hr hw
    cases htw : Jk s.sch k with
    | true =>
      rw [htw] at htc
      have hT : VO s.sch = ((k : Int), 6) := by
        rw [hF, Xb (i := k) (fun j _ hj => by simp only [hall j hj]; rfl) (Nat.zero_le _) (by omega) (by simp only [htw]; decide)]
        simp [htw]
      rw [hT, if_pos (show (6 : Int) ≠ 0 by decide)]
      repeat' (first | ((first | apply Ya en56 | apply Yb en56); exact za; exact rfl; exact fun _ hw => (htc hr.cons.cons hw)) | apply (zs1 ?_) | apply (zs2 ?_) | (apply zg3; refine zs8 ?_) | (apply (zs17 ?_ ?_) <;> intro _ <;> try (exfalso; omega)) | apply (zs65 ?_) | apply (zs68 ?_) | apply (zs69 ?_) | apply (zs70 ?_) | (apply zg27; refine zs71 ?_) | apply (zs73 ?_) | apply (zs74 ?_) | apply (zs76 ?_) | apply (zs77 ?_) | apply (zs78 ?_) | fail)
      apply Yi H
      · exact zk
      apply Yp; exact rfl; exact rfl; exact rfl; exact ⟨rfl, rfl⟩
    | false =>
      rw [htw] at htc
      repeat' (first | ((first | apply Ya en56 | apply Yb en56); exact za; exact rfl; exact fun _ hw => (htc hr.cons.cons hw)) | apply (zs1 ?_) | apply (zs2 ?_) | (apply zg3; refine zs8 ?_) | (apply (zs17 ?_ ?_) <;> intro _ <;> try (exfalso; omega)) | (apply zg13; refine zs30 ?_) | apply (zs65 ?_) | apply (zs68 ?_) | apply (zs69 ?_) | apply (zs70 ?_) | (apply zg27; first | refine zs71 ?_ | refine zs72 ?_) | apply (zs73 ?_) | apply (zs76 ?_) | apply (zs79 ?_) | fail)
      apply hK (k + 1)
      · refine ⟨by omega, fun j hj => ?_⟩
        by_cases e : j = k
        · rw [e]; exact htw
        · exact hall j (by omega)
      · omega
      · exact zu
      · unfold netN
        exact zk
  have hT : (VO s.sch).2 = 0 := by
    rw [hF, XM]
    intro j _ hj
    simp only [hall j (by omega)]
    rfl
  rw [if_neg (fun h => h hT)]
  clear hK
  repeat' (first | apply (zs1 ?_) | (apply zg2; refine zs6 ?_) | (apply zg3; refine zs7 ?_) | (apply zg4; refine zs9 ?_) | (apply (zs17 ?_ ?_) <;> intro _ <;> try (exfalso; omega)) | apply (zs65 ?_) | apply (zs68 ?_) | apply (zs69 ?_) | apply (zs70 ?_) | (apply zg27; refine zs72 ?_) | apply (zs73 ?_) | apply (zs75 ?_) | apply (zs80 ?_) | apply (zs81 ?_) | fail)
  refine Yk (fun (k : Nat) => [(64, .int .i64 k), (63, .int .i64 s.cells.length), (62, .slice s.A s.cells.length s.cap), (3, .pointer (some ⟨gn, 0, none⟩)), (5, .pointer (some ⟨gs, 0, none⟩))]) (fun _ => blk gs (.cells #[.int .i64 s.len, .int .i64 s.off, .slice s.A s.cells.length s.cap] 30 (0, 0)) :: netN gn n :: H) (fun k => k ≤ s.cells.length ∧ ∀ j, j < k → Z6 n.net s.sch j = false) (fun k => s.cells.length - k) 0 ⟨Nat.zero_le _, fun j hj => absurd hj (Nat.not_lt_zero _)⟩ ?_ (fun w hw => hw) ?_
  · exact zu
  rintro k ⟨hk, hall⟩ K2 hK
  have hF : Yar n.net s.sch = Yx (fun i => if Z6 n.net s.sch i = true then 16 else 0) s.cells.length 0 := rfl
  unfold netN
  by_cases hlt : k < s.cells.length
  · have htc := fun {H' : List HP} {w : World} (hin : n.In B w0 H') (hr : Rd B w0 H' s.A (s.cells.flatMap celF)) (hw : St B w0 H' w) => O7 n s k h1 hgood hlt (by omega) hin hr hw
    cases htw : Z6 n.net s.sch k with
    | true =>
      rw [htw] at htc
      have hT : Yar n.net s.sch = ((k : Int), 16) := by
        rw [hF, Xb (i := k) (fun j _ hj => by simp only [hall j hj]; rfl) (Nat.zero_le _) (by omega) (by simp only [htw]; decide)]
        simp [htw]
      rw [hT]
      repeat' (first | ((first | apply Ya en57 | apply Yb en57); exact za; exact rfl; exact fun _ hw => (htc hin.cons.cons hr.cons.cons hw)) | apply (zs1 ?_) | apply (zs2 ?_) | (apply zg3; refine zs8 ?_) | (apply (zs17 ?_ ?_) <;> intro _ <;> try (exfalso; omega)) | apply (zs65 ?_) | apply (zs68 ?_) | apply (zs69 ?_) | apply (zs70 ?_) | (apply zg27; refine zs71 ?_) | apply (zs73 ?_) | apply (zs74 ?_) | apply (zs76 ?_) | apply (zs77 ?_) | apply (zs78 ?_) | fail)
      apply Yi H
      · exact zk
      apply Yp; exact rfl; exact rfl; exact rfl; exact ⟨rfl, rfl⟩
    | false =>
      rw [htw] at htc
      repeat' (first | ((first | apply Ya en57 | apply Yb en57); exact za; exact rfl; exact fun _ hw => (htc hin.cons.cons hr.cons.cons hw)) | apply (zs1 ?_) | apply (zs2 ?_) | (apply zg3; refine zs8 ?_) | (apply (zs17 ?_ ?_) <;> intro _ <;> try (exfalso; omega)) | (apply zg13; refine zs30 ?_) | apply (zs65 ?_) | apply (zs68 ?_) | apply (zs69 ?_) | apply (zs70 ?_) | (apply zg27; first | refine zs71 ?_ | refine zs72 ?_) | apply (zs73 ?_) | apply (zs76 ?_) | apply (zs79 ?_) | fail)
      apply hK (k + 1)
      · refine ⟨by omega, fun j hj => ?_⟩
        by_cases e : j = k
        · rw [e]; exact htw
        · exact hall j (by omega)
      · omega
      · exact zu
      · unfold netN
        exact zk
  · have hT : Yar n.net s.sch = (-1, 0) := by
      rw [hF]
      exact Xx fun j _ hj => by simp only [hall j (by omega)]; rfl
    rw [hT]
    repeat' (first | apply (zs2 ?_) | (apply (zs17 ?_ ?_) <;> intro _ <;> try (exfalso; omega)) | apply (zs65 ?_) | apply (zs68 ?_) | apply (zs69 ?_) | apply (zs70 ?_) | (apply zg27; refine zs72 ?_) | apply (zs74 ?_) | apply (zs75 ?_) | apply (zs80 ?_) | apply (zs81 ?_) | fail)
    apply Yi H
    · exact zk
    apply Yp; exact rfl; exact rfl; exact rfl; exact ⟨rfl, rfl⟩
open Go.RowKit Go.Eng Go.Nw Go.Rt
theorem Xj {α : Type} (f : α → HP) (l : List α) (r : α) (H : List HP) : Perm (f r :: many (l.map f) :: H) (many ((l ++ [r]).map f) :: H) := by
  have := Perm.push (f r) (l.map f) [] H
  rw [List.append_nil] at this
  rw [List.map_append]
  exact this
abbrev clsP (A : Option Addr) (cap : Nat) (C : List ClM) : HP := sl 61 5 A C.length cap (C.flatMap clF)
theorem O0 (A : Option Addr) (cap : Nat) (l : List ClM) (c : ClM) : sl 61 5 A (l.length + 1) cap (l.flatMap clF ++ #[Value.int .i64 c.flow, .slice c.rA c.rs.length c.rcap, .slice c.bA c.bs.length c.bcap, .slice c.wA c.ws.length c.wcap, .slice c.sA c.ss.length c.scap].toList) = clsP A cap (l ++ [c]) := by simp [clsP, List.flatMap_append, clF]
def OutC (H : List HP) (R : List Clm × (Int × Int)) (v : Value) (K : List HP) : Prop := ∃ A cap C, v = .tuple #[.slice A (C : List ClM).length cap, .int .i64 R.2.1, .int .i64 R.2.2] ∧ C.map ClM.clm = R.1 ∧ (∀ c ∈ C, c.lens) ∧ K = clsP A cap C :: many (C.map clQ) :: H
theorem Zn {B : Nat} {w0 w : World} {H : List HP} (h : St B w0 H w) : St B w0 (clsP none 0 [] :: many (([] : List ClM).map clQ) :: H) w := (h.perm (.noMany H)).nilSlice _ _
theorem X6 {H : List HP} {R : List Clm × (Int × Int)} {v : Value} (h1 : R.1 = []) (hv : v = .tuple #[.slice none 0 0, .int .i64 R.2.1, .int .i64 R.2.2]) : OutC H R v (clsP none 0 [] :: many (([] : List ClM).map clQ) :: H) := ⟨none, 0, [], hv, h1.symm, (fun c hc => by cases hc), rfl⟩
structure MkM where
  i : Nat
  A : Option Addr
  cap : Nat
  C : List ClM
set_option maxRecDepth 10000 in
set_option maxHeartbeats 8000000 in
theorem YaP (n : NetM) (q : List RqM) (s : SchM) {A : Option Addr} {cap B : Nat} {w0 : World} {H : List HP} {w : World} (ht : TabsB B w0) (hin : n.In B w0 H) (hq : QIn B w0 H A q) (hrs : Rd B w0 H s.A (s.cells.flatMap celF)) (hsl : s.cells.length ≤ 1000000000000) (hw : St B w0 H w) :
    Calls Tryz.prog 19 [n.val, .slice A q.length cap, s.val].toArray w (Post B w0 (OutC H (UD n.net (q.map RqM.rq) s.sch))) := by
  refine Yd Tryz.func19 Tryz.ntmps19 rfl rfl hw ?_
  have hql := hq.ln
  have hqr := hq.rd
  have p1 := fun {H' : List HP} {w : World} (hin : n.In B w0 H') (hq : QIn B w0 H' A q) (hw : St B w0 H' w) => Yaa n q (cap := cap) hin hq hw
  have p2 := fun {H' : List HP} {w : World} (hq : QIn B w0 H' A q) (hw : St B w0 H' w) => WF q (cap := cap) hql hq.rd hw
  have p3 := fun {A2 : Option Addr} {cap2 : Nat} {H' : List HP} {w : World} (hin : n.In B w0 H') (hf : Rd B w0 H' A2 ((RqM.fl q).flatMap flwF)) (hrs : Rd B w0 H' s.A (s.cells.flatMap celF)) (hw : St B w0 H' w) => Yae n (RqM.fl q) s (by unfold RqM.fl; rw [List.length_map]; omega) hsl (cap := cap2) hin hf hrs hw
  have p4 := fun {H' : List HP} {w : World} (x : RqM) (h9 : x.rows.length ≤ 9) (hin : n.In B w0 H') (hrs : Rd B w0 H' s.A (s.cells.flatMap celF)) (hx : x.In B w0 H') (hw : St B w0 H' w) => Ydm n s x ht hin hrs hsl hx h9 hw
  obtain ⟨R, hR⟩ : ∃ R, UD n.net (q.map RqM.rq) s.sch = R := ⟨_, rfl⟩
  rw [hR]
  unfold UD at hR
  rw [List.length_map] at hR
  have hrq : (rqsE n.net (q.map RqM.rq)).2 = 0 → ∀ x ∈ q, x.rows.length ≤ 9 := fun h x hx => by
    unfold rqsE at h
    split at h
    · cases h
    split at h
    · exact absurd h (by assumption)
    obtain ⟨k, hk⟩ := List.mem_iff_getElem?.1 hx
    have h1 := XM.1 h k (Nat.zero_le _) (by rw [List.length_map]; have := (List.getElem?_eq_some_iff.1 hk).1; omega)
    rw [QB hk] at h1
    have h2 := Yhs h1
    have h3 : x.rq.2.length = x.rows.length := by unfold RqM.rq; rw [List.length_map]
    omega
  obtain ⟨⟨ri, re⟩, hr⟩ : ∃ r, rqsE n.net (q.map RqM.rq) = r := ⟨_, rfl⟩
  obtain ⟨⟨ci, ce⟩, hc⟩ : ∃ r, schE n.net (Wj (q.map RqM.rq)) s.sch = r := ⟨_, rfl⟩
  obtain ⟨F, hF⟩ : ∃ F : Nat → Int, (fun i => if Ud n.net s.sch (rqAt (q.map RqM.rq) i) = true then 15 else 0) = F := ⟨_, rfl⟩
  rw [hr] at p1 hR hrq
  rw [Ygg] at p3
  rw [hc] at p3 hR
  rw [hF] at hR
  have hFv : ∀ {k : Nat} {x : RqM}, q[k]? = some x → F k = if Ud n.net s.sch x.rq = true then 15 else 0 := fun h => by rw [← hF]; show (if Ud _ _ _ = true then _ else _) = _; rw [QB h]
  rw [← Ygg] at p3
  dsimp only at p1 p3 hR hrq
  unfold NetM.val SchM.val
  by_cases h0 : re = 0
  rotate_left
  · rw [if_pos h0] at hR
    subst hR
    repeat' (first | ((first | apply Ya en67 | apply Yb en67); exact za; exact rfl; exact fun _ hw => (p1 (hin.mono zk) (hq.mono zk) hw)) | apply (zs1 ?_) | apply (zs2 ?_) | (apply zg3; refine zs8 ?_) | apply (zs13 ?_) | (apply zg8; (refine zs16 ?_ ?_ <;> intro _ <;> try (exfalso; omega))) | (apply zg23; (refine zs52 ?_; intro _)) | apply (zs65 ?_) | apply (zs68 ?_) | apply (zs69 ?_) | apply (zs70 ?_) | (apply zg27; refine zs71 ?_) | apply (zs74 ?_) | apply (zs77 ?_) | fail)
    apply Yi (clsP none 0 [] :: many (([] : List ClM).map clQ) :: H)
    · intro w hw
      have h5 : St B w0 H w := by
        revert w
        exact zk
      exact Zn h5
    apply Y6; exact rfl; exact rfl; exact rfl; exact rfl
    exact X6 rfl rfl
  subst h0
  rw [if_neg (fun e => e rfl)] at hR
  have hrq := hrq rfl
  by_cases h1 : ce = 0
  rotate_left
  · rw [if_pos h1] at hR
    subst hR
    repeat' (first | ((first | apply Ya en67 | apply Yb en67); exact za; exact rfl; exact fun _ hw => (p1 (hin.mono zk) (hq.mono zk) hw)) | apply (zs1 ?_) | apply (zs2 ?_) | (apply zg3; refine zs8 ?_) | apply (zs13 ?_) | (apply zg8; (refine zs16 ?_ ?_ <;> intro _ <;> try (exfalso; omega))) | (apply zg23; (refine zs52 ?_; intro _)) | apply (zs65 ?_) | apply (zs68 ?_) | apply (zs69 ?_) | apply (zs70 ?_) | (apply zg27; refine zs72 ?_) | apply (zs76 ?_) | fail)
    apply ZL [0, 1, 3, 2, 4, 5, 6, 7, 8, 9] [] [true, true]
    kernel_rfl
    kernel_rfl
    exact zy
    (simp only [Yj, nthO]; rfl)
    exact rfl
    repeat' (first | apply (zs1 ?_) | (apply zg3; refine zs8 ?_) | apply (zs87 ?_) | fail)
    apply Yo _ en68
    exact za
    exact rfl
    exact fun _ hw => (p2 (hq.mono zk) (hw))
    rintro _ _ ⟨A2, cap2, rfl, rfl⟩
    repeat' (first | apply (zs65 ?_) | apply (zs87 ?_) | (apply Yl; (repeat (first | with_reducible exact Yh | (with_reducible apply Yg; (repeat (first | with_reducible exact Yf | with_reducible apply Ye)))))) | fail)
    first | apply Ya en13 | apply Yb en13
    exact za
    exact rfl
    exact fun _ hw => (p3 (hin.mono zk) (Rd.sl zm) (hrs.mono zk) hw)
    repeat' (first | apply (zs1 ?_) | apply (zs2 ?_) | apply (zs13 ?_) | (apply zg8; (refine zs16 ?_ ?_ <;> intro _ <;> try (exfalso; omega))) | apply (zs65 ?_) | (apply Yn; exact zp) | apply (zs68 ?_) | apply (zs69 ?_) | apply (zs70 ?_) | (apply zg27; refine zs71 ?_) | apply (zs74 ?_) | apply (zs77 ?_) | (apply Yl; (repeat (first | with_reducible exact Yh | (with_reducible apply Yg; (repeat (first | with_reducible exact Yf | with_reducible apply Ye)))))) | apply (zs93 ?_) | apply (zs94 ?_) | fail)
    apply Yi (clsP none 0 [] :: many (([] : List ClM).map clQ) :: H)
    · intro w hw
      have h5 : St B w0 H w := by
        revert w
        exact zk
      exact Zn h5
    apply Y6; exact rfl; exact rfl; exact rfl; exact rfl
    exact X6 rfl rfl
  subst h1
  rw [if_neg (fun e => e rfl)] at hR
  repeat' (first | ((first | apply Ya en67 | apply Yb en67); exact za; exact rfl; exact fun _ hw => (p1 (hin.mono zk) (hq.mono zk) hw)) | apply (zs1 ?_) | apply (zs2 ?_) | (apply zg3; refine zs8 ?_) | apply (zs13 ?_) | (apply zg8; (refine zs16 ?_ ?_ <;> intro _ <;> try (exfalso; omega))) | (apply zg23; (refine zs52 ?_; intro _)) | apply (zs65 ?_) | apply (zs68 ?_) | apply (zs69 ?_) | apply (zs70 ?_) | (apply zg27; refine zs72 ?_) | apply (zs76 ?_) | fail)
  first | (rename_i g3 g5; guard_hyp g3 : Nat; guard_hyp g5 : Nat) | (rename_i g3 g5 _; guard_hyp g3 : Nat; guard_hyp g5 : Nat) | (rename_i g3 g5 _ _; guard_hyp g3 : Nat; guard_hyp g5 : Nat)
  apply ZL [0, 1, 3, 2, 4, 5, 6, 7, 8, 9] [] [true, true]
  kernel_rfl
  kernel_rfl
  exact zy
  (simp only [Yj, nthO]; rfl)
  exact rfl
  repeat' (first | apply (zs1 ?_) | (apply zg3; refine zs8 ?_) | apply (zs87 ?_) | fail)
  apply Yo _ en68
  exact za
  exact rfl
  exact fun _ hw => (p2 (hq.mono zk) (hw))
  rintro _ _ ⟨A2, cap2, rfl, rfl⟩
  repeat' (first | apply (zs65 ?_) | apply (zs87 ?_) | (apply Yl; (repeat (first | with_reducible exact Yh | (with_reducible apply Yg; (repeat (first | with_reducible exact Yf | with_reducible apply Ye)))))) | fail)
  first | apply Ya en13 | apply Yb en13
  exact za
  exact rfl
  exact fun _ hw => (p3 (hin.mono zk) (Rd.sl zm) (hrs.mono zk) hw)
  repeat' (first | apply (zs1 ?_) | apply (zs2 ?_) | (apply zg4; refine zs9 ?_) | apply (zs13 ?_) | (apply zg8; (refine zs16 ?_ ?_ <;> intro _ <;> try (exfalso; omega))) | apply (zs65 ?_) | (apply Yn; exact zp) | apply (zs68 ?_) | apply (zs69 ?_) | apply (zs70 ?_) | (apply zg27; refine zs72 ?_) | apply (zs73 ?_) | apply (zs76 ?_) | (apply Yl; (repeat (first | with_reducible exact Yh | (with_reducible apply Yg; (repeat (first | with_reducible exact Yf | with_reducible apply Ye)))))) | apply (zs93 ?_) | apply (zs94 ?_) | fail)
  refine Yk (fun z : MkM => [(40, .int .i64 (z.i : Nat)), (39, .int .i64 q.length), (38, .slice A q.length cap), (13, .slice z.A z.C.length z.cap), (5, .pointer (some ⟨g5, 0, none⟩)), (3, .pointer (some ⟨g3, 0, none⟩))]) (fun z => clsP z.A z.cap z.C :: many (z.C.map clQ) :: schA g5 s :: netA g3 n :: H)
    (fun z => z.i ≤ q.length ∧ z.C.map ClM.clm = (q.take z.i).map (fun x => clmE n.net s.sch x.rq) ∧ (∀ c ∈ z.C, c.lens) ∧ ∀ j, 0 ≤ j → j < z.i → F j = 0) (fun z => q.length - z.i) ⟨0, none, 0, []⟩ ⟨Nat.zero_le _, rfl, (fun c hc => by cases hc), fun j _ h => absurd h (Nat.not_lt_zero _)⟩ ?_ ?_ ?_
  · exact zu
  · intro w hw
    have h5 : St B w0 (schA g5 s :: netA g3 n :: H) w := by
      revert w
      exact zk
    exact Zn h5
  rintro ⟨i, A3, cap3, C⟩ ⟨hi, hC, hCl, hz⟩ K hK
  dsimp only at hi hC hCl hz ⊢
  have hqr' : Rd B w0 (clsP A3 cap3 C :: many (C.map clQ) :: schA g5 s :: netA g3 n :: H) A (q.flatMap rqF) := hqr.cons.cons.cons.cons
  have hCn : C.length ≤ q.length := by
    have := congrArg List.length hC
    rw [List.length_map, List.length_map, List.length_take] at this
    omega
  by_cases hlt : i < q.length
  rotate_left
  · obtain rfl : i = q.length := by omega
    have hfe := Xx (f := F) (r := q.length) (i0 := 0) fun j h1 h2 => hz j h1 (by omega)
    rw [hfe, if_neg (fun e => e rfl)] at hR
    subst hR
    rw [List.take_length] at hC
    clear hK
    repeat' (first | apply (zs1 ?_) | apply (zs2 ?_) | (apply (zs17 ?_ ?_) <;> intro _ <;> try (exfalso; omega)) | apply (zs65 ?_) | apply (zs68 ?_) | apply (zs69 ?_) | apply (zs70 ?_) | (apply zg27; refine zs72 ?_) | apply (zs74 ?_) | apply (zs75 ?_) | apply (zs80 ?_) | apply (zs81 ?_) | fail)
    apply Yi (clsP A3 cap3 C :: many (C.map clQ) :: H)
    · exact zk
    apply Y6; exact rfl; exact rfl; exact rfl; exact rfl
    exact ⟨A3, cap3, C, rfl, by rw [hC, List.map_map]; rfl, hCl, rfl⟩
  obtain ⟨x, hx⟩ : ∃ x, q[i]? = some x := ⟨_, List.getElem?_eq_getElem hlt⟩
  have hxm := List.mem_of_getElem? hx
  have hFx := hFv hx
  have p5 := fun {H' : List HP} {w : World} (hin : n.In B w0 H') (hrs : Rd B w0 H' s.A (s.cells.flatMap celF)) (hxi : x.In B w0 H') (hw : St B w0 H' w) => p4 x (hrq x hxm) hin hrs hxi hw
  have hxi := hq.x x hxm
  cases hlb : Ud n.net s.sch x.rq with
  | true =>
    rw [hlb, if_pos rfl] at hFx
    rw [hlb] at p5
    have hfe := Xb (f := F) (r := q.length) (i0 := 0) (i := i) (fun j h1 h2 => hz j h1 h2) (Nat.zero_le _) (by omega) (by rw [hFx]; decide)
    rw [hfe, hFx] at hR
    rw [if_pos (show (15 : Int) ≠ 0 from by decide)] at hR
    subst hR
    clear hK
    repeat' (first | apply (zs1 ?_) | apply (zs2 ?_) | (apply zg3; first | refine zs8 ?_ | refine zs61 ?_) | (apply zg5; refine zs57 ?_) | (apply (zs17 ?_ ?_) <;> intro _ <;> try (exfalso; omega)) | (apply zg22; refine zs51 ?_) | (apply zg24; (refine zs54 ?_; intro _)) | apply (zs65 ?_) | apply (zs68 ?_) | apply (zs69 ?_) | apply (zs70 ?_) | (apply zg27; refine zs71 ?_) | apply (zs73 ?_) | apply (zs76 ?_) | fail)
    apply Yo _ en69
    exact za
    exact rfl
    exact fun _ hw => (p5 (hin.mono zk) (hrs.mono zk) (hxi.mono zk) (hw))
    rintro _ _ ⟨c, rfl, _, rfl⟩
    unfold clV
    repeat' (first | apply (zs1 ?_) | apply (zs2 ?_) | apply (zs13 ?_) | (apply zg20; refine zs48 ?_) | (apply zg22; refine zs51 ?_) | (apply zg24; (refine zs54 ?_; intro _)) | apply (zs65 ?_) | apply (zs68 ?_) | apply (zs69 ?_) | apply (zs70 ?_) | (apply zg27; refine zs71 ?_) | apply (zs74 ?_) | apply (zs77 ?_) | apply (zs78 ?_) | fail)
    apply Yi (clsP none 0 [] :: many (([] : List ClM).map clQ) :: H)
    · intro w hw
      have h5 : St B w0 H w := by
        revert w
        exact zk
      exact Zn h5
    apply Y6; exact rfl; exact rfl; exact rfl; exact rfl
    exact X6 rfl rfl
  | false =>
    rw [hlb, if_neg (by decide)] at hFx
    rw [hlb] at p5
    repeat' (first | apply (zs1 ?_) | apply (zs2 ?_) | (apply zg3; first | refine zs8 ?_ | refine zs61 ?_) | (apply zg5; refine zs57 ?_) | (apply (zs17 ?_ ?_) <;> intro _ <;> try (exfalso; omega)) | (apply zg22; refine zs51 ?_) | (apply zg24; (refine zs54 ?_; intro _)) | apply (zs65 ?_) | apply (zs68 ?_) | apply (zs69 ?_) | apply (zs70 ?_) | (apply zg27; refine zs71 ?_) | apply (zs73 ?_) | apply (zs76 ?_) | fail)
    apply Yo _ en69
    exact za
    exact rfl
    exact fun _ hw => (p5 (hin.mono zk) (hrs.mono zk) (hxi.mono zk) (hw))
    rintro _ _ ⟨c, rfl, hcc, rfl⟩
    obtain ⟨hcm, hcl⟩ := hcc rfl
    unfold clV
    repeat' (first | apply (zs1 ?_) | apply (zs2 ?_) | (apply zg3; refine zs8 ?_) | apply (zs13 ?_) | (apply zg13; refine zs30 ?_) | (apply zg20; refine zs47 ?_) | (apply zg21; (refine zs49 ?_; intro _ _)) | (apply zg22; refine zs51 ?_) | (apply zg24; (refine zs54 ?_; intro _)) | (apply zg26; (refine zs56 ?_; intro _)) | apply (zs65 ?_) | apply (zs68 ?_) | apply (zs69 ?_) | apply (zs70 ?_) | (apply zg27; refine zs72 ?_) | apply (zs76 ?_) | apply (zs79 ?_) | fail)
    first | (rename_i A4 cap4; guard_hyp A4 : Option Addr)
    rw [O0, show C.length + 1 = (C ++ [c]).length by simp]
    apply hK ⟨i + 1, A4, cap4, C ++ [c]⟩
    · refine ⟨by show i + 1 ≤ _; omega, ?_, fun y hy => ?_, fun j h1 h2 => ?_⟩
      · show (C ++ [c]).map ClM.clm = _
        rw [List.take_add_one, hx, Option.toList_some, List.map_append, List.map_append, hC]
        simp [hcm]
      · rcases List.mem_append.1 hy with h | h
        · exact hCl y h
        · rw [List.mem_singleton.1 h]; exact hcl
      · rcases Nat.lt_succ_iff_lt_or_eq.1 h2 with h | rfl
        · exact hz j h1 h
        · exact hFx
    · dsimp only; omega
    · exact zu
    · intro w hw
      have h5 : St B w0 (clsP A4 cap4 (C ++ [c]) :: clQ c :: many (C.map clQ) :: schA g5 s :: netA g3 n :: H) w := by
        revert w
        exact zk
      exact h5.perm (.cons _ (Xj clQ C c _))
open Go.RowKit Go.Eng Go.Nw Go.Rt
theorem Vs (l m : List Int) (hlen : l.length ≤ 9223372036854775807) (_hlen2 : m.length ≤ 9223372036854775807) {A A2 : Option Addr} {cap cap2 B : Nat} {w0 : World} {H : List HP} {w : World} (hr : Rd B w0 H A (l.flatMap numF)) (hr2 : Rd B w0 H A2 (m.flatMap numF)) (hw : St B w0 H w) :
    Calls Tryz.prog 132 [.slice A l.length cap, .slice A2 m.length cap2].toArray w (Post B w0 fun u K => u = .bool (decide (l = m)) ∧ K = H) := by
  refine Yd Tryz.func132 Tryz.ntmps132 rfl rfl hw ?_
  by_cases hll : l.length = m.length
  rotate_left
  · repeat' (first | apply (zs1 ?_) | apply (zs2 ?_) | (apply zg4; refine zs9 ?_) | (apply zg8; (refine zs16 ?_ ?_ <;> intro _ <;> try (exfalso; omega))) | apply (zs65 ?_) | apply (zs68 ?_) | apply (zs69 ?_) | apply (zs70 ?_) | (apply zg27; refine zs71 ?_) | apply (zs74 ?_) | apply (zs77 ?_) | fail)
    apply Yc; exact rfl; exact rfl
    exact ⟨by rw [decide_eq_false fun e => hll (by rw [e])], rfl⟩
  repeat' (first | apply (zs1 ?_) | apply (zs2 ?_) | (apply zg4; refine zs9 ?_) | (apply zg8; (refine zs16 ?_ ?_ <;> intro _ <;> try (exfalso; omega))) | apply (zs65 ?_) | apply (zs68 ?_) | apply (zs69 ?_) | apply (zs70 ?_) | (apply zg27; refine zs72 ?_) | apply (zs73 ?_) | apply (zs76 ?_) | fail)
  refine Yk (fun (k : Nat) => [(13, .int .i64 k), (12, .int .i64 l.length), (0, .slice A l.length cap), (1, .slice A2 m.length cap2)]) (fun _ => H) (fun k => k ≤ l.length ∧ l.take k = m.take k) (fun k => l.length - k) 0 ⟨Nat.zero_le _, by simp⟩ ?_ (fun w hw => hw) ?_
  · exact zu
  rintro k ⟨hk, hi⟩ K hK
  by_cases hlt : k < l.length
  · obtain ⟨a, ha⟩ : ∃ a, l[k]? = some a := ⟨_, List.getElem?_eq_getElem hlt⟩
    obtain ⟨b, hb⟩ : ∃ b, m[k]? = some b := ⟨_, List.getElem?_eq_getElem (by omega)⟩
    repeat' (first | apply (zs1 ?_) | apply (zs2 ?_) | (apply zg3; refine zs60 ?_) | (apply zg5; refine zs57 ?_) | (apply zg8; (refine zs16 ?_ ?_ <;> intro _ <;> try (exfalso; omega))) | (apply (zs17 ?_ ?_) <;> intro _ <;> try (exfalso; omega)) | (apply zg13; refine zs30 ?_) | apply (zs65 ?_) | apply (zs66 ?_) | apply (zs68 ?_) | apply (zs69 ?_) | apply (zs70 ?_) | (apply zg27; first | refine zs71 ?_ | refine zs72 ?_) | apply (zs73 ?_) | apply (zs74 ?_) | apply (zs76 ?_) | apply (zs77 ?_) | apply (zs78 ?_) | apply (zs79 ?_) | (apply zg28; refine zs83 ?_) | fail)
    · rename_i h
      apply Yc; exact rfl; exact rfl
      exact ⟨by rw [decide_eq_false fun e => by rw [e, hb] at ha; exact h (Option.some.inj ha).symm], rfl⟩
    · rename_i h
      apply hK (k + 1)
      · exact ⟨by omega, by rw [ZX ha, ZX hb, hi, h]⟩
      · omega
      · exact zu
      · exact fun w hw => hw
  · repeat' (first | apply (zs2 ?_) | (apply (zs17 ?_ ?_) <;> intro _ <;> try (exfalso; omega)) | apply (zs65 ?_) | apply (zs68 ?_) | apply (zs69 ?_) | apply (zs70 ?_) | (apply zg27; refine zs72 ?_) | apply (zs74 ?_) | apply (zs75 ?_) | apply (zs80 ?_) | apply (zs81 ?_) | fail)
    apply Yc; exact rfl; exact rfl
    rw [List.take_of_length_le (by omega), List.take_of_length_le (by omega)] at hi
    exact ⟨by rw [decide_eq_true hi], rfl⟩
theorem QF (a b : RowM) {B : Nat} {w0 : World} {H : List HP} {w : World} (hl : a.xs.length ≤ 1000000000000 ∧ b.xs.length ≤ 1000000000000) (hr : Rd B w0 H a.A (a.xs.flatMap numF)) (hr2 : Rd B w0 H b.A (b.xs.flatMap numF)) (hw : St B w0 H w) :
    Calls Tryz.prog 130 [.slice a.A a.xs.length a.cap, .slice b.A b.xs.length b.cap].toArray w (Post B w0 fun u K => u = .bool (decide (a.xs = b.xs)) ∧ K = H) := by
  refine Yd Tryz.func130 Tryz.ntmps130 rfl rfl hw ?_
  repeat' (first | ((first | apply Ya en33 | apply Yb en33); exact za; exact rfl; exact fun _ hw => (WR a.xs b.xs (by omega) (by omega) hr hr2 hw)) | apply (zs1 ?_) | apply (zs2 ?_) | apply (zs65 ?_) | apply (zs68 ?_) | apply (zs69 ?_) | apply (zs70 ?_) | apply (zs74 ?_) | fail)
  apply Yc; exact rfl; exact rfl; exact ⟨rfl, rfl⟩
set_option maxHeartbeats 1000000 in
theorem Wh (l m : List RowM) (hlen : l.length ≤ 1000000000000) (_hlen2 : m.length ≤ 1000000000000) (hl2 : ∀ r ∈ l, r.xs.length ≤ 1000000000000) (hm2 : ∀ r ∈ m, r.xs.length ≤ 1000000000000) {A A2 : Option Addr} {cap cap2 B : Nat} {w0 : World} {H : List HP} {w : World} (hr : Rd B w0 H A (l.flatMap rowF)) (hr2 : Rd B w0 H A2 (m.flatMap rowF)) (hrl : ∀ r ∈ l, Rd B w0 H r.A (r.xs.flatMap numF)) (hrm : ∀ r ∈ m, Rd B w0 H r.A (r.xs.flatMap numF)) (hw : St B w0 H w) :
    Calls Tryz.prog 133 [.slice A l.length cap, .slice A2 m.length cap2, .func (.func 130) #[] #[]].toArray w (Post B w0 fun u K => u = .bool (decide (l.map (·.xs) = m.map (·.xs))) ∧ K = H) := by
  refine Yd Tryz.func133 Tryz.ntmps133 rfl rfl hw ?_
  by_cases hll : l.length = m.length
  rotate_left
  · repeat' (first | apply (zs1 ?_) | apply (zs2 ?_) | (apply zg4; refine zs9 ?_) | (apply zg8; (refine zs16 ?_ ?_ <;> intro _ <;> try (exfalso; omega))) | apply (zs65 ?_) | apply (zs68 ?_) | apply (zs69 ?_) | apply (zs70 ?_) | (apply zg27; refine zs71 ?_) | apply (zs74 ?_) | apply (zs77 ?_) | fail)
    apply Yc; exact rfl; exact rfl
    exact ⟨by rw [decide_eq_false fun e => hll (by have := congrArg List.length e; simpa using this)], rfl⟩
  repeat' (first | apply (zs1 ?_) | apply (zs2 ?_) | (apply zg4; refine zs9 ?_) | (apply zg8; (refine zs16 ?_ ?_ <;> intro _ <;> try (exfalso; omega))) | apply (zs65 ?_) | apply (zs68 ?_) | apply (zs69 ?_) | apply (zs70 ?_) | (apply zg27; refine zs72 ?_) | apply (zs73 ?_) | apply (zs76 ?_) | fail)
  refine Yk (fun (k : Nat) => [(17, .int .i64 k), (16, .int .i64 l.length), (15, .slice A l.length cap), (0, .slice A l.length cap), (1, .slice A2 m.length cap2), (2, .func (.func 130) #[] #[])]) (fun _ => H) (fun k => k ≤ l.length ∧ (l.take k).map (·.xs) = (m.take k).map (·.xs)) (fun k => l.length - k) 0 ⟨Nat.zero_le _, by simp⟩ ?_ (fun w hw => hw) ?_
  · exact zu
  rintro k ⟨hk, hi⟩ K hK
  by_cases hlt : k < l.length
  · obtain ⟨a, ha⟩ : ∃ a, l[k]? = some a := ⟨_, List.getElem?_eq_getElem hlt⟩
    obtain ⟨b, hb⟩ : ∃ b, m[k]? = some b := ⟨_, List.getElem?_eq_getElem (by omega)⟩
    have ham := List.mem_of_getElem? ha
    have hbm := List.mem_of_getElem? hb
    have hss := fun {w : World} (hw : St B w0 H w) => QF a b ⟨hl2 a ham, hm2 b hbm⟩ (hrl a ham) (hrm b hbm) hw
    by_cases hab : a.xs = b.xs
    · rw [decide_eq_true hab] at hss
      repeat' (first | ((first | apply YG (cs := []) | apply Y9 (cs := [])); exact rfl; exact YhI; exact za; exact rfl; exact fun _ hw => (hss hw)) | apply (zs1 ?_) | apply (zs2 ?_) | (apply zg3; refine zs60 ?_) | (apply zg5; refine zs57 ?_) | (apply (zs17 ?_ ?_) <;> intro _ <;> try (exfalso; omega)) | (apply zg13; refine zs30 ?_) | (apply zg20; refine zs47 ?_) | apply (zs65 ?_) | apply (zs68 ?_) | apply (zs69 ?_) | apply (zs70 ?_) | (apply zg27; first | refine zs71 ?_ | refine zs72 ?_) | apply (zs73 ?_) | apply (zs76 ?_) | apply (zs79 ?_) | fail)
      apply hK (k + 1)
      · exact ⟨by omega, by rw [List.take_add_one, List.take_add_one, ha, hb, List.map_append, List.map_append, hi]; simp [hab]⟩
      · omega
      · exact zu
      · exact fun w hw => hw
    · rw [decide_eq_false hab] at hss
      repeat' (first | ((first | apply YG (cs := []) | apply Y9 (cs := [])); exact rfl; exact YhI; exact za; exact rfl; exact fun _ hw => (hss hw)) | apply (zs1 ?_) | apply (zs2 ?_) | (apply zg3; refine zs60 ?_) | (apply zg5; refine zs57 ?_) | (apply (zs17 ?_ ?_) <;> intro _ <;> try (exfalso; omega)) | (apply zg20; refine zs48 ?_) | apply (zs65 ?_) | apply (zs68 ?_) | apply (zs69 ?_) | apply (zs70 ?_) | (apply zg27; refine zs71 ?_) | apply (zs73 ?_) | apply (zs74 ?_) | apply (zs76 ?_) | apply (zs77 ?_) | apply (zs78 ?_) | fail)
      apply Yc; exact rfl; exact rfl
      have hne : ¬ (l.map (·.xs) = m.map (·.xs)) := fun e => by
        have h1 : (l.map (·.xs))[k]? = (m.map (·.xs))[k]? := by rw [e]
        rw [List.getElem?_map, List.getElem?_map, ha, hb] at h1
        exact hab (Option.some.inj h1)
      exact ⟨by rw [decide_eq_false hne], rfl⟩
  · repeat' (first | apply (zs2 ?_) | (apply (zs17 ?_ ?_) <;> intro _ <;> try (exfalso; omega)) | apply (zs65 ?_) | apply (zs68 ?_) | apply (zs69 ?_) | apply (zs70 ?_) | (apply zg27; refine zs72 ?_) | apply (zs74 ?_) | apply (zs75 ?_) | apply (zs80 ?_) | apply (zs81 ?_) | fail)
    apply Yc; exact rfl; exact rfl
    rw [List.take_of_length_le (by omega), List.take_of_length_le (by omega)] at hi
    exact ⟨by rw [decide_eq_true hi], rfl⟩
theorem Yad (a b : RowM) {B : Nat} {w0 : World} {H : List HP} {w : World} (hl : a.xs.length ≤ 1000000000000 ∧ b.xs.length ≤ 1000000000000) (hr : Rd B w0 H a.A (a.xs.flatMap numF)) (hr2 : Rd B w0 H b.A (b.xs.flatMap numF)) (hw : St B w0 H w) :
    Calls Tryz.prog 131 [.slice a.A a.xs.length a.cap, .slice b.A b.xs.length b.cap].toArray w (Post B w0 fun u K => u = .bool (decide (a.xs = b.xs)) ∧ K = H) := by
  refine Yd Tryz.func131 Tryz.ntmps131 rfl rfl hw ?_
  repeat' (first | ((first | apply Ya Ve | apply Yb Ve); exact za; exact rfl; exact fun _ hw => (Vs a.xs b.xs (by omega) (by omega) hr hr2 hw)) | apply (zs1 ?_) | apply (zs2 ?_) | apply (zs65 ?_) | apply (zs68 ?_) | apply (zs69 ?_) | apply (zs70 ?_) | apply (zs74 ?_) | fail)
  apply Yc; exact rfl; exact rfl; exact ⟨rfl, rfl⟩
set_option maxHeartbeats 1000000 in
theorem Oh (l m : List RowM) (hlen : l.length ≤ 1000000000000) (_hlen2 : m.length ≤ 1000000000000) (hl2 : ∀ r ∈ l, r.xs.length ≤ 1000000000000) (hm2 : ∀ r ∈ m, r.xs.length ≤ 1000000000000) {A A2 : Option Addr} {cap cap2 B : Nat} {w0 : World} {H : List HP} {w : World} (hr : Rd B w0 H A (l.flatMap rowF)) (hr2 : Rd B w0 H A2 (m.flatMap rowF)) (hrl : ∀ r ∈ l, Rd B w0 H r.A (r.xs.flatMap numF)) (hrm : ∀ r ∈ m, Rd B w0 H r.A (r.xs.flatMap numF)) (hw : St B w0 H w) :
    Calls Tryz.prog 134 [.slice A l.length cap, .slice A2 m.length cap2, .func (.func 131) #[] #[]].toArray w (Post B w0 fun u K => u = .bool (decide (l.map (·.xs) = m.map (·.xs))) ∧ K = H) := by
  refine Yd Tryz.func134 Tryz.ntmps134 rfl rfl hw ?_
  by_cases hll : l.length = m.length
  rotate_left
  · repeat' (first | apply (zs1 ?_) | apply (zs2 ?_) | (apply zg4; refine zs9 ?_) | (apply zg8; (refine zs16 ?_ ?_ <;> intro _ <;> try (exfalso; omega))) | apply (zs65 ?_) | apply (zs68 ?_) | apply (zs69 ?_) | apply (zs70 ?_) | (apply zg27; refine zs71 ?_) | apply (zs74 ?_) | apply (zs77 ?_) | fail)
    apply Yc; exact rfl; exact rfl
    exact ⟨by rw [decide_eq_false fun e => hll (by have := congrArg List.length e; simpa using this)], rfl⟩
  repeat' (first | apply (zs1 ?_) | apply (zs2 ?_) | (apply zg4; refine zs9 ?_) | (apply zg8; (refine zs16 ?_ ?_ <;> intro _ <;> try (exfalso; omega))) | apply (zs65 ?_) | apply (zs68 ?_) | apply (zs69 ?_) | apply (zs70 ?_) | (apply zg27; refine zs72 ?_) | apply (zs73 ?_) | apply (zs76 ?_) | fail)
  refine Yk (fun (k : Nat) => [(17, .int .i64 k), (16, .int .i64 l.length), (15, .slice A l.length cap), (0, .slice A l.length cap), (1, .slice A2 m.length cap2), (2, .func (.func 131) #[] #[])]) (fun _ => H) (fun k => k ≤ l.length ∧ (l.take k).map (·.xs) = (m.take k).map (·.xs)) (fun k => l.length - k) 0 ⟨Nat.zero_le _, by simp⟩ ?_ (fun w hw => hw) ?_
  · exact zu
  rintro k ⟨hk, hi⟩ K hK
  by_cases hlt : k < l.length
  · obtain ⟨a, ha⟩ : ∃ a, l[k]? = some a := ⟨_, List.getElem?_eq_getElem hlt⟩
    obtain ⟨b, hb⟩ : ∃ b, m[k]? = some b := ⟨_, List.getElem?_eq_getElem (by omega)⟩
    have ham := List.mem_of_getElem? ha
    have hbm := List.mem_of_getElem? hb
    have hss := fun {w : World} (hw : St B w0 H w) => Yad a b ⟨hl2 a ham, hm2 b hbm⟩ (hrl a ham) (hrm b hbm) hw
    by_cases hab : a.xs = b.xs
    · rw [decide_eq_true hab] at hss
      repeat' (first | ((first | apply YG (cs := []) | apply Y9 (cs := [])); exact rfl; exact YhJ; exact za; exact rfl; exact fun _ hw => (hss hw)) | apply (zs1 ?_) | apply (zs2 ?_) | (apply zg3; refine zs60 ?_) | (apply zg5; refine zs57 ?_) | (apply (zs17 ?_ ?_) <;> intro _ <;> try (exfalso; omega)) | (apply zg13; refine zs30 ?_) | (apply zg20; refine zs47 ?_) | apply (zs65 ?_) | apply (zs68 ?_) | apply (zs69 ?_) | apply (zs70 ?_) | (apply zg27; first | refine zs71 ?_ | refine zs72 ?_) | apply (zs73 ?_) | apply (zs76 ?_) | apply (zs79 ?_) | fail)
      apply hK (k + 1)
      · exact ⟨by omega, by rw [List.take_add_one, List.take_add_one, ha, hb, List.map_append, List.map_append, hi]; simp [hab]⟩
      · omega
      · exact zu
      · exact fun w hw => hw
    · rw [decide_eq_false hab] at hss
      repeat' (first | ((first | apply YG (cs := []) | apply Y9 (cs := [])); exact rfl; exact YhJ; exact za; exact rfl; exact fun _ hw => (hss hw)) | apply (zs1 ?_) | apply (zs2 ?_) | (apply zg3; refine zs60 ?_) | (apply zg5; refine zs57 ?_) | (apply (zs17 ?_ ?_) <;> intro _ <;> try (exfalso; omega)) | (apply zg20; refine zs48 ?_) | apply (zs65 ?_) | apply (zs68 ?_) | apply (zs69 ?_) | apply (zs70 ?_) | (apply zg27; refine zs71 ?_) | apply (zs73 ?_) | apply (zs74 ?_) | apply (zs76 ?_) | apply (zs77 ?_) | apply (zs78 ?_) | fail)
      apply Yc; exact rfl; exact rfl
      have hne : ¬ (l.map (·.xs) = m.map (·.xs)) := fun e => by
        have h1 : (l.map (·.xs))[k]? = (m.map (·.xs))[k]? := by rw [e]
        rw [List.getElem?_map, List.getElem?_map, ha, hb] at h1
        exact hab (Option.some.inj h1)
      exact ⟨by rw [decide_eq_false hne], rfl⟩
  · repeat' (first | apply (zs2 ?_) | (apply (zs17 ?_ ?_) <;> intro _ <;> try (exfalso; omega)) | apply (zs65 ?_) | apply (zs68 ?_) | apply (zs69 ?_) | apply (zs70 ?_) | (apply zg27; refine zs72 ?_) | apply (zs74 ?_) | apply (zs75 ?_) | apply (zs80 ?_) | apply (zs81 ?_) | fail)
    apply Yc; exact rfl; exact rfl
    rw [List.take_of_length_le (by omega), List.take_of_length_le (by omega)] at hi
    exact ⟨by rw [decide_eq_true hi], rfl⟩
theorem Yf4 {c d : ClM} : c.clm = d.clm ↔ c.flow = d.flow ∧ c.rs.map (·.xs) = d.rs.map (·.xs) ∧ c.bs = d.bs ∧ c.ws = d.ws ∧ c.ss.map (·.xs) = d.ss.map (·.xs) := by
  unfold ClM.clm
  constructor
  · intro h
    injection h with h1 h2 h3 h4 h5
    exact ⟨h1, h2, h3, h4, h5⟩
  · rintro ⟨h1, h2, h3, h4, h5⟩
    rw [h1, h2, h3, h4, h5]
set_option maxRecDepth 10000 in
set_option maxHeartbeats 4000000 in
theorem YdJ (c d : ClM) {B : Nat} {w0 : World} {H : List HP} {w : World} (hc : c.In B w0 H) (hd : d.In B w0 H) (hw : St B w0 H w) :
    Calls Tryz.prog 74 [clV c, clV d].toArray w (Post B w0 fun u K => u = .bool (decide (c.clm = d.clm)) ∧ K = H) := by
  refine Yd Tryz.func74 Tryz.ntmps74 rfl rfl hw ?_
  have hcl := hc.ln
  have hdl := hd.ln
  have p1 := fun {H' : List HP} {w : World} (hc : c.In B w0 H') (hd : d.In B w0 H') (hw : St B w0 H' w) => Wh c.rs d.rs (cap := c.rcap) (cap2 := d.rcap) hcl.1 hdl.1 hc.rl hd.rl hc.rt hd.rt hc.rw_ hd.rw_ hw
  have p2 := fun {H' : List HP} {w : World} (hc : c.In B w0 H') (hd : d.In B w0 H') (hw : St B w0 H' w) => Vs c.bs d.bs (cap := c.bcap) (cap2 := d.bcap) (by omega) (by omega) hc.bd hd.bd hw
  have p3 := fun {H' : List HP} {w : World} (hc : c.In B w0 H') (hd : d.In B w0 H') (hw : St B w0 H' w) => Vs c.ws d.ws (cap := c.wcap) (cap2 := d.wcap) (by omega) (by omega) hc.ws hd.ws hw
  have p4 := fun {H' : List HP} {w : World} (hc : c.In B w0 H') (hd : d.In B w0 H') (hw : St B w0 H' w) => Oh c.ss d.ss (cap := c.scap) (cap2 := d.scap) hcl.2.2.2 hdl.2.2.2 hc.sl hd.sl hc.st hd.st hc.sw hd.sw hw
  have hce := @Yf4 c d
  unfold clV
  by_cases h1 : c.flow = d.flow
  rotate_left
  · rw [decide_eq_false (fun h => h1 (hce.1 h).1)]
    repeat' (first | apply (zs1 ?_) | apply (zs2 ?_) | (apply zg1; refine zs3 ?_) | (apply zg2; refine zs6 ?_) | (apply zg3; refine zs7 ?_) | (apply zg6; refine zs12 ?_) | (apply zg7; (refine zs15 ?_ ?_ <;> intro _ <;> try (exfalso; omega))) | (apply zg23; (refine zs52 ?_; intro _)) | apply (zs65 ?_) | apply (zs68 ?_) | apply (zs69 ?_) | apply (zs70 ?_) | apply (zs74 ?_) | fail)
    apply Yi H
    · exact zk
    apply Yc; exact rfl; exact rfl; exact ⟨rfl, rfl⟩
  by_cases h2 : c.rs.map (·.xs) = d.rs.map (·.xs)
  rotate_left
  · rw [decide_eq_false (fun h => h2 (hce.1 h).2.1)]
    rw [decide_eq_false h2] at p1
    repeat' (first | apply (zs1 ?_) | apply (zs2 ?_) | (apply zg1; refine zs4 ?_) | (apply zg2; refine zs6 ?_) | (apply zg3; refine zs7 ?_) | (apply zg7; (refine zs15 ?_ ?_ <;> intro _ <;> try (exfalso; omega))) | (apply zg23; (refine zs52 ?_; intro _)) | apply (zs65 ?_) | apply (zs68 ?_) | apply (zs69 ?_) | apply (zs70 ?_) | fail)
    first | apply Ya WM | apply Yb WM
    exact za
    exact rfl
    exact fun _ hw => (p1 (hc.mono zk) (hd.mono zk) hw)
    repeat' (first | apply (zs1 ?_) | apply (zs2 ?_) | (apply zg1; refine zs3 ?_) | (apply zg6; first | refine zs11 ?_ | refine zs12 ?_) | apply (zs65 ?_) | apply (zs68 ?_) | apply (zs74 ?_) | fail)
    apply Yi H
    · exact zk
    apply Yc; exact rfl; exact rfl; exact ⟨rfl, rfl⟩
  rw [decide_eq_true h2] at p1
  by_cases h3 : c.bs = d.bs
  rotate_left
  · rw [decide_eq_false (fun h => h3 (hce.1 h).2.2.1)]
    rw [decide_eq_false h3] at p2
    repeat' (first | apply (zs1 ?_) | apply (zs2 ?_) | (apply zg1; refine zs4 ?_) | (apply zg2; refine zs6 ?_) | (apply zg3; refine zs7 ?_) | (apply zg7; (refine zs15 ?_ ?_ <;> intro _ <;> try (exfalso; omega))) | (apply zg23; (refine zs52 ?_; intro _)) | apply (zs65 ?_) | apply (zs68 ?_) | apply (zs69 ?_) | apply (zs70 ?_) | fail)
    first | apply Ya WM | apply Yb WM
    exact za
    exact rfl
    exact fun _ hw => (p1 (hc.mono zk) (hd.mono zk) hw)
    repeat' (first | apply (zs1 ?_) | (apply zg1; refine zs4 ?_) | (apply zg2; refine zs6 ?_) | (apply zg3; refine zs7 ?_) | (apply zg6; refine zs11 ?_) | fail)
    first | apply Ya Ve | apply Yb Ve
    exact za
    exact rfl
    exact fun _ hw => (p2 (hc.mono zk) (hd.mono zk) hw)
    repeat' (first | apply (zs1 ?_) | apply (zs2 ?_) | (apply zg1; refine zs3 ?_) | (apply zg6; first | refine zs11 ?_ | refine zs12 ?_) | apply (zs65 ?_) | apply (zs68 ?_) | apply (zs74 ?_) | fail)
    apply Yi H
    · exact zk
    apply Yc; exact rfl; exact rfl; exact ⟨rfl, rfl⟩
  rw [decide_eq_true h3] at p2
  by_cases h4 : c.ws = d.ws
  rotate_left
  · rw [decide_eq_false (fun h => h4 (hce.1 h).2.2.2.1)]
    rw [decide_eq_false h4] at p3
    repeat' (first | apply (zs1 ?_) | apply (zs2 ?_) | (apply zg1; refine zs4 ?_) | (apply zg2; refine zs6 ?_) | (apply zg3; refine zs7 ?_) | (apply zg7; (refine zs15 ?_ ?_ <;> intro _ <;> try (exfalso; omega))) | (apply zg23; (refine zs52 ?_; intro _)) | apply (zs65 ?_) | apply (zs68 ?_) | apply (zs69 ?_) | apply (zs70 ?_) | fail)
    first | apply Ya WM | apply Yb WM
    exact za
    exact rfl
    exact fun _ hw => (p1 (hc.mono zk) (hd.mono zk) hw)
    repeat' (first | apply (zs1 ?_) | (apply zg1; refine zs4 ?_) | (apply zg2; refine zs6 ?_) | (apply zg3; refine zs7 ?_) | (apply zg6; refine zs11 ?_) | fail)
    first | apply Ya Ve | apply Yb Ve
    exact za
    exact rfl
    exact fun _ hw => (p2 (hc.mono zk) (hd.mono zk) hw)
    repeat' (first | apply (zs1 ?_) | (apply zg1; refine zs4 ?_) | (apply zg2; refine zs6 ?_) | (apply zg3; refine zs7 ?_) | (apply zg6; refine zs11 ?_) | fail)
    first | apply Ya Ve | apply Yb Ve
    exact za
    exact rfl
    exact fun _ hw => (p3 (hc.mono zk) (hd.mono zk) hw)
    repeat' (first | apply (zs1 ?_) | apply (zs2 ?_) | (apply zg1; refine zs3 ?_) | (apply zg6; first | refine zs11 ?_ | refine zs12 ?_) | apply (zs65 ?_) | apply (zs68 ?_) | apply (zs74 ?_) | fail)
    apply Yi H
    · exact zk
    apply Yc; exact rfl; exact rfl; exact ⟨rfl, rfl⟩
  rw [decide_eq_true h4] at p3
  have h5 : decide (c.clm = d.clm) = decide (c.ss.map (·.xs) = d.ss.map (·.xs)) := decide_eq_decide.2 ⟨fun h => (hce.1 h).2.2.2.2, fun h => hce.2 ⟨h1, h2, h3, h4, h⟩⟩
  rw [h5]
  repeat' (first | apply (zs1 ?_) | apply (zs2 ?_) | (apply zg1; refine zs4 ?_) | (apply zg2; refine zs6 ?_) | (apply zg3; refine zs7 ?_) | (apply zg7; (refine zs15 ?_ ?_ <;> intro _ <;> try (exfalso; omega))) | (apply zg23; (refine zs52 ?_; intro _)) | apply (zs65 ?_) | apply (zs68 ?_) | apply (zs69 ?_) | apply (zs70 ?_) | fail)
  first | apply Ya WM | apply Yb WM
  exact za
  exact rfl
  exact fun _ hw => (p1 (hc.mono zk) (hd.mono zk) hw)
  repeat' (first | apply (zs1 ?_) | (apply zg1; refine zs4 ?_) | (apply zg2; refine zs6 ?_) | (apply zg3; refine zs7 ?_) | (apply zg6; refine zs11 ?_) | fail)
  first | apply Ya Ve | apply Yb Ve
  exact za
  exact rfl
  exact fun _ hw => (p2 (hc.mono zk) (hd.mono zk) hw)
  repeat' (first | apply (zs1 ?_) | (apply zg1; refine zs4 ?_) | (apply zg2; refine zs6 ?_) | (apply zg3; refine zs7 ?_) | (apply zg6; refine zs11 ?_) | fail)
  first | apply Ya Ve | apply Yb Ve
  exact za
  exact rfl
  exact fun _ hw => (p3 (hc.mono zk) (hd.mono zk) hw)
  repeat' (first | apply (zs1 ?_) | (apply zg1; refine zs4 ?_) | (apply zg2; refine zs6 ?_) | (apply zg3; refine zs7 ?_) | (apply zg6; refine zs11 ?_) | fail)
  first | apply Ya YhK | apply Yb YhK
  exact za
  exact rfl
  exact fun _ hw => (p4 (hc.mono zk) (hd.mono zk) hw)
  repeat' (first | apply (zs2 ?_) | (apply zg6; refine zs11 ?_) | apply (zs65 ?_) | apply (zs68 ?_) | apply (zs74 ?_) | fail)
  apply Yi H
  · exact zk
  apply Yc; exact rfl; exact rfl; exact ⟨rfl, rfl⟩
open Go.RowKit Go.Eng Go.Nw Go.Rt
theorem XL {c : List ClM} {i : Nat} {x : ClM} (h : c[i]? = some x) : Zw (c.map ClM.clm) i = x.clm := by
  have h2 : (c.map ClM.clm)[i]? = some x.clm := by rw [List.getElem?_map, h]; rfl
  unfold Zw
  rw [List.getD_eq_getElem?_getD, h2]; rfl
theorem VE {C : List ClM} {c : ClM} {B : Nat} {w0 : World} {H : List HP} (hm : many (C.map clQ) ∈ H) (hc : c ∈ C) (hl : c.lens) : c.In B w0 H := by
  have hb : ∀ w, St B w0 H w → St B w0 (C.map clQ) w := fun w hw => hw.inM hm
  refine ClM.In.mono (H := C.map clQ) (Yih (List.mem_map_of_mem hc) ⟨⟨?_, ?_, ?_, ?_⟩, ?_, ?_⟩) hb
  · have := hl.1.1; omega
  · have := hl.1.2.1; omega
  · have := hl.1.2.2.1; omega
  · have := hl.1.2.2.2; omega
  · exact fun r hr => Nat.le_trans (hl.2.1 r hr) (by decide)
  · exact fun r hr => Nat.le_trans (hl.2.2 r hr) (by decide)
set_option maxRecDepth 10000 in
set_option maxHeartbeats 8000000 in
theorem Ybn (n : NetM) (q : List RqM) (s : SchM) (c : List ClM) {A A1 : Option Addr} {cap cap1 B : Nat} {w0 : World} {H : List HP} {w : World} (ht : TabsB B w0) (hin : n.In B w0 H) (hq : QIn B w0 H A q) (hrs : Rd B w0 H s.A (s.cells.flatMap celF)) (hsl : s.cells.length ≤ 1000000000000) (hc : CIn B w0 H A1 c) (hw : St B w0 H w) :
    Calls Tryz.prog 23 [n.val, .slice A q.length cap, s.val, .slice A1 c.length cap1].toArray w (Post B w0 fun v K => v = .tuple #[.int .i64 (chkE n.net (q.map RqM.rq) s.sch (c.map ClM.clm)).1, .int .i64 (chkE n.net (q.map RqM.rq) s.sch (c.map ClM.clm)).2] ∧ K = H) := by
  refine Yd Tryz.func23 Tryz.ntmps23 rfl rfl hw ?_
  have hcl := hc.ln
  have hcr := hc.rd
  have p1 := fun {H' : List HP} {w : World} (hin : n.In B w0 H') (hq : QIn B w0 H' A q) (hrs : Rd B w0 H' s.A (s.cells.flatMap celF)) (hw : St B w0 H' w) => YaP n q s (cap := cap) ht hin hq hrs hsl hw
  obtain ⟨⟨RC, ri, re⟩, hR⟩ : ∃ R, UD n.net (q.map RqM.rq) s.sch = R := ⟨_, rfl⟩
  unfold chkE
  rw [List.length_map]
  rw [hR] at p1 ⊢
  unfold OutC at p1
  dsimp only at p1 ⊢
  unfold NetM.val SchM.val
  by_cases h0 : re = 0
  rotate_left
  · rw [if_pos h0]
    repeat' (first | apply (zs1 ?_) | apply (zs2 ?_) | (apply zg3; refine zs8 ?_) | (apply zg23; (refine zs52 ?_; intro _)) | apply (zs65 ?_) | apply (zs68 ?_) | apply (zs69 ?_) | apply (zs70 ?_) | fail)
    apply Yo _ en19
    exact za
    exact rfl
    exact fun _ hw => (p1 (hin.mono zk) (hq.mono zk) (hrs.mono zk) (hw))
    rintro _ _ ⟨A2, cap2, C, rfl, hC, hCl, rfl⟩
    repeat' (first | apply (zs1 ?_) | apply (zs2 ?_) | apply (zs13 ?_) | (apply zg8; (refine zs16 ?_ ?_ <;> intro _ <;> try (exfalso; omega))) | apply (zs65 ?_) | apply (zs68 ?_) | apply (zs69 ?_) | apply (zs70 ?_) | (apply zg27; refine zs71 ?_) | apply (zs74 ?_) | apply (zs77 ?_) | fail)
    apply Yi H
    · exact zk
    apply Yp; exact rfl; exact rfl; exact rfl; exact ⟨rfl, rfl⟩
  subst h0
  rw [if_neg (fun e => e rfl)]
  repeat' (first | apply (zs1 ?_) | apply (zs2 ?_) | (apply zg3; refine zs8 ?_) | (apply zg23; (refine zs52 ?_; intro _)) | apply (zs65 ?_) | apply (zs68 ?_) | apply (zs69 ?_) | apply (zs70 ?_) | fail)
  apply Yo _ en19
  exact za
  exact rfl
  exact fun _ hw => (p1 (hin.mono zk) (hq.mono zk) (hrs.mono zk) (hw))
  rintro _ _ ⟨A2, cap2, C, rfl, hC, hCl, rfl⟩
  subst hC
  rw [List.length_map]
  by_cases h1 : c.length = C.length
  rotate_left
  · rw [if_pos h1]
    repeat' (first | apply (zs1 ?_) | apply (zs2 ?_) | (apply zg4; refine zs9 ?_) | apply (zs13 ?_) | (apply zg8; (refine zs16 ?_ ?_ <;> intro _ <;> try (exfalso; omega))) | apply (zs65 ?_) | apply (zs68 ?_) | apply (zs69 ?_) | apply (zs70 ?_) | (apply zg27; first | refine zs71 ?_ | refine zs72 ?_) | apply (zs74 ?_) | apply (zs76 ?_) | apply (zs77 ?_) | fail)
    apply Yi H
    · exact zk
    apply Yp; exact rfl; exact rfl; exact rfl; exact ⟨rfl, rfl⟩
  rw [if_neg (fun e => e h1)]
  obtain ⟨F, hF⟩ : ∃ F : Nat → Int, (fun i => if Zw (c.map ClM.clm) i = Zw (C.map ClM.clm) i then (0 : Int) else 20) = F := ⟨_, rfl⟩
  rw [hF]
  have hFv : ∀ {k : Nat} {x y : ClM}, c[k]? = some x → C[k]? = some y → F k = if x.clm = y.clm then 0 else 20 := fun hx hy => by rw [← hF]; show (if _ = _ then _ else _) = _; rw [XL hx, XL hy]
  repeat' (first | apply (zs1 ?_) | apply (zs2 ?_) | (apply zg4; refine zs9 ?_) | apply (zs13 ?_) | (apply zg8; (refine zs16 ?_ ?_ <;> intro _ <;> try (exfalso; omega))) | apply (zs65 ?_) | apply (zs68 ?_) | apply (zs69 ?_) | apply (zs70 ?_) | (apply zg27; refine zs72 ?_) | apply (zs73 ?_) | apply (zs76 ?_) | fail)
  refine Yk (fun k : Nat => [(33, .int .i64 (k : Nat)), (32, .int .i64 C.length), (10, .slice A2 C.length cap2), (3, .slice A1 c.length cap1)]) (fun _ => clsP A2 cap2 C :: many (C.map clQ) :: H) (fun k => k ≤ C.length ∧ ∀ j, 0 ≤ j → j < k → F j = 0) (fun k => C.length - k) 0 ⟨Nat.zero_le _, fun j _ h => absurd h (Nat.not_lt_zero _)⟩ ?_ ?_ ?_
  · exact zu
  · exact zk
  rintro k ⟨hk, hz⟩ K hK
  have hcr' : Rd B w0 (clsP A2 cap2 C :: many (C.map clQ) :: H) A1 (c.flatMap clF) := hcr.cons.cons
  have hCr' : Rd B w0 (clsP A2 cap2 C :: many (C.map clQ) :: H) A2 (C.flatMap clF) := .sl (.head _)
  by_cases hlt : k < C.length
  · obtain ⟨x, hx⟩ : ∃ x, c[k]? = some x := ⟨_, List.getElem?_eq_getElem (by omega)⟩
    obtain ⟨y, hy⟩ : ∃ y, C[k]? = some y := ⟨_, List.getElem?_eq_getElem hlt⟩
    have hym := List.mem_of_getElem? hy
    have hFk := hFv hx hy
    have hxi := hc.x x (List.mem_of_getElem? hx)
    have p2 := fun {H' : List HP} {w : World} (hx : x.In B w0 H') (hy : y.In B w0 H') (hw : St B w0 H' w) => YdJ x y hx hy hw
    by_cases he : x.clm = y.clm
    · rw [if_pos he] at hFk
      rw [decide_eq_true he] at p2
      repeat' (first | apply (zs1 ?_) | apply (zs2 ?_) | (apply (zs17 ?_ ?_) <;> intro _ <;> try (exfalso; omega)) | apply (zs65 ?_) | apply (zs68 ?_) | apply (zs69 ?_) | apply (zs70 ?_) | (apply zg27; refine zs71 ?_) | apply (zs73 ?_) | apply (zs76 ?_) | fail)
      apply YB [0, 1, 2, 3, 4, 5, 6, 7, 8, 9] []
      kernel_rfl
      kernel_rfl
      (simp only [Yj, nthO]; rfl)
      exact rfl
      repeat' (first | apply (zs1 ?_) | (apply zg3; refine zs61 ?_) | (apply zg5; first | refine zs10 ?_ | refine zs57 ?_) | apply (zs87 ?_) | fail)
      first | apply Ya en74 | apply Yb en74
      exact za
      exact rfl
      exact fun _ hw => (p2 (hxi.mono zk) (VE zm hym (hCl y hym)) hw)
      repeat' (first | apply (zs1 ?_) | (apply zg13; refine zs30 ?_) | (apply zg20; refine zs47 ?_) | apply (zs65 ?_) | (apply Yn; exact zp) | apply (zs68 ?_) | apply (zs70 ?_) | (apply zg27; refine zs72 ?_) | apply (zs76 ?_) | apply (zs79 ?_) | (apply Yl; (repeat (first | with_reducible exact Yh | (with_reducible apply Yg; (repeat (first | with_reducible exact Yf | with_reducible apply Ye)))))) | apply (zs93 ?_) | apply (zs94 ?_) | fail)
      · show Perm H (H ++ [])
        rw [List.append_nil]; exact Perm.refl _
      repeat' (first | fail)
      apply hK (k + 1)
      · exact ⟨by omega, fun j h1 h2 => by
          rcases Nat.lt_succ_iff_lt_or_eq.1 h2 with h | rfl
          · exact hz j h1 h
          · exact hFk⟩
      · omega
      · exact zu
      · exact zk
    · rw [if_neg he] at hFk
      rw [decide_eq_false he] at p2
      have hfe := Xb (f := F) (r := c.length) (i0 := 0) (i := k) (fun j h1 h2 => hz j h1 h2) (Nat.zero_le _) (by omega) (by rw [hFk]; decide)
      rw [hfe, hFk]
      clear hK
      repeat' (first | apply (zs1 ?_) | apply (zs2 ?_) | (apply (zs17 ?_ ?_) <;> intro _ <;> try (exfalso; omega)) | apply (zs65 ?_) | apply (zs68 ?_) | apply (zs69 ?_) | apply (zs70 ?_) | (apply zg27; refine zs71 ?_) | apply (zs73 ?_) | apply (zs76 ?_) | fail)
      apply YB [0, 1, 2, 3, 4, 5, 6, 7, 8, 9] []
      kernel_rfl
      kernel_rfl
      (simp only [Yj, nthO]; rfl)
      exact rfl
      repeat' (first | apply (zs1 ?_) | (apply zg3; refine zs61 ?_) | (apply zg5; first | refine zs10 ?_ | refine zs57 ?_) | apply (zs87 ?_) | fail)
      first | apply Ya en74 | apply Yb en74
      exact za
      exact rfl
      exact fun _ hw => (p2 (hxi.mono zk) (VE zm hym (hCl y hym)) hw)
      repeat' (first | apply (zs1 ?_) | apply (zs2 ?_) | (apply zg20; refine zs48 ?_) | apply (zs65 ?_) | (apply Yn; exact zp) | apply (zs68 ?_) | apply (zs69 ?_) | apply (zs70 ?_) | (apply zg27; refine zs71 ?_) | apply (zs74 ?_) | apply (zs77 ?_) | apply (zs78 ?_) | (apply Yl; (repeat (first | with_reducible exact Yh | (with_reducible apply Yg; (repeat (first | with_reducible exact Yf | with_reducible apply Ye)))))) | apply (zs93 ?_) | apply (zs94 ?_) | fail)
      · show Perm H (H ++ [])
        rw [List.append_nil]; exact Perm.refl _
      repeat' (first | fail)
      apply Yi H
      · exact zk
      apply Yp; exact rfl; exact rfl; exact rfl; exact ⟨rfl, rfl⟩
  · obtain rfl : k = C.length := by omega
    have hfe := Xx (f := F) (r := c.length) (i0 := 0) fun j h1 h2 => hz j h1 (by omega)
    rw [hfe]
    clear hK
    repeat' (first | apply (zs2 ?_) | (apply (zs17 ?_ ?_) <;> intro _ <;> try (exfalso; omega)) | apply (zs65 ?_) | apply (zs68 ?_) | apply (zs69 ?_) | apply (zs70 ?_) | (apply zg27; refine zs72 ?_) | apply (zs74 ?_) | apply (zs75 ?_) | apply (zs80 ?_) | apply (zs81 ?_) | fail)
    apply Yi H
    · exact zk
    apply Yp; exact rfl; exact rfl; exact rfl; exact ⟨rfl, rfl⟩
open Go.RowKit Go.Eng Go.Nw Go.Rt
def wordF : List UInt8 := [102, 108, 111, 119]
def wordR : List UInt8 := [114, 111, 117, 116, 101]
def wordB : List UInt8 := [98, 111, 117, 110, 100]
def wordL : List UInt8 := [115, 108, 111, 116, 115]
def YU (k : Nat) : List UInt8 := if k = 0 then wordF else if k = 1 then wordR else if k = 2 then wordB else wordL
def Xi (k : Nat) : Nat := if k = 1 ∨ k = 2 then 2 else 1
def X4 (k : Nat) : Nat := if k = 0 then 1 else if k = 1 then 9 else if k = 2 then 2 else 64
def YX (k : Nat) : Nat := if k = 0 then 3 else k - 1
def inL (l : List Int) (a b : Int) : Bool := l.all fun x => decide (a ≤ x ∧ x ≤ b)
def rtOk (r l : List Int) : Bool := decide (2 ≤ r.length ∧ r.length ≤ 9) && inL r 0 31 && decide (1 ≤ l.length ∧ l.length ≤ 64) && inL l 0 511
def XB (c : Clm) : Bool := decide (0 ≤ c.flow ∧ c.flow ≤ 255 ∧ 1 ≤ c.routes.length ∧ c.routes.length ≤ 2 ∧ c.bounds.length = c.routes.length ∧ c.worst.length = c.routes.length ∧ c.slots.length = c.routes.length) &&
  inL c.bounds 1 512 && inL c.worst 0 511 && (List.range c.routes.length).all fun i => rtOk (rtAt c.routes i) (rtAt c.slots i)
def Yaq (c : List Clm) (i : Nat) : Bool := XB (Zw c i) && (decide (i = 0) || decide ((Zw c (i - 1)).flow < (Zw c i).flow))
def Zg (c : List Clm) : Bool := decide (c.length ≤ 16) && (List.range c.length).all (Yaq c)
def YcY (c : Clm) (i : Nat) : List (List UInt8) :=
  Yw wordR (rtAt c.routes i) :: ((if i < c.bounds.length then [Yw wordB [c.bounds.getD i 0, c.worst.getD i 0]] else []) ++ (if i < c.slots.length then [Yw wordL (rtAt c.slots i)] else []))
def Zh (c : Clm) : List (List UInt8) := Yw wordF [c.flow] :: (List.range c.routes.length).flatMap (YcY c)
def W7 (c : List Clm) : List UInt8 := (c.flatMap Zh).flatMap fun p => p ++ [10]
def XE (c : List Clm) : List UInt8 × Int := if Zg c = false then ([], 1) else (W7 c, 0)
structure Pst where
  c : List Clm
  last : Nat
def Zx (c : List Clm) : Clm := Zw c (c.length - 1)
def Zf (p : Pst) (k : Nat) : Bool := decide (p.last = YX k) || (decide (k = 1) && decide (p.last = 3) && decide (0 < p.c.length) && decide ((Zx p.c).routes.length < 2))
def YH (k : Nat) (l : List Int) (x : Clm) : Clm :=
  if k = 1 then ⟨x.flow, x.routes ++ [l], x.bounds, x.worst, x.slots⟩ else if k = 2 then ⟨x.flow, x.routes, x.bounds ++ [l.getD 0 0], x.worst ++ [l.getD 1 0], x.slots⟩ else ⟨x.flow, x.routes, x.bounds, x.worst, x.slots ++ [l]⟩
def OA (c : List Clm) (x : Clm) : List Clm := c.take (c.length - 1) ++ [x]
def Zb (k : Nat) (l : List Int) (c : List Clm) : List Clm := if k = 0 then c ++ [⟨l.getD 0 0, [], [], [], []⟩] else OA c (YH k l (Zx c))
def Vx (p : Pst) (line : List UInt8) (k : Nat) : Option Pst :=
  match XO (cutC 32 line).tail with
  | none => none
  | some l => if Xi k ≤ l.length ∧ l.length ≤ X4 k ∧ Zf p k = true then some ⟨Zb k l p.c, k⟩ else none
def Ja (w : List UInt8) : Option Nat := if w = wordF then some 0 else if w = wordR then some 1 else if w = wordB then some 2 else if w = wordL then some 3 else none
def Xm (p : Pst) (line : List UInt8) : Option Pst :=
  match Ja ((cutC 32 line).headD []) with
  | none => none
  | some k => Vx p line k
def runL : List (List UInt8) → Pst → Option Pst
  | [], p => some p
  | l :: ls, p => match Xm p l with | none => none | some p' => runL ls p'
def startP : Pst := ⟨[], 3⟩
def Xt (ls : List (List UInt8)) (k : Nat) : Option Pst := runL (ls.take k) startP
def badL (ls : List (List UInt8)) (i : Nat) : Int := if (Xt ls (i + 1)).isNone = true then 3 else 0
def Jd (ls : List (List UInt8)) (k : Nat) : Pst := (Xt ls k).getD startP
def Zu (ls : List (List UInt8)) : List Clm × (Int × Int) :=
  if (Yx (badL ls) (ls.length - 1) 0).2 ≠ 0 then ([], Yx (badL ls) (ls.length - 1) 0)
  else if YJ ls (ls.length - 1) ≠ [] ∨ (Jd ls (ls.length - 1)).last ≠ 3 then ([], (((ls.length - 1 : Nat) : Int), 3))
  else if Zg (Jd ls (ls.length - 1)).c = false then ([], (-1, 1)) else ((Jd ls (ls.length - 1)).c, (-1, 0))
def ZF (text : List UInt8) : List Clm × (Int × Int) := Zu (cutC 10 text)
theorem Jf : ∀ (l m : List (List UInt8)) (p : Pst), runL (l ++ m) p = (runL l p).bind (runL m)
  | [], m, p => rfl
  | x :: l, m, p => by
    rw [List.cons_append]
    unfold runL
    cases Xm p x with
    | none => rfl
    | some p' => exact Jf l m p'
theorem YcU {ls : List (List UInt8)} {k : Nat} {p : Pst} (hk : k < ls.length) (h : Xt ls k = some p) : Xt ls (k + 1) = Xm p (YJ ls k) := by
  unfold Xt at h ⊢
  rw [YcE hk, Jf, h]
  show runL [YJ ls k] p = _
  unfold runL
  cases Xm p (YJ ls k) <;> rfl
theorem Jl {k : Nat} (hk : k < 4) : Ja (YU k) = some k ∧ (32 : UInt8) ∉ YU k ∧ (10 : UInt8) ∉ YU k := by
  match k, hk with
  | 0, _ => decide
  | 1, _ => decide
  | 2, _ => decide
  | 3, _ => decide
theorem V2 {p : Pst} {k : Nat} {l : List Int} (hk : k < 4) (hl : ∀ n ∈ l, 0 ≤ n ∧ n < 10000) (h1 : Xi k ≤ l.length ∧ l.length ≤ X4 k) (hf : Zf p k = true) : Xm p (Yw (YU k) l) = some ⟨Zb k l p.c, k⟩ := by
  obtain ⟨w1, w2, _⟩ := Jl hk
  have hr := Ye8 w2 hl
  unfold Je at hr
  split at hr
  · cases hr
  rename_i h
  have hh : (cutC 32 (Yw (YU k) l)).headD [] = YU k := Decidable.byContradiction fun e => h (.inr e)
  unfold Xm
  rw [hh, w1]
  show Vx p _ k = _
  unfold Vx
  rw [hr]
  show (if _ then _ else _) = _
  rw [if_pos ⟨h1.1, h1.2, hf⟩]
structure Vc (c : Clm) : Prop where
  f : 0 ≤ c.flow ∧ c.flow ≤ 255
  n : 1 ≤ c.routes.length ∧ c.routes.length ≤ 2
  b : c.bounds.length = c.routes.length
  w : c.worst.length = c.routes.length
  s : c.slots.length = c.routes.length
  bs : ∀ x ∈ c.bounds, 1 ≤ x ∧ x ≤ 512
  ws : ∀ x ∈ c.worst, 0 ≤ x ∧ x ≤ 511
  rs : ∀ i, i < c.routes.length → 2 ≤ (rtAt c.routes i).length ∧ (rtAt c.routes i).length ≤ 9 ∧ ∀ x ∈ rtAt c.routes i, 0 ≤ x ∧ x ≤ 31
  ls : ∀ i, i < c.routes.length → 1 ≤ (rtAt c.slots i).length ∧ (rtAt c.slots i).length ≤ 64 ∧ ∀ x ∈ rtAt c.slots i, 0 ≤ x ∧ x ≤ 511
theorem Ov {l : List Int} {a b : Int} : inL l a b = true ↔ ∀ x ∈ l, a ≤ x ∧ x ≤ b := by
  unfold inL; rw [List.all_eq_true]; simp
theorem Ydx {c : Clm} : XB c = true ↔ Vc c := by
  unfold XB
  simp only [Bool.and_eq_true, decide_eq_true_eq, Ov, List.all_eq_true, List.mem_range]
  constructor
  · rintro ⟨⟨⟨⟨h1, h2, h3, h4, h5, h6, h7⟩, h8⟩, h9⟩, h10⟩
    have hr : ∀ i, i < c.routes.length → _ := fun i hi => h10 i hi
    refine ⟨⟨h1, h2⟩, ⟨h3, h4⟩, h5, h6, h7, h8, h9, fun i hi => ?_, fun i hi => ?_⟩
    · have := hr i hi
      unfold rtOk at this
      simp only [Bool.and_eq_true, decide_eq_true_eq, Ov] at this
      exact ⟨this.1.1.1.1, this.1.1.1.2, this.1.1.2⟩
    · have := hr i hi
      unfold rtOk at this
      simp only [Bool.and_eq_true, decide_eq_true_eq, Ov] at this
      exact ⟨this.1.2.1, this.1.2.2, this.2⟩
  · intro h
    refine ⟨⟨⟨⟨h.f.1, h.f.2, h.n.1, h.n.2, h.b, h.w, h.s⟩, h.bs⟩, h.ws⟩, fun i hi => ?_⟩
    have h1 := h.rs i hi
    have h2 := h.ls i hi
    unfold rtOk
    simp only [Bool.and_eq_true, decide_eq_true_eq, Ov]
    exact ⟨⟨⟨⟨h1.1, h1.2.1⟩, h1.2.2⟩, h2.1, h2.2.1⟩, h2.2.2⟩
theorem YL (c : List Clm) (x : Clm) : Zx (c ++ [x]) = x ∧ ∀ y, OA (c ++ [x]) y = c ++ [y] := by
  unfold Zx OA Zw
  rw [List.length_append, List.length_singleton, Nat.add_sub_cancel]
  exact ⟨by rw [List.getD_eq_getElem?_getD, List.getElem?_append_right (Nat.le_refl _)]; simp, fun y => by rw [List.take_left' rfl]⟩
theorem QE {cs : List Clm} {x : Clm} {last : Nat} {r sl : List Int} {b w : Int} (hlast : last = 0 ∨ (last = 3 ∧ x.routes.length < 2)) (hr : 2 ≤ r.length ∧ r.length ≤ 9 ∧ ∀ z ∈ r, 0 ≤ z ∧ z ≤ 31) (hs : 1 ≤ sl.length ∧ sl.length ≤ 64 ∧ ∀ z ∈ sl, 0 ≤ z ∧ z ≤ 511)
    (hb : 1 ≤ b ∧ b ≤ 512) (hw : 0 ≤ w ∧ w ≤ 511) : runL [Yw wordR r, Yw wordB [b, w], Yw wordL sl] ⟨cs ++ [x], last⟩ = some ⟨cs ++ [⟨x.flow, x.routes ++ [r], x.bounds ++ [b], x.worst ++ [w], x.slots ++ [sl]⟩], 3⟩ := by
  have h1 : Xm ⟨cs ++ [x], last⟩ (Yw wordR r) = some ⟨cs ++ [YH 1 r x], 1⟩ := by
    have := V2 (p := ⟨cs ++ [x], last⟩) (k := 1) (l := r) (by omega) (fun n hn => by have := hr.2.2 n hn; omega) ⟨by show 2 ≤ _; exact hr.1, by show _ ≤ 9; exact hr.2.1⟩ (by
      unfold Zf YX
      simp only [(YL cs x).1]
      rcases hlast with rfl | ⟨rfl, h⟩
      · rfl
      · simp [h])
    rw [show YU 1 = wordR from rfl] at this
    rw [this]
    unfold Zb
    rw [if_neg (by decide), (YL cs x).1, (YL cs x).2]
  have h2 : ∀ y, Xm ⟨cs ++ [y], 1⟩ (Yw wordB [b, w]) = some ⟨cs ++ [YH 2 [b, w] y], 2⟩ := fun y => by
    have := V2 (p := ⟨cs ++ [y], 1⟩) (k := 2) (l := [b, w]) (by omega) (fun n hn => by
      simp only [List.mem_cons, List.not_mem_nil, or_false] at hn
      rcases hn with rfl | rfl <;> omega) ⟨Nat.le_refl 2, Nat.le_refl 2⟩ rfl
    rw [show YU 2 = wordB from rfl] at this
    rw [this]
    unfold Zb
    rw [if_neg (by decide), (YL cs y).1, (YL cs y).2]
  have h3 : ∀ y, Xm ⟨cs ++ [y], 2⟩ (Yw wordL sl) = some ⟨cs ++ [YH 3 sl y], 3⟩ := fun y => by
    have := V2 (p := ⟨cs ++ [y], 2⟩) (k := 3) (l := sl) (by omega) (fun n hn => by have := hs.2.2 n hn; omega) ⟨by show 1 ≤ _; exact hs.1, by show _ ≤ 64; exact hs.2.1⟩ rfl
    rw [show YU 3 = wordL from rfl] at this
    rw [this]
    unfold Zb
    rw [if_neg (by decide), (YL cs y).1, (YL cs y).2]
  unfold runL; rw [h1]; dsimp only
  unfold runL; rw [h2]; dsimp only
  unfold runL; rw [h3]; dsimp only
  unfold runL
  rfl
theorem Yff {c : Clm} (h : Vc c) (cs : List Clm) : runL (Zh c) ⟨cs, 3⟩ = some ⟨cs ++ [c], 3⟩ := by
  obtain ⟨fl, rs, bs, ws, ls⟩ := c
  have hf := h.f; have hn := h.n; have hb := h.b; have hw := h.w; have hs := h.s; have hbs := h.bs; have hws := h.ws; have hrs := h.rs; have hls := h.ls
  dsimp only at hf hn hb hw hs hbs hws hrs hls
  have h0 : Xm ⟨cs, 3⟩ (Yw wordF [fl]) = some ⟨cs ++ [⟨fl, [], [], [], []⟩], 0⟩ := by
    have := V2 (p := ⟨cs, 3⟩) (k := 0) (l := [fl]) (by omega) (fun n hn => by obtain rfl := List.mem_singleton.1 hn; omega) ⟨Nat.le_refl 1, Nat.le_refl 1⟩ rfl
    rw [show YU 0 = wordF from rfl] at this
    rw [this]; rfl
  unfold Zh
  unfold runL
  rw [h0]
  dsimp only
  match rs, bs, ws, ls, hn, hb, hw, hs, hbs, hws, hrs, hls with
  | [r], [b], [w], [sl], _, _, _, _, hbs, hws, hrs, hls =>
    exact QE (x := ⟨fl, [], [], [], []⟩) (.inl rfl) (hrs 0 (by simp)) (hls 0 (by simp)) (hbs b (by simp)) (hws w (by simp))
  | [r, r2], [b, b2], [w, w2], [sl, sl2], _, _, _, _, hbs, hws, hrs, hls =>
    show runL ([Yw wordR r, Yw wordB [b, w], Yw wordL sl] ++ [Yw wordR r2, Yw wordB [b2, w2], Yw wordL sl2]) _ = _
    have h1 := QE (cs := cs) (x := ⟨fl, [], [], [], []⟩) (r := r) (sl := sl) (.inl rfl) (hrs 0 (by simp)) (hls 0 (by simp)) (hbs b (by simp)) (hws w (by simp))
    rw [Jf, h1]
    exact QE (x := ⟨fl, [r], [b], [w], [sl]⟩) (.inr ⟨rfl, by simp⟩) (hrs 1 (by simp)) (hls 1 (by simp)) (hbs b2 (by simp)) (hws w2 (by simp))
theorem QD : ∀ (l cs : List Clm), (∀ c ∈ l, Vc c) → runL (l.flatMap Zh) ⟨cs, 3⟩ = some ⟨cs ++ l, 3⟩
  | [], cs, _ => by simp [runL]
  | c :: l, cs, h => by
    rw [List.flatMap_cons, Jf, Yff (h c (by simp)) cs]
    show runL _ _ = _
    rw [QD l _ fun x hx => h x (by simp [hx])]
    simp
theorem Ydn {c : List Clm} {i : Nat} (h : i < c.length) : c[i]? = some (Zw c i) := by
  unfold Zw; rw [List.getD_eq_getElem?_getD, List.getElem?_eq_getElem h]; rfl
theorem Qf {c : List Clm} (h : Zg c = true) : c.length ≤ 16 ∧ ∀ x ∈ c, Vc x := by
  unfold Zg at h
  rw [Bool.and_eq_true, decide_eq_true_eq] at h
  refine ⟨h.1, fun x hx => ?_⟩
  obtain ⟨i, hi⟩ := List.mem_iff_getElem?.1 hx
  have hl := (List.getElem?_eq_some_iff.1 hi).1
  have := List.all_eq_true.1 h.2 i (List.mem_range.2 hl)
  unfold Yaq at this
  rw [Bool.and_eq_true] at this
  have e : Zw c i = x := Option.some.inj ((Ydn hl).symm.trans hi)
  rw [e] at this
  exact Ydx.1 this.1
theorem V0 {l : List Int} {i : Nat} (h : i < l.length) : l.getD i 0 ∈ l := by
  rw [List.getD_eq_getElem?_getD, List.getElem?_eq_getElem h]; exact List.getElem_mem h
theorem Yfb {c : Clm} (h : Vc c) : ∀ p ∈ Zh c, (10 : UInt8) ∉ p := by
  intro p hp
  unfold Zh at hp
  rcases List.mem_cons.1 hp with rfl | hp
  · exact VX (by decide) fun n hn => by obtain rfl := List.mem_singleton.1 hn; exact h.f.1
  · obtain ⟨i, hi, hp⟩ := List.mem_flatMap.1 hp
    have hi := List.mem_range.1 hi
    unfold YcY at hp
    rcases List.mem_cons.1 hp with rfl | hp
    · exact VX (by decide) fun n hn => ((h.rs i hi).2.2 n hn).1
    rcases List.mem_append.1 hp with hp | hp
    · rw [if_pos (by rw [h.b]; exact hi)] at hp
      obtain rfl := List.mem_singleton.1 hp
      refine VX (by decide) fun n hn => ?_
      simp only [List.mem_cons, List.not_mem_nil, or_false] at hn
      rcases hn with rfl | rfl
      · have := h.bs _ (V0 (l := c.bounds) (i := i) (by rw [h.b]; exact hi)); omega
      · exact (h.ws _ (V0 (l := c.worst) (i := i) (by rw [h.w]; exact hi))).1
    · rw [if_pos (by rw [h.s]; exact hi)] at hp
      obtain rfl := List.mem_singleton.1 hp
      exact VX (by decide) fun n hn => ((h.ls i hi).2.2 n hn).1
theorem YeG {c : List Clm} (h : ∀ x ∈ c, Vc x) : cutC 10 (W7 c) = c.flatMap Zh ++ [[]] := by
  unfold W7
  rw [← Qo]
  refine Vq (by simp) fun p hp => ?_
  rcases List.mem_append.1 hp with hp | hp
  · obtain ⟨x, hx, hp⟩ := List.mem_flatMap.1 hp
    exact Yfb (h x hx) p hp
  · obtain rfl := List.mem_singleton.1 hp
    exact List.not_mem_nil
theorem YbB {c : List Clm} (h : Zg c = true) : ZF (W7 c) = (c, (-1, 0)) := by
  obtain ⟨h1, h2⟩ := Qf h
  obtain ⟨ls, hls⟩ : ∃ ls, c.flatMap Zh = ls := ⟨_, rfl⟩
  have hrun : runL ls startP = some ⟨c, 3⟩ := by rw [← hls]; exact QD c [] h2
  have hl : (ls ++ [[]]).length - 1 = ls.length := by simp
  have hat : Xt (ls ++ [[]]) ls.length = some ⟨c, 3⟩ := by unfold Xt; rw [List.take_left' rfl]; exact hrun
  have hbad : (Yx (badL (ls ++ [[]])) ls.length 0).2 = 0 := XM.2 fun k _ hk => by
    unfold badL Xt
    have h4 : runL (ls.take (k + 1)) startP ≠ none := fun e => by
      have : runL (ls.take (k + 1) ++ ls.drop (k + 1)) startP = some ⟨c, 3⟩ := by rw [List.take_append_drop]; exact hrun
      rw [Jf, e] at this
      cases this
    rw [List.take_append_of_le_length (by omega)]
    cases hr : runL (ls.take (k + 1)) startP with
    | none => exact absurd hr h4
    | some p => rfl
  have hlast : YJ (ls ++ [[]]) ls.length = [] := by
    unfold YJ
    rw [List.getD_eq_getElem?_getD, List.getElem?_append_right (Nat.le_refl _)]
    simp
  unfold ZF Zu
  rw [YeG h2, hls, hl, if_neg (fun e => e hbad), hlast]
  unfold Jd
  rw [hat, if_neg (by rintro (e | e) <;> exact e rfl), Option.getD_some, if_neg (by rw [h]; decide)]
structure Rdr (p : Pst) : Prop where
  full : ∀ i x, p.c[i]? = some x → i + 1 < p.c.length → x.bounds.length = x.routes.length ∧ x.worst.length = x.routes.length ∧ x.slots.length = x.routes.length ∧ 1 ≤ x.routes.length ∧ x.routes.length ≤ 2
  some_ : p.c = [] → p.last = 3
  at_ : ∀ cs x, p.c = cs ++ [x] →
    (p.last = 0 ∧ x.routes = [] ∧ x.bounds = [] ∧ x.worst = [] ∧ x.slots = []) ∨
    (p.last = 1 ∧ 1 ≤ x.routes.length ∧ x.routes.length ≤ 2 ∧ x.bounds.length + 1 = x.routes.length ∧ x.worst.length + 1 = x.routes.length ∧ x.slots.length + 1 = x.routes.length) ∨
    (p.last = 2 ∧ 1 ≤ x.routes.length ∧ x.routes.length ≤ 2 ∧ x.bounds.length = x.routes.length ∧ x.worst.length = x.routes.length ∧ x.slots.length + 1 = x.routes.length) ∨
    (p.last = 3 ∧ 1 ≤ x.routes.length ∧ x.routes.length ≤ 2 ∧ x.bounds.length = x.routes.length ∧ x.worst.length = x.routes.length ∧ x.slots.length = x.routes.length)
theorem YeV {w : List UInt8} {k : Nat} (h : Ja w = some k) : k < 4 ∧ w = YU k := by
  unfold Ja at h
  split at h
  · rename_i e; cases h; exact ⟨by omega, e⟩
  split at h
  · rename_i e; cases h; exact ⟨by omega, e⟩
  split at h
  · rename_i e; cases h; exact ⟨by omega, e⟩
  split at h
  · rename_i e; cases h; exact ⟨by omega, e⟩
  cases h
theorem YaN {p p' : Pst} {line : List UInt8} (h : Xm p line = some p') : ∃ k l, k < 4 ∧ line = Yw (YU k) l ∧ Xi k ≤ l.length ∧ l.length ≤ X4 k ∧ Zf p k = true ∧ p' = ⟨Zb k l p.c, k⟩ := by
  unfold Xm at h
  split at h
  · cases h
  rename_i k hk
  obtain ⟨hk4, hw⟩ := YeV hk
  unfold Vx at h
  split at h
  · cases h
  rename_i l hl
  split at h
  · rename_i hc
    refine ⟨k, l, hk4, ?_, hc.1, hc.2.1, hc.2.2, (Option.some.inj h).symm⟩
    have hll : l.length = (cutC 32 line).length - 1 := by
      unfold XO at hl
      split at hl
      · cases hl
      · have := Option.some.inj hl
        rw [← this, List.length_map, List.length_tail]
    have hne := JC 32 line
    have hpos : 1 ≤ (cutC 32 line).length := by
      cases hx : cutC 32 line with
      | nil => exact absurd hx hne
      | cons _ _ => simp
    have hr : Je line (YU k) l.length = some l := by
      unfold Je
      rw [if_neg (by rintro (e | e) <;> first | exact absurd hw e | omega)]
      exact hl
    exact (Ye9 hr).1
  · cases h
theorem Jy {α : Type} {l : List α} (h : l ≠ []) : ∃ cs x, l = cs ++ [x] := ⟨l.dropLast, l.getLast h, (List.dropLast_concat_getLast h).symm⟩
theorem Rdr.start : Rdr startP := ⟨fun i x h => by simp [startP] at h, fun _ => rfl, fun cs x h => by simp [startP] at h⟩
theorem YeN {cs : List Clm} {x y : Clm} {P : Clm → Prop} (h : ∀ i z, (cs ++ [x])[i]? = some z → i + 1 < (cs ++ [x]).length → P z) : ∀ i z, (cs ++ [y])[i]? = some z → i + 1 < (cs ++ [y]).length → P z := fun i z hz hi => by
  rw [List.length_append, List.length_singleton] at hi
  rw [List.getElem?_append_left (by omega)] at hz
  exact h i z (by rw [List.getElem?_append_left (by omega)]; exact hz) (by rw [List.length_append, List.length_singleton]; omega)
theorem le12 : 1 ≤ 2 := by decide
theorem Ygy {p p' : Pst} {line : List UInt8} (h : Rdr p) (hl : Xm p line = some p') : Rdr p' ∧ p'.c.flatMap Zh = p.c.flatMap Zh ++ [line] := by
  obtain ⟨k, l, hk, rfl, hl1, hl2, hf, rfl⟩ := YaN hl
  obtain ⟨c, last⟩ := p
  have hfull := h.full; have hsome := h.some_; have hat := h.at_
  dsimp only at hfull hsome hat hf ⊢
  have hone : ∀ {cs cs' : List Clm} {x x' : Clm}, cs ++ [x] = cs' ++ [x'] → x = x' := fun e => by
    have := (List.append_inj' e rfl).2; simpa using this
  match k, hk with
  | 0, _ =>
    have hl3 : last = 3 := by
      unfold Zf at hf
      simpa [YX] using hf
    subst hl3
    match l, hl1, hl2 with
    | [f], _, _ =>
      have e : Zb 0 [f] c = c ++ [⟨f, [], [], [], []⟩] := rfl
      rw [e]
      refine ⟨⟨fun i x hx hi => ?_, fun e => by simp at e, fun cs x he => ?_⟩, by rw [List.flatMap_append]; simp [Zh, YU]⟩
      · dsimp only at hx hi
        rw [List.length_append, List.length_singleton] at hi
        rw [List.getElem?_append_left (by omega)] at hx
        by_cases hi2 : i + 1 < c.length
        · exact hfull i x hx hi2
        · obtain ⟨cs, y, hc⟩ := Jy (l := c) (fun e => by rw [e] at hi; simp at hi)
          have hcl : c.length = cs.length + 1 := by rw [hc]; simp
          rw [hc, List.getElem?_append_right (by omega), show i - cs.length = 0 by omega] at hx
          obtain rfl := Option.some.inj hx
          rcases hat cs y hc with h | h | h | h
          · omega
          · omega
          · omega
          · exact ⟨h.2.2.2.1, h.2.2.2.2.1, h.2.2.2.2.2, h.2.1, h.2.2.1⟩
      · dsimp only at he
        obtain rfl := hone he
        exact .inl ⟨rfl, rfl, rfl, rfl, rfl⟩
  | k + 1, hk =>
    have hne : c ≠ [] := fun e => by
      have h3 := hsome e
      subst h3; subst e
      unfold Zf YX at hf
      simp at hf
      omega
    obtain ⟨cs, x, rfl⟩ := Jy hne
    have e : Zb (k + 1) l (cs ++ [x]) = cs ++ [YH (k + 1) l x] := by
      unfold Zb
      rw [if_neg (by omega), (YL cs x).1, (YL cs x).2]
    rw [e]
    have hx := hat cs x rfl
    have key : (∀ cs' x', cs ++ [YH (k + 1) l x] = cs' ++ [x'] → x' = YH (k + 1) l x) := fun cs' x' he => (hone he).symm
    suffices hs : Zh (YH (k + 1) l x) = Zh x ++ [Yw (YU (k + 1)) l] ∧
        ((k + 1 = 1 ∧ 1 ≤ (YH (k + 1) l x).routes.length ∧ (YH (k + 1) l x).routes.length ≤ 2 ∧ (YH (k + 1) l x).bounds.length + 1 = (YH (k + 1) l x).routes.length ∧ (YH (k + 1) l x).worst.length + 1 = (YH (k + 1) l x).routes.length ∧ (YH (k + 1) l x).slots.length + 1 = (YH (k + 1) l x).routes.length) ∨
        (k + 1 = 2 ∧ 1 ≤ (YH (k + 1) l x).routes.length ∧ (YH (k + 1) l x).routes.length ≤ 2 ∧ (YH (k + 1) l x).bounds.length = (YH (k + 1) l x).routes.length ∧ (YH (k + 1) l x).worst.length = (YH (k + 1) l x).routes.length ∧ (YH (k + 1) l x).slots.length + 1 = (YH (k + 1) l x).routes.length) ∨
        (k + 1 = 3 ∧ 1 ≤ (YH (k + 1) l x).routes.length ∧ (YH (k + 1) l x).routes.length ≤ 2 ∧ (YH (k + 1) l x).bounds.length = (YH (k + 1) l x).routes.length ∧ (YH (k + 1) l x).worst.length = (YH (k + 1) l x).routes.length ∧ (YH (k + 1) l x).slots.length = (YH (k + 1) l x).routes.length)) by
      refine ⟨⟨YeN hfull, fun e => by simp at e, fun cs' x' he => .inr ?_⟩, ?_⟩
      · rw [key cs' x' he]; exact hs.2
      · rw [List.flatMap_append, List.flatMap_append, List.append_assoc]
        simp [hs.1]
    obtain ⟨fl, rs, bs, ws, ss⟩ := x
    dsimp only at hx
    match k, hk with
    | 0, _ =>
      have hc : (last = 0 ∧ rs = [] ∧ bs = [] ∧ ws = [] ∧ ss = []) ∨ (last = 3 ∧ rs.length = 1 ∧ bs.length = 1 ∧ ws.length = 1 ∧ ss.length = 1) := by
        unfold Zf YX at hf
        simp only [(YL cs _).1] at hf
        simp at hf
        rcases hx with h | h | h | h
        · exact .inl h
        · omega
        · omega
        · exact .inr (by omega)
      rcases hc with ⟨_, rfl, rfl, rfl, rfl⟩ | ⟨_, h1, h2, h3, h4⟩
      · exact ⟨rfl, .inl ⟨rfl, Nat.le_refl 1, le12, rfl, rfl, rfl⟩⟩
      · match rs, bs, ws, ss, h1, h2, h3, h4 with
        | [r], [b], [w], [s], _, _, _, _ => exact ⟨rfl, .inl ⟨rfl, le12, Nat.le_refl 2, rfl, rfl, rfl⟩⟩
    | 1, _ =>
      have hc : last = 1 := by
        unfold Zf YX at hf
        simpa using hf
      have hx : 1 ≤ rs.length ∧ rs.length ≤ 2 ∧ bs.length + 1 = rs.length ∧ ws.length + 1 = rs.length ∧ ss.length + 1 = rs.length := by
        rcases hx with h | h | h | h <;> first | exact h.2 | omega
      match l, hl1, hl2 with
      | [b, w], _, _ =>
        match rs, bs, ws, ss, hx with
        | [r], [], [], [], _ => exact ⟨rfl, .inr (.inl ⟨rfl, Nat.le_refl 1, le12, rfl, rfl, rfl⟩)⟩
        | [r, r2], [b0], [w0], [s0], _ => exact ⟨rfl, .inr (.inl ⟨rfl, le12, Nat.le_refl 2, rfl, rfl, rfl⟩)⟩
    | 2, _ =>
      have hc : last = 2 := by
        unfold Zf YX at hf
        simpa using hf
      have hx : 1 ≤ rs.length ∧ rs.length ≤ 2 ∧ bs.length = rs.length ∧ ws.length = rs.length ∧ ss.length + 1 = rs.length := by
        rcases hx with h | h | h | h <;> first | exact h.2 | omega
      match rs, bs, ws, ss, hx with
      | [r], [b], [w], [], _ => exact ⟨rfl, .inr (.inr ⟨rfl, Nat.le_refl 1, le12, rfl, rfl, rfl⟩)⟩
      | [r, r2], [b, b2], [w, w2], [s0], _ => exact ⟨rfl, .inr (.inr ⟨rfl, le12, Nat.le_refl 2, rfl, rfl, rfl⟩)⟩
theorem Yen : ∀ (ls : List (List UInt8)) {p p' : Pst}, Rdr p → runL ls p = some p' → Rdr p' ∧ p'.c.flatMap Zh = p.c.flatMap Zh ++ ls
  | [], p, p', h, hr => by
    cases hr
    exact ⟨h, by simp⟩
  | l :: ls, p, p', h, hr => by
    unfold runL at hr
    cases hl : Xm p l with
    | none => rw [hl] at hr; cases hr
    | some q =>
      rw [hl] at hr
      obtain ⟨h1, h2⟩ := Ygy h hl
      obtain ⟨h3, h4⟩ := Yen ls h1 hr
      exact ⟨h3, by rw [h4, h2]; simp⟩
open Go.RowKit Go.Eng Go.Nw Go.Rt
theorem Q4 (z a b : Int) (ga gb : Nat) {B : Nat} {w0 : World} {H : List HP} {w : World} (h1 : blk ga (.cells #[.int .i64 a] 3 (0, 0)) ∈ H) (h2 : blk gb (.cells #[.int .i64 b] 3 (0, 0)) ∈ H) (hw : St B w0 H w) :
    Calls Tryz.prog 238 [.int .i64 z, .pointer (some ⟨ga, 0, none⟩), .pointer (some ⟨gb, 0, none⟩)].toArray w (Post B w0 fun v K => v = .bool (!decide (a ≤ z ∧ z ≤ b)) ∧ K = H) := by
  refine Yd Tryz.func238 Tryz.ntmps238 rfl rfl hw ?_
  by_cases h : a ≤ z ∧ z ≤ b
  · rw [decide_eq_true h]
    repeat' (first | apply (zs1 ?_) | apply (zs2 ?_) | (apply zg1; refine zs4 ?_) | (apply zg3; refine zs7 ?_) | (apply zg6; refine zs12 ?_) | (apply (zs17 ?_ ?_) <;> intro _ <;> try (exfalso; omega)) | (apply (zs19 ?_ ?_) <;> intro _ <;> try (exfalso; omega)) | apply (zs65 ?_) | apply (zs68 ?_) | apply (zs69 ?_) | apply (zs70 ?_) | apply (zs74 ?_) | fail)
    apply Yc; exact rfl; exact rfl; exact ⟨rfl, rfl⟩
  · rw [decide_eq_false h]
    repeat' (first | apply (zs1 ?_) | apply (zs2 ?_) | (apply zg1; first | refine zs3 ?_ | refine zs4 ?_) | (apply zg3; refine zs7 ?_) | (apply zg6; first | refine zs11 ?_ | refine zs12 ?_) | (apply (zs17 ?_ ?_) <;> intro _ <;> try (exfalso; omega)) | (apply (zs19 ?_ ?_) <;> intro _ <;> try (exfalso; omega)) | apply (zs65 ?_) | apply (zs68 ?_) | apply (zs69 ?_) | apply (zs70 ?_) | apply (zs74 ?_) | fail)
    all_goals (apply Yc; exact rfl; exact rfl; exact ⟨rfl, rfl⟩)
theorem ZM (l : List Int) (a b : Int) (hl : l.length ≤ 1000000000000) {A : Option Addr} {cap B : Nat} {w0 : World} {H : List HP} {w : World} (hr : Rd B w0 H A (l.flatMap numF)) (hw : St B w0 H w) :
    Calls Tryz.prog 195 [.slice A l.length cap, .int .i64 a, .int .i64 b].toArray w (Post B w0 fun v K => v = .bool (inL l a b) ∧ K = H) := by
  refine Yd Tryz.func195 Tryz.ntmps195 rfl rfl hw ?_
  have e1 : inL l a b = !(l.any fun z => !decide (a ≤ z ∧ z ≤ b)) := by
    unfold inL
    rw [List.not_any_eq_all_not]
    exact congrArg _ (funext fun z => (Bool.not_not _).symm)
  rw [e1]
  obtain ⟨o, ho⟩ : ∃ o, (l.any fun z => !decide (a ≤ z ∧ z ≤ b)) = o := ⟨_, rfl⟩
  rw [ho]
  repeat' (first | apply (zs1 ?_) | apply (zs2 ?_) | (apply zg23; (refine zs53 ?_; intro _)) | apply (zs65 ?_) | apply (zs68 ?_) | apply (zs69 ?_) | apply (zs70 ?_) | (apply zg29; (apply Yr; exact za ; exact rfl)) | fail)
  rename_i ga gb
  have p1 : ∀ w, St B w0 (blk gb (.cells #[.int .i64 b] 3 (0, 0)) :: blk ga (.cells #[.int .i64 a] 3 (0, 0)) :: H) w → Calls Tryz.prog 164 [.slice A l.length cap, .func (.func 238) #[] [Value.pointer (some ⟨ga, 0, none⟩), Value.pointer (some ⟨gb, 0, none⟩)].toArray].toArray w (Post B w0 fun v K => v = .bool o ∧ K = blk gb (.cells #[.int .i64 b] 3 (0, 0)) :: blk ga (.cells #[.int .i64 a] 3 (0, 0)) :: H) := fun w hw => by
    have h := JG (fun z => Value.int .i64 z) (fun z => !decide (a ≤ z ∧ z ≤ b)) l 238 [.pointer (some ⟨ga, 0, none⟩), .pointer (some ⟨gb, 0, none⟩)] YiT (by omega) (cap := cap) (show Rd B w0 _ A (l.flatMap numF) from hr.cons.cons) (fun z _ w hw => Q4 z a b ga gb (.tail _ (.head _)) (.head _) hw) hw
    rw [ho] at h
    exact h
  cases o <;> (
    first | apply Ya Yd9 | apply Yb Yd9
    exact za
    exact rfl
    exact fun _ hw => (p1 _ hw)
    repeat' (first | apply (zs2 ?_) | (apply zg20; first | refine zs47 ?_ | refine zs48 ?_) | apply (zs65 ?_) | apply (zs68 ?_) | apply (zs74 ?_) | fail)
    apply Yi H
    · exact zk
    apply Yc; exact rfl; exact rfl; exact ⟨rfl, rfl⟩)
theorem XP {rs : List RowM} {k : Nat} {r : RowM} (h : rs[k]? = some r) : rtAt (rs.map (·.xs)) k = r.xs := by
  have h2 : (rs.map (·.xs))[k]? = some r.xs := by rw [List.getElem?_map, h]; rfl
  exact Option.some.inj ((YaV (List.getElem?_eq_some_iff.1 h2).1).symm.trans h2)
set_option maxRecDepth 10000 in
set_option maxHeartbeats 8000000 in
theorem Ybm (c : ClM) {B : Nat} {w0 : World} {H : List HP} {w : World} (hc : c.In B w0 H) (hw : St B w0 H w) :
    Calls Tryz.prog 135 [clV c].toArray w (Post B w0 fun v K => v = .bool (XB c.clm) ∧ K = H) := by
  refine Yd Tryz.func135 Tryz.ntmps135 rfl rfl hw ?_
  obtain ⟨hl1, hl2, hl3, hl4⟩ := hc.ln
  have q1 := fun {H' : List HP} {w : World} (hc : c.In B w0 H') (hw : St B w0 H' w) => ZM c.bs 1 512 hl2 (cap := c.bcap) hc.bd hw
  have q2 := fun {H' : List HP} {w : World} (hc : c.In B w0 H') (hw : St B w0 H' w) => ZM c.ws 0 511 hl3 (cap := c.wcap) hc.ws hw
  obtain ⟨F, hF⟩ : ∃ F, XB c.clm = F := ⟨_, rfl⟩
  have hFe : F = (decide (0 ≤ c.flow ∧ c.flow ≤ 255 ∧ 1 ≤ c.rs.length ∧ c.rs.length ≤ 2 ∧ c.bs.length = c.rs.length ∧ c.ws.length = c.rs.length ∧ c.ss.length = c.rs.length) && inL c.bs 1 512 && inL c.ws 0 511 && (List.range c.rs.length).all fun i => rtOk (rtAt (c.rs.map (·.xs)) i) (rtAt (c.ss.map (·.xs)) i)) := by
    rw [← hF]
    unfold XB ClM.clm
    simp only [List.length_map]
  rw [hF]
  unfold clV
  obtain ⟨b1, hb1⟩ : ∃ b, inL c.bs 1 512 = b := ⟨_, rfl⟩
  obtain ⟨b2, hb2⟩ : ∃ b, inL c.ws 0 511 = b := ⟨_, rfl⟩
  rw [hb1] at q1 hFe
  rw [hb2] at q2 hFe
  by_cases hP : 0 ≤ c.flow ∧ c.flow ≤ 255 ∧ 1 ≤ c.rs.length ∧ c.rs.length ≤ 2 ∧ c.bs.length = c.rs.length ∧ c.ws.length = c.rs.length ∧ c.ss.length = c.rs.length
  rotate_left
  · rw [decide_eq_false hP] at hFe
    simp only [Bool.false_and] at hFe
    subst hFe
    repeat' (first | apply (zs1 ?_) | apply (zs2 ?_) | (apply zg1; first | refine zs3 ?_ | refine zs4 ?_) | (apply zg2; refine zs6 ?_) | (apply zg3; refine zs7 ?_) | (apply zg4; refine zs9 ?_) | (apply zg6; first | refine zs11 ?_ | refine zs12 ?_) | (apply zg8; (refine zs16 ?_ ?_ <;> intro _ <;> try (exfalso; omega))) | (apply (zs17 ?_ ?_) <;> intro _ <;> try (exfalso; omega)) | (apply (zs19 ?_ ?_) <;> intro _ <;> try (exfalso; omega)) | (apply zg23; (refine zs52 ?_; intro _)) | apply (zs65 ?_) | apply (zs68 ?_) | apply (zs69 ?_) | apply (zs70 ?_) | (apply zg27; refine zs71 ?_) | apply (zs74 ?_) | apply (zs77 ?_) | fail)
    all_goals (
      apply Yi H
      · exact zk
      apply Yc; exact rfl; exact rfl; exact ⟨rfl, rfl⟩)
  rw [decide_eq_true hP, Bool.true_and] at hFe
  obtain ⟨f0, f1, n1, n2, e1, e2, e3⟩ := hP
  cases b1 with
  | false =>
    simp only [Bool.false_and] at hFe
    subst hFe
    repeat' (first | apply (zs1 ?_) | apply (zs2 ?_) | (apply zg1; refine zs4 ?_) | (apply zg2; refine zs6 ?_) | (apply zg3; refine zs7 ?_) | (apply zg4; refine zs9 ?_) | (apply zg6; refine zs12 ?_) | (apply zg8; (refine zs16 ?_ ?_ <;> intro _ <;> try (exfalso; omega))) | (apply (zs17 ?_ ?_) <;> intro _ <;> try (exfalso; omega)) | (apply (zs19 ?_ ?_) <;> intro _ <;> try (exfalso; omega)) | (apply zg23; (refine zs52 ?_; intro _)) | apply (zs65 ?_) | apply (zs68 ?_) | apply (zs69 ?_) | apply (zs70 ?_) | fail)
    first | apply Ya Xz | apply Yb Xz
    exact za
    exact rfl
    exact fun _ hw => (q1 (hc.mono zk) hw)
    repeat' (first | apply (zs1 ?_) | apply (zs2 ?_) | (apply zg1; first | refine zs3 ?_ | refine zs4 ?_) | (apply zg6; first | refine zs11 ?_ | refine zs12 ?_) | (apply zg20; refine zs48 ?_) | apply (zs65 ?_) | apply (zs68 ?_) | apply (zs69 ?_) | apply (zs70 ?_) | (apply zg27; refine zs71 ?_) | apply (zs74 ?_) | apply (zs77 ?_) | fail)
    apply Yi H
    · exact zk
    apply Yc; exact rfl; exact rfl; exact ⟨rfl, rfl⟩
  | true =>
  cases b2 with
  | false =>
    simp only [Bool.false_and, Bool.and_false] at hFe
    subst hFe
    repeat' (first | apply (zs1 ?_) | apply (zs2 ?_) | (apply zg1; refine zs4 ?_) | (apply zg2; refine zs6 ?_) | (apply zg3; refine zs7 ?_) | (apply zg4; refine zs9 ?_) | (apply zg6; refine zs12 ?_) | (apply zg8; (refine zs16 ?_ ?_ <;> intro _ <;> try (exfalso; omega))) | (apply (zs17 ?_ ?_) <;> intro _ <;> try (exfalso; omega)) | (apply (zs19 ?_ ?_) <;> intro _ <;> try (exfalso; omega)) | (apply zg23; (refine zs52 ?_; intro _)) | apply (zs65 ?_) | apply (zs68 ?_) | apply (zs69 ?_) | apply (zs70 ?_) | fail)
    first | apply Ya Xz | apply Yb Xz
    exact za
    exact rfl
    exact fun _ hw => (q1 (hc.mono zk) hw)
    repeat' (first | apply (zs1 ?_) | (apply zg1; refine zs4 ?_) | (apply zg2; refine zs6 ?_) | (apply zg3; refine zs7 ?_) | (apply zg6; refine zs12 ?_) | (apply zg20; refine zs47 ?_) | fail)
    first | apply Ya Xz | apply Yb Xz
    exact za
    exact rfl
    exact fun _ hw => (q2 (hc.mono zk) hw)
    repeat' (first | apply (zs2 ?_) | (apply zg1; refine zs4 ?_) | (apply zg6; refine zs12 ?_) | (apply zg20; refine zs48 ?_) | apply (zs65 ?_) | apply (zs68 ?_) | apply (zs69 ?_) | apply (zs70 ?_) | (apply zg27; refine zs71 ?_) | apply (zs74 ?_) | apply (zs77 ?_) | fail)
    apply Yi H
    · exact zk
    apply Yc; exact rfl; exact rfl; exact ⟨rfl, rfl⟩
  | true =>
  simp only [Bool.true_and] at hFe
  repeat' (first | apply (zs1 ?_) | apply (zs2 ?_) | (apply zg1; refine zs4 ?_) | (apply zg2; refine zs6 ?_) | (apply zg3; refine zs7 ?_) | (apply zg4; refine zs9 ?_) | (apply zg6; refine zs12 ?_) | (apply zg8; (refine zs16 ?_ ?_ <;> intro _ <;> try (exfalso; omega))) | (apply (zs17 ?_ ?_) <;> intro _ <;> try (exfalso; omega)) | (apply (zs19 ?_ ?_) <;> intro _ <;> try (exfalso; omega)) | (apply zg23; (refine zs52 ?_; intro _)) | apply (zs65 ?_) | apply (zs68 ?_) | apply (zs69 ?_) | apply (zs70 ?_) | fail)
  rename_i g _ _ _ _ _ _ _
  first | apply Ya Xz | apply Yb Xz
  exact za
  exact rfl
  exact fun _ hw => (q1 (hc.mono zk) hw)
  repeat' (first | apply (zs1 ?_) | (apply zg1; refine zs4 ?_) | (apply zg2; refine zs6 ?_) | (apply zg3; refine zs7 ?_) | (apply zg6; refine zs12 ?_) | (apply zg20; refine zs47 ?_) | fail)
  first | apply Ya Xz | apply Yb Xz
  exact za
  exact rfl
  exact fun _ hw => (q2 (hc.mono zk) hw)
  repeat' (first | apply (zs1 ?_) | (apply zg1; refine zs4 ?_) | (apply zg2; refine zs6 ?_) | (apply zg3; refine zs7 ?_) | (apply zg4; refine zs9 ?_) | (apply zg6; refine zs12 ?_) | (apply zg20; refine zs47 ?_) | apply (zs65 ?_) | apply (zs68 ?_) | apply (zs69 ?_) | apply (zs70 ?_) | (apply zg27; refine zs72 ?_) | apply (zs73 ?_) | apply (zs76 ?_) | fail)
  obtain ⟨ok, hok⟩ : ∃ ok : Nat → Bool, (fun i => rtOk (rtAt (c.rs.map (·.xs)) i) (rtAt (c.ss.map (·.xs)) i)) = ok := ⟨_, rfl⟩
  rw [hok] at hFe
  refine Yk (fun k : Nat => [(61, .int .i64 (k : Nat)), (60, .int .i64 c.rs.length), (59, .slice c.rA c.rs.length c.rcap), (1, .pointer (some ⟨g, 0, none⟩))]) (fun _ => clA g c :: H) (fun k => k ≤ c.rs.length ∧ ∀ j, j < k → ok j = true) (fun k => c.rs.length - k) 0 ⟨Nat.zero_le _, fun j h => absurd h (Nat.not_lt_zero _)⟩ ?_ (fun w hw => hw) ?_
  · exact zu
  rintro k ⟨hk, hz⟩ K hK
  have hcr : Rd B w0 (clA g c :: H) c.rA (c.rs.flatMap rowF) := hc.rt.cons
  have hcs : Rd B w0 (clA g c :: H) c.sA (c.ss.flatMap rowF) := hc.st.cons
  by_cases hlt : k < c.rs.length
  rotate_left
  · obtain rfl : k = c.rs.length := by omega
    have hFt : F = true := by
      rw [hFe, List.all_eq_true]
      exact fun j hj => hz j (List.mem_range.1 hj)
    subst hFt
    clear hK
    repeat' (first | apply (zs2 ?_) | (apply (zs17 ?_ ?_) <;> intro _ <;> try (exfalso; omega)) | apply (zs65 ?_) | apply (zs68 ?_) | apply (zs69 ?_) | apply (zs70 ?_) | (apply zg27; refine zs72 ?_) | apply (zs74 ?_) | apply (zs75 ?_) | apply (zs80 ?_) | apply (zs81 ?_) | fail)
    apply Yi H
    · exact zk
    apply Yc; exact rfl; exact rfl; exact ⟨rfl, rfl⟩
  obtain ⟨r, hr⟩ : ∃ r, c.rs[k]? = some r := ⟨_, List.getElem?_eq_getElem hlt⟩
  obtain ⟨z, hzz⟩ : ∃ z, c.ss[k]? = some z := ⟨_, List.getElem?_eq_getElem (by omega)⟩
  have hrm := List.mem_of_getElem? hr
  have hzm := List.mem_of_getElem? hzz
  have hkk : ok k = rtOk r.xs z.xs := by rw [← hok]; show rtOk (rtAt _ _) (rtAt _ _) = _; rw [XP hr, XP hzz]
  unfold rtOk at hkk
  have hrl := hc.rl r hrm
  have hzl := hc.sl z hzm
  have q3 := fun {H' : List HP} {w : World} (hc : c.In B w0 H') (hw : St B w0 H' w) => ZM r.xs 0 31 hrl (cap := r.cap) (hc.rw_ r hrm) hw
  have q4 := fun {H' : List HP} {w : World} (hc : c.In B w0 H') (hw : St B w0 H' w) => ZM z.xs 0 511 hzl (cap := z.cap) (hc.sw z hzm) hw
  obtain ⟨b3, hb3⟩ : ∃ b, inL r.xs 0 31 = b := ⟨_, rfl⟩
  obtain ⟨b4, hb4⟩ : ∃ b, inL z.xs 0 511 = b := ⟨_, rfl⟩
  rw [hb3] at q3 hkk
  rw [hb4] at q4 hkk
  have hno : ok k = false → F = false := fun h => by
    rw [hFe, List.all_eq_false]
    exact ⟨k, List.mem_range.2 hlt, by rw [h]; decide⟩
  by_cases hA : 2 ≤ r.xs.length ∧ r.xs.length ≤ 9
  rotate_left
  · rw [decide_eq_false hA] at hkk
    have hFf := hno (by rw [hkk]; rfl)
    subst hFf
    clear hK
    repeat' (first | apply (zs1 ?_) | apply (zs2 ?_) | (apply zg1; first | refine zs3 ?_ | refine zs4 ?_) | (apply zg3; refine zs60 ?_) | (apply zg4; refine zs9 ?_) | (apply zg5; refine zs57 ?_) | (apply zg6; first | refine zs11 ?_ | refine zs12 ?_) | (apply (zs17 ?_ ?_) <;> intro _ <;> try (exfalso; omega)) | (apply (zs19 ?_ ?_) <;> intro _ <;> try (exfalso; omega)) | apply (zs65 ?_) | apply (zs68 ?_) | apply (zs69 ?_) | apply (zs70 ?_) | (apply zg27; refine zs71 ?_) | apply (zs73 ?_) | apply (zs74 ?_) | apply (zs76 ?_) | apply (zs77 ?_) | apply (zs78 ?_) | fail)
    all_goals (
      apply Yi H
      · exact zk
      apply Yc; exact rfl; exact rfl; exact ⟨rfl, rfl⟩)
  rw [decide_eq_true hA] at hkk
  cases b3 with
  | false =>
    have hFf := hno (by rw [hkk]; rfl)
    subst hFf
    clear hK
    repeat' (first | apply (zs1 ?_) | apply (zs2 ?_) | (apply zg1; refine zs4 ?_) | (apply zg3; refine zs60 ?_) | (apply zg4; refine zs9 ?_) | (apply zg5; refine zs57 ?_) | (apply zg6; refine zs12 ?_) | (apply (zs17 ?_ ?_) <;> intro _ <;> try (exfalso; omega)) | (apply (zs19 ?_ ?_) <;> intro _ <;> try (exfalso; omega)) | apply (zs65 ?_) | apply (zs68 ?_) | apply (zs69 ?_) | apply (zs70 ?_) | (apply zg27; refine zs71 ?_) | apply (zs73 ?_) | apply (zs76 ?_) | fail)
    first | apply Ya Xz | apply Yb Xz
    exact za
    exact rfl
    exact fun _ hw => (q3 (hc.mono zk) hw)
    repeat' (first | apply (zs1 ?_) | apply (zs2 ?_) | (apply zg1; first | refine zs3 ?_ | refine zs4 ?_) | (apply zg6; first | refine zs11 ?_ | refine zs12 ?_) | (apply zg20; refine zs48 ?_) | apply (zs65 ?_) | apply (zs68 ?_) | apply (zs69 ?_) | apply (zs70 ?_) | (apply zg27; refine zs71 ?_) | apply (zs74 ?_) | apply (zs77 ?_) | apply (zs78 ?_) | fail)
    all_goals (
      apply Yi H
      · exact zk
      apply Yc; exact rfl; exact rfl; exact ⟨rfl, rfl⟩)
  | true =>
  by_cases hB : 1 ≤ z.xs.length ∧ z.xs.length ≤ 64
  rotate_left
  · rw [decide_eq_false hB] at hkk
    have hFf := hno (by rw [hkk]; rfl)
    subst hFf
    clear hK
    repeat' (first | apply (zs1 ?_) | apply (zs2 ?_) | (apply zg1; refine zs4 ?_) | (apply zg3; refine zs60 ?_) | (apply zg4; refine zs9 ?_) | (apply zg5; refine zs57 ?_) | (apply zg6; refine zs12 ?_) | (apply (zs17 ?_ ?_) <;> intro _ <;> try (exfalso; omega)) | (apply (zs19 ?_ ?_) <;> intro _ <;> try (exfalso; omega)) | apply (zs65 ?_) | apply (zs68 ?_) | apply (zs69 ?_) | apply (zs70 ?_) | (apply zg27; refine zs71 ?_) | apply (zs73 ?_) | apply (zs76 ?_) | fail)
    first | apply Ya Xz | apply Yb Xz
    exact za
    exact rfl
    exact fun _ hw => (q3 (hc.mono zk) hw)
    repeat' (first | apply (zs1 ?_) | apply (zs2 ?_) | (apply zg1; first | refine zs3 ?_ | refine zs4 ?_) | (apply zg2; refine zs6 ?_) | (apply zg3; first | refine zs7 ?_ | refine zs60 ?_) | (apply zg4; refine zs9 ?_) | (apply zg5; refine zs57 ?_) | (apply zg6; first | refine zs11 ?_ | refine zs12 ?_) | (apply (zs17 ?_ ?_) <;> intro _ <;> try (exfalso; omega)) | (apply (zs19 ?_ ?_) <;> intro _ <;> try (exfalso; omega)) | (apply zg20; refine zs47 ?_) | apply (zs65 ?_) | apply (zs68 ?_) | apply (zs69 ?_) | apply (zs70 ?_) | (apply zg27; refine zs71 ?_) | apply (zs74 ?_) | apply (zs77 ?_) | apply (zs78 ?_) | fail)
    all_goals (
      apply Yi H
      · exact zk
      apply Yc; exact rfl; exact rfl; exact ⟨rfl, rfl⟩)
  rw [decide_eq_true hB] at hkk
  cases b4 with
  | false =>
    have hFf := hno (by rw [hkk]; rfl)
    subst hFf
    clear hK
    repeat' (first | apply (zs1 ?_) | apply (zs2 ?_) | (apply zg1; refine zs4 ?_) | (apply zg3; refine zs60 ?_) | (apply zg4; refine zs9 ?_) | (apply zg5; refine zs57 ?_) | (apply zg6; refine zs12 ?_) | (apply (zs17 ?_ ?_) <;> intro _ <;> try (exfalso; omega)) | (apply (zs19 ?_ ?_) <;> intro _ <;> try (exfalso; omega)) | apply (zs65 ?_) | apply (zs68 ?_) | apply (zs69 ?_) | apply (zs70 ?_) | (apply zg27; refine zs71 ?_) | apply (zs73 ?_) | apply (zs76 ?_) | fail)
    first | apply Ya Xz | apply Yb Xz
    exact za
    exact rfl
    exact fun _ hw => (q3 (hc.mono zk) hw)
    repeat' (first | apply (zs1 ?_) | (apply zg1; refine zs4 ?_) | (apply zg2; refine zs6 ?_) | (apply zg3; first | refine zs7 ?_ | refine zs60 ?_) | (apply zg4; refine zs9 ?_) | (apply zg5; refine zs57 ?_) | (apply zg6; refine zs12 ?_) | (apply (zs17 ?_ ?_) <;> intro _ <;> try (exfalso; omega)) | (apply (zs19 ?_ ?_) <;> intro _ <;> try (exfalso; omega)) | (apply zg20; refine zs47 ?_) | fail)
    first | apply Ya Xz | apply Yb Xz
    exact za
    exact rfl
    exact fun _ hw => (q4 (hc.mono zk) hw)
    repeat' (first | apply (zs2 ?_) | (apply zg1; refine zs4 ?_) | (apply zg6; refine zs12 ?_) | (apply zg20; refine zs48 ?_) | apply (zs65 ?_) | apply (zs68 ?_) | apply (zs69 ?_) | apply (zs70 ?_) | (apply zg27; refine zs71 ?_) | apply (zs74 ?_) | apply (zs77 ?_) | apply (zs78 ?_) | fail)
    all_goals (
      apply Yi H
      · exact zk
      apply Yc; exact rfl; exact rfl; exact ⟨rfl, rfl⟩)
  | true =>
    have hkt : ok k = true := hkk
    repeat' (first | apply (zs1 ?_) | apply (zs2 ?_) | (apply zg1; refine zs4 ?_) | (apply zg3; refine zs60 ?_) | (apply zg4; refine zs9 ?_) | (apply zg5; refine zs57 ?_) | (apply zg6; refine zs12 ?_) | (apply (zs17 ?_ ?_) <;> intro _ <;> try (exfalso; omega)) | (apply (zs19 ?_ ?_) <;> intro _ <;> try (exfalso; omega)) | apply (zs65 ?_) | apply (zs68 ?_) | apply (zs69 ?_) | apply (zs70 ?_) | (apply zg27; refine zs71 ?_) | apply (zs73 ?_) | apply (zs76 ?_) | fail)
    first | apply Ya Xz | apply Yb Xz
    exact za
    exact rfl
    exact fun _ hw => (q3 (hc.mono zk) hw)
    repeat' (first | apply (zs1 ?_) | (apply zg1; refine zs4 ?_) | (apply zg2; refine zs6 ?_) | (apply zg3; first | refine zs7 ?_ | refine zs60 ?_) | (apply zg4; refine zs9 ?_) | (apply zg5; refine zs57 ?_) | (apply zg6; refine zs12 ?_) | (apply (zs17 ?_ ?_) <;> intro _ <;> try (exfalso; omega)) | (apply (zs19 ?_ ?_) <;> intro _ <;> try (exfalso; omega)) | (apply zg20; refine zs47 ?_) | fail)
    first | apply Ya Xz | apply Yb Xz
    exact za
    exact rfl
    exact fun _ hw => (q4 (hc.mono zk) hw)
    repeat' (first | apply (zs1 ?_) | (apply zg1; refine zs4 ?_) | (apply zg6; refine zs12 ?_) | (apply zg13; refine zs30 ?_) | (apply zg20; refine zs47 ?_) | apply (zs65 ?_) | apply (zs68 ?_) | apply (zs70 ?_) | (apply zg27; refine zs72 ?_) | apply (zs76 ?_) | apply (zs79 ?_) | fail)
    apply hK (k + 1)
    · exact ⟨by omega, fun j h2 => by
        rcases Nat.lt_succ_iff_lt_or_eq.1 h2 with h | rfl
        · exact hz j h
        · exact hkt⟩
    · omega
    · exact zu
    · exact zk
open Go.RowKit Go.Eng Go.Nw Go.Rt
set_option maxRecDepth 10000 in
set_option maxHeartbeats 8000000 in
theorem OX (c : List ClM) {A : Option Addr} {cap B : Nat} {w0 : World} {H : List HP} {w : World} (hc : CIn B w0 H A c) (hw : St B w0 H w) :
    Calls Tryz.prog 75 [.slice A c.length cap].toArray w (Post B w0 fun v K => v = .bool (Zg (c.map ClM.clm)) ∧ K = H) := by
  refine Yd Tryz.func75 Tryz.ntmps75 rfl rfl hw ?_
  have hcl := hc.ln
  have hcr := hc.rd
  obtain ⟨ok, hok⟩ : ∃ ok : Nat → Bool, Yaq (c.map ClM.clm) = ok := ⟨_, rfl⟩
  obtain ⟨F, hF⟩ : ∃ F, Zg (c.map ClM.clm) = F := ⟨_, rfl⟩
  have hFe : F = (decide (c.length ≤ 16) && (List.range c.length).all ok) := by
    rw [← hF]; unfold Zg; rw [List.length_map, hok]
  rw [hF]
  repeat' (first | apply (zs1 ?_) | apply (zs2 ?_) | (apply zg4; refine zs9 ?_) | apply (zs65 ?_) | apply (zs68 ?_) | apply (zs69 ?_) | apply (zs70 ?_) | apply (zs73 ?_) | fail)
  refine Yk (fun k : Nat => [(7, .int .i64 (k : Nat)), (6, .int .i64 c.length), (5, .slice A c.length cap), (0, .slice A c.length cap)]) (fun _ => H) (fun k => k ≤ c.length ∧ ∀ j, j < k → ok j = true) (fun k => c.length - k) 0 ⟨Nat.zero_le _, fun j h => absurd h (Nat.not_lt_zero _)⟩ ?_ (fun w hw => hw) ?_
  · exact zu
  rintro k ⟨hk, hz⟩ K hK
  by_cases hlt : k < c.length
  rotate_left
  · obtain rfl : k = c.length := by omega
    have hFt : (List.range c.length).all ok = true := by
      rw [List.all_eq_true]
      exact fun j hj => hz j (List.mem_range.1 hj)
    rw [hFt, Bool.and_true] at hFe
    clear hK
    by_cases h16 : c.length ≤ 16
    · rw [decide_eq_true h16] at hFe
      subst hFe
      repeat' (first | apply (zs1 ?_) | apply (zs2 ?_) | (apply zg4; refine zs9 ?_) | (apply (zs17 ?_ ?_) <;> intro _ <;> try (exfalso; omega)) | (apply (zs18 ?_ ?_) <;> intro _ <;> try (exfalso; omega)) | apply (zs65 ?_) | apply (zs68 ?_) | apply (zs69 ?_) | apply (zs70 ?_) | (apply zg27; refine zs72 ?_) | apply (zs74 ?_) | apply (zs75 ?_) | apply (zs80 ?_) | apply (zs81 ?_) | fail)
      apply Yc; exact rfl; exact rfl; exact ⟨rfl, rfl⟩
    · rw [decide_eq_false h16] at hFe
      subst hFe
      repeat' (first | apply (zs1 ?_) | apply (zs2 ?_) | (apply zg4; refine zs9 ?_) | (apply (zs17 ?_ ?_) <;> intro _ <;> try (exfalso; omega)) | (apply (zs18 ?_ ?_) <;> intro _ <;> try (exfalso; omega)) | apply (zs65 ?_) | apply (zs68 ?_) | apply (zs69 ?_) | apply (zs70 ?_) | (apply zg27; refine zs72 ?_) | apply (zs74 ?_) | apply (zs75 ?_) | apply (zs80 ?_) | apply (zs81 ?_) | fail)
      apply Yc; exact rfl; exact rfl; exact ⟨rfl, rfl⟩
  obtain ⟨x, hx⟩ : ∃ x, c[k]? = some x := ⟨_, List.getElem?_eq_getElem hlt⟩
  have hxi := hc.x x (List.mem_of_getElem? hx)
  have q1 := fun {H' : List HP} {w : World} (hx : x.In B w0 H') (hw : St B w0 H' w) => Ybm x hx hw
  have hok1 : ok k = (XB x.clm && (decide (k = 0) || decide ((Zw (c.map ClM.clm) (k - 1)).flow < x.flow))) := by
    rw [← hok]; unfold Yaq; rw [XL hx]; rfl
  have hno : ok k = false → F = false := fun h => by
    rw [hFe, Bool.and_eq_false_iff]
    exact .inr (List.all_eq_false.2 ⟨k, List.mem_range.2 hlt, by rw [h]; decide⟩)
  obtain ⟨b, hb⟩ : ∃ b, XB x.clm = b := ⟨_, rfl⟩
  rw [hb] at q1 hok1
  cases b with
  | false =>
    have hFf := hno hok1
    subst hFf
    clear hK
    repeat' (first | apply (zs1 ?_) | apply (zs2 ?_) | (apply zg3; refine zs61 ?_) | (apply zg5; refine zs57 ?_) | (apply (zs17 ?_ ?_) <;> intro _ <;> try (exfalso; omega)) | (apply zg22; refine zs51 ?_) | (apply zg24; (refine zs54 ?_; intro _)) | apply (zs65 ?_) | apply (zs68 ?_) | apply (zs69 ?_) | apply (zs70 ?_) | (apply zg27; refine zs71 ?_) | apply (zs73 ?_) | apply (zs76 ?_) | fail)
    apply YB [0, 1, 2, 3, 4, 5, 6, 7, 8, 9, 10, 11, 12, 13, 14, 15, 16, 17] []
    kernel_rfl
    kernel_rfl
    (simp only [Yj, nthO]; rfl)
    exact rfl
    repeat' (first | (apply zg3; refine zs8 ?_) | apply (zs87 ?_) | fail)
    first | apply Ya WN | apply Yb WN
    exact za
    exact rfl
    exact fun _ hw => (q1 (hxi.mono zk) hw)
    repeat' (first | apply (zs1 ?_) | apply (zs2 ?_) | (apply zg1; refine zs3 ?_) | (apply zg6; refine zs11 ?_) | (apply zg20; refine zs48 ?_) | apply (zs65 ?_) | (apply Yn; exact zp) | apply (zs68 ?_) | apply (zs69 ?_) | apply (zs70 ?_) | (apply zg27; refine zs71 ?_) | apply (zs74 ?_) | apply (zs77 ?_) | apply (zs78 ?_) | (apply Yl; (repeat (first | with_reducible exact Yh | (with_reducible apply Yg; (repeat (first | with_reducible exact Yf | with_reducible apply Ye)))))) | apply (zs93 ?_) | apply (zs94 ?_) | fail)
    · show Perm H (H ++ [])
      rw [List.append_nil]; exact Perm.refl _
    repeat' (first | fail)
    apply Yi H
    · exact zk
    apply Yc; exact rfl; exact rfl; exact ⟨rfl, rfl⟩
  | true =>
    rw [Bool.true_and] at hok1
    by_cases hk0 : k = 0
    · have hkt : ok k = true := by rw [hok1, decide_eq_true hk0]; rfl
      repeat' (first | apply (zs1 ?_) | apply (zs2 ?_) | (apply zg3; refine zs61 ?_) | (apply zg5; refine zs57 ?_) | (apply (zs17 ?_ ?_) <;> intro _ <;> try (exfalso; omega)) | (apply zg22; refine zs51 ?_) | (apply zg24; (refine zs54 ?_; intro _)) | apply (zs65 ?_) | apply (zs68 ?_) | apply (zs69 ?_) | apply (zs70 ?_) | (apply zg27; refine zs71 ?_) | apply (zs73 ?_) | apply (zs76 ?_) | fail)
      apply YB [0, 1, 2, 3, 4, 5, 6, 7, 8, 9, 10, 11, 12, 13, 14, 15, 16, 17] []
      kernel_rfl
      kernel_rfl
      (simp only [Yj, nthO]; rfl)
      exact rfl
      repeat' (first | (apply zg3; refine zs8 ?_) | apply (zs87 ?_) | fail)
      first | apply Ya WN | apply Yb WN
      exact za
      exact rfl
      exact fun _ hw => (q1 (hxi.mono zk) hw)
      repeat' (first | apply (zs1 ?_) | (apply zg1; refine zs4 ?_) | (apply zg20; refine zs47 ?_) | apply (zs65 ?_) | (apply Yl; (repeat (first | with_reducible exact Yh | (with_reducible apply Yg; (repeat (first | with_reducible exact Yf | with_reducible apply Ye)))))) | fail)
      · show Perm H (H ++ [])
        rw [List.append_nil]; exact Perm.refl _
      repeat' (first | apply (zs1 ?_) | (apply zg1; first | refine zs3 ?_ | refine zs4 ?_) | (apply zg6; refine zs12 ?_) | (apply (zs19 ?_ ?_) <;> intro _ <;> try (exfalso; omega)) | (apply zg13; refine zs30 ?_) | apply (zs65 ?_) | (apply Yn; exact zp) | apply (zs68 ?_) | apply (zs70 ?_) | (apply zg27; refine zs72 ?_) | apply (zs76 ?_) | apply (zs79 ?_) | apply (zs93 ?_) | apply (zs94 ?_) | fail)
      apply hK (k + 1)
      · exact ⟨by omega, fun j h2 => by
          rcases Nat.lt_succ_iff_lt_or_eq.1 h2 with h | rfl
          · exact hz j h
          · exact hkt⟩
      · omega
      · exact zu
      · exact zk
    obtain ⟨y, hy⟩ : ∃ y, c[k - 1]? = some y := ⟨_, List.getElem?_eq_getElem (by omega)⟩
    have hy2 : c[((k : Int) - 1).toNat]? = some y := by rw [show ((k : Int) - 1).toNat = k - 1 by omega]; exact hy
    rw [decide_eq_false hk0, Bool.false_or, XL hy] at hok1
    have hok1 : ok k = decide (y.flow < x.flow) := hok1
    by_cases hfl : y.flow < x.flow
    · rw [decide_eq_true hfl] at hok1
      repeat' (first | apply (zs1 ?_) | apply (zs2 ?_) | (apply zg3; refine zs61 ?_) | (apply zg5; refine zs57 ?_) | (apply (zs17 ?_ ?_) <;> intro _ <;> try (exfalso; omega)) | (apply zg22; refine zs51 ?_) | (apply zg24; (refine zs54 ?_; intro _)) | apply (zs65 ?_) | apply (zs68 ?_) | apply (zs69 ?_) | apply (zs70 ?_) | (apply zg27; refine zs71 ?_) | apply (zs73 ?_) | apply (zs76 ?_) | fail)
      apply YB [0, 1, 2, 3, 4, 5, 6, 7, 8, 9, 10, 11, 12, 13, 14, 15, 16, 17] []
      kernel_rfl
      kernel_rfl
      (simp only [Yj, nthO]; rfl)
      exact rfl
      repeat' (first | (apply zg3; refine zs8 ?_) | apply (zs87 ?_) | fail)
      first | apply Ya WN | apply Yb WN
      exact za
      exact rfl
      exact fun _ hw => (q1 (hxi.mono zk) hw)
      repeat' (first | apply (zs1 ?_) | (apply zg1; refine zs4 ?_) | (apply zg20; refine zs47 ?_) | apply (zs65 ?_) | (apply Yl; (repeat (first | with_reducible exact Yh | (with_reducible apply Yg; (repeat (first | with_reducible exact Yf | with_reducible apply Ye)))))) | fail)
      · show Perm H (H ++ [])
        rw [List.append_nil]; exact Perm.refl _
      repeat' (first | apply (zs1 ?_) | (apply zg1; refine zs4 ?_) | (apply zg2; first | refine zs6 ?_ | refine zs58 ?_) | (apply zg3; first | refine zs7 ?_ | refine zs59 ?_) | (apply zg5; refine zs57 ?_) | (apply zg6; first | refine zs11 ?_ | refine zs12 ?_) | (apply (zs19 ?_ ?_) <;> intro _ <;> try (exfalso; omega)) | (apply (zs20 ?_ ?_) <;> intro _ <;> try (exfalso; omega)) | (apply zg13; refine zs30 ?_) | (apply zg14; refine zs31 ?_) | apply (zs65 ?_) | (apply Yn; exact zp) | apply (zs68 ?_) | apply (zs70 ?_) | (apply zg27; refine zs72 ?_) | apply (zs76 ?_) | apply (zs79 ?_) | apply (zs93 ?_) | apply (zs94 ?_) | fail)
      apply hK (k + 1)
      · exact ⟨by omega, fun j h2 => by
          rcases Nat.lt_succ_iff_lt_or_eq.1 h2 with h | rfl
          · exact hz j h
          · exact hok1⟩
      · omega
      · exact zu
      · exact zk
    · rw [decide_eq_false hfl] at hok1
      have hFf := hno hok1
      subst hFf
      clear hK
      repeat' (first | apply (zs1 ?_) | apply (zs2 ?_) | (apply zg3; refine zs61 ?_) | (apply zg5; refine zs57 ?_) | (apply (zs17 ?_ ?_) <;> intro _ <;> try (exfalso; omega)) | (apply zg22; refine zs51 ?_) | (apply zg24; (refine zs54 ?_; intro _)) | apply (zs65 ?_) | apply (zs68 ?_) | apply (zs69 ?_) | apply (zs70 ?_) | (apply zg27; refine zs71 ?_) | apply (zs73 ?_) | apply (zs76 ?_) | fail)
      apply YB [0, 1, 2, 3, 4, 5, 6, 7, 8, 9, 10, 11, 12, 13, 14, 15, 16, 17] []
      kernel_rfl
      kernel_rfl
      (simp only [Yj, nthO]; rfl)
      exact rfl
      repeat' (first | (apply zg3; refine zs8 ?_) | apply (zs87 ?_) | fail)
      first | apply Ya WN | apply Yb WN
      exact za
      exact rfl
      exact fun _ hw => (q1 (hxi.mono zk) hw)
      repeat' (first | apply (zs1 ?_) | (apply zg1; refine zs4 ?_) | (apply zg20; refine zs47 ?_) | apply (zs65 ?_) | (apply Yl; (repeat (first | with_reducible exact Yh | (with_reducible apply Yg; (repeat (first | with_reducible exact Yf | with_reducible apply Ye)))))) | fail)
      · show Perm H (H ++ [])
        rw [List.append_nil]; exact Perm.refl _
      repeat' (first | apply (zs1 ?_) | apply (zs2 ?_) | (apply zg1; refine zs4 ?_) | (apply zg2; first | refine zs6 ?_ | refine zs58 ?_) | (apply zg3; first | refine zs7 ?_ | refine zs59 ?_) | (apply zg5; refine zs57 ?_) | (apply zg6; first | refine zs11 ?_ | refine zs12 ?_) | (apply (zs19 ?_ ?_) <;> intro _ <;> try (exfalso; omega)) | (apply (zs20 ?_ ?_) <;> intro _ <;> try (exfalso; omega)) | (apply zg14; refine zs31 ?_) | apply (zs65 ?_) | (apply Yn; exact zp) | apply (zs68 ?_) | apply (zs69 ?_) | apply (zs70 ?_) | (apply zg27; refine zs71 ?_) | apply (zs74 ?_) | apply (zs77 ?_) | apply (zs78 ?_) | apply (zs93 ?_) | apply (zs94 ?_) | fail)
      apply Yi H
      · exact zk
      apply Yc; exact rfl; exact rfl; exact ⟨rfl, rfl⟩
open Go.RowKit Go.Eng Go.Nw
set_option maxRecDepth 10000 in
theorem JW (word : List UInt8) (l : List Int) (h : ∀ n ∈ l, 0 ≤ n ∧ n < 10000) (h5 : l.length ≤ 100) (hwd : word.length ≤ 100) {A : Option Addr} {cap B : Nat} {w0 : World} {H : List HP} {w : World} (ht : TabsB B w0) (hr : Rd B w0 H A (l.flatMap numF)) (hw : St B w0 H w) :
    Calls Tryz.prog 77 [strV word, .slice A l.length cap].toArray w (Post B w0 fun v K => v = strV (YM word l) ∧ K = H) := by
  refine Yd Tryz.func77 Tryz.ntmps77 rfl rfl hw ?_
  repeat' (first | apply (zs1 ?_) | apply (zs2 ?_) | (apply zg4; refine zs9 ?_) | apply (zs65 ?_) | apply (zs68 ?_) | apply (zs69 ?_) | apply (zs70 ?_) | apply (zs73 ?_) | fail)
  refine Yk (fun (i : Nat) => [(9, .int .i64 i), (8, .int .i64 l.length), (7, .slice A l.length cap), (0, strV (Yw word (l.take i)))]) (fun _ => H) (fun i => i ≤ l.length) (fun i => l.length - i) 0 (Nat.zero_le _) ?_ (fun w hw => hw) ?_
  · have e0 : Yw word (l.take 0) = word := by simp [Yw]
    rw [e0]
    exact zu
  intro i hi K hK
  have hbl := Vn (w := word) (l := l.take i) fun n hn => h n (List.mem_of_mem_take hn)
  have hlt0 : (l.take i).length ≤ 100 := by rw [List.length_take]; omega
  by_cases hlt : i < l.length
  · obtain ⟨n, hn⟩ : ∃ n, l[i]? = some n := ⟨_, List.getElem?_eq_getElem hlt⟩
    have hnb := h n (List.mem_of_getElem? hn)
    have hil := UQ hnb
    repeat' (first | ((first | apply Ya Yas | apply Yb Yas); exact za; exact rfl; exact fun _ hw => (Wm n (by omega) (by omega) ht hw)) | (apply Xn [32] (Lib.itoa n); exact rfl; exact rfl; exact rfl; (show 1 + _ ≤ _; omega)) | (apply Xn (Yw word (l.take i)) ([32] ++ Lib.itoa n); exact rfl; exact rfl; exact rfl; (rw [List.length_append]; show _ + (1 + _) ≤ _; omega)) | apply (zs1 ?_) | apply (zs2 ?_) | (apply zg3; refine zs60 ?_) | (apply zg5; refine zs57 ?_) | (apply (zs17 ?_ ?_) <;> intro _ <;> try (exfalso; omega)) | (apply zg13; refine zs30 ?_) | apply (zs65 ?_) | apply (zs68 ?_) | apply (zs69 ?_) | apply (zs70 ?_) | (apply zg27; refine zs71 ?_) | apply (zs73 ?_) | apply (zs76 ?_) | apply (zs79 ?_) | fail)
    apply hK (i + 1)
    · show i + 1 ≤ l.length
      omega
    · omega
    · rw [List.take_add_one, hn, Option.toList_some, U9]
      exact zu
    · exact fun w hw => hw
  · skip
    repeat' (first | (apply Xn (Yw word (l.take i)) [10]; exact rfl; exact rfl; exact rfl; (show _ + 1 ≤ _; omega)) | apply (zs1 ?_) | apply (zs2 ?_) | (apply (zs17 ?_ ?_) <;> intro _ <;> try (exfalso; omega)) | apply (zs65 ?_) | apply (zs68 ?_) | apply (zs69 ?_) | apply (zs70 ?_) | (apply zg27; refine zs72 ?_) | apply (zs74 ?_) | apply (zs75 ?_) | apply (zs80 ?_) | apply (zs81 ?_) | fail)
    apply Yc; exact rfl; exact rfl
    rw [show i = l.length by omega, List.take_length]
    exact ⟨rfl, rfl⟩
set_option maxRecDepth 10000 in
set_option maxHeartbeats 2000000 in
theorem Q5 (ws : List (List UInt8)) (hwl : ws.length ≤ 1000000) (hwm : ∀ p ∈ ws, p.length ≤ 100000) {A0 : Option Addr} {cap0 B : Nat} {w0 : World} {H : List HP} {w : World} (ht : TabsB B w0) (hrw : Rd B w0 H A0 (ws.flatMap strL)) (hw : St B w0 H w) :
    Calls Tryz.prog 143 [.slice A0 ws.length cap0].toArray w (Post B w0 (OutR H (XO ws))) := by
  refine Yd Tryz.func143 Tryz.ntmps143 rfl rfl hw ?_
  repeat' (first | apply (zs1 ?_) | apply (zs2 ?_) | (apply zg4; refine zs9 ?_) | apply (zs65 ?_) | apply (zs68 ?_) | apply (zs69 ?_) | apply (zs70 ?_) | apply (zs73 ?_) | fail)
  have hnone : ∀ {p : List UInt8}, p ∈ ws → numW p < 0 → XO ws = none := fun hp hn => YaR hp hn
  refine Yk (fun (z : Nat × Option Addr × Nat) => [(11, .int .i64 z.1), (10, .int .i64 ws.length), (9, .slice A0 ws.length cap0), (4, .slice z.2.1 ((ws.take z.1).map numW).length z.2.2)]) (fun z => nrs z.2.1 z.2.2 ((ws.take z.1).map numW) :: H) (fun z => z.1 ≤ ws.length ∧ ∀ p ∈ ws.take z.1, 0 ≤ numW p) (fun z => ws.length - z.1) (0, none, 0) ⟨Nat.zero_le _, by simp⟩ ?_ (fun w hw => hw.nilSlice _ _) ?_
  · exact zu
  rintro ⟨i, A, cap⟩ ⟨hi, hall⟩ K hK
  dsimp only at hi hall ⊢
  have hlen : ((ws.take i).map numW).length = i := by rw [List.length_map, List.length_take]; omega
  have hrw' := hrw.cons (X := nrs A cap ((ws.take i).map numW))
  by_cases hlt : i < ws.length
  · obtain ⟨p, hp⟩ : ∃ p, ws[i]? = some p := ⟨_, List.getElem?_eq_getElem hlt⟩
    have hpm := List.mem_of_getElem? hp
    have hpl := hwm p hpm
    have hs : (⟨p.toArray⟩ : ByteArray).size = p.length := by simp [ByteArray.size]
    by_cases hv : ∃ v, Lib.atoiAll p = .ok v
    · obtain ⟨v, hv⟩ := hv
      have hvb := Lib.atoiAll_bounds hv
      obtain ⟨q1, q2⟩ := Ygx hv
      repeat' (first | ((first | apply Ya Ygb | apply Yb Ygb); exact za; exact rfl; exact fun _ hw => (Yhf p (by omega) v hv hw)) | ((first | apply Ya Yas | apply Yb Yas); exact za; exact rfl; exact fun _ hw => (Wm v hvb.1 hvb.2 ht hw)) | (apply YgZ; exact rfl; exact rfl) | (apply Uw (Lib.itoa v) p; exact rfl; exact rfl; exact rfl; all_goals intro hwd2) | apply (zs1 ?_) | apply (zs2 ?_) | (apply zg1; first | refine zs3 ?_ | refine zs4 ?_) | (apply zg3; refine zs60 ?_) | (apply zg4; refine zs14 ?_) | (apply zg5; refine zs57 ?_) | (apply zg6; first | refine zs11 ?_ | refine zs12 ?_) | apply (zs13 ?_) | (apply (zs17 ?_ ?_) <;> intro _ <;> try (exfalso; omega)) | (apply (zs19 ?_ ?_) <;> intro _ <;> try (exfalso; omega)) | (apply zg13; refine zs30 ?_) | (apply zg21; (refine zs49 ?_; intro _ _)) | (apply zg26; (refine zs56 ?_; intro _)) | apply (zs65 ?_) | apply (zs68 ?_) | apply (zs69 ?_) | apply (zs70 ?_) | (apply zg27; first | refine zs71 ?_ | refine zs72 ?_) | apply (zs73 ?_) | apply (zs74 ?_) | apply (zs76 ?_) | apply (zs77 ?_) | apply (zs78 ?_) | apply (zs79 ?_) | fail)
      all_goals first
        | (apply Yi H
           · exact zk
           apply Yp; exact rfl; exact rfl; exact rfl
           rw [hnone hpm (q2 (by rintro ⟨c1, c2, c3⟩; first | omega | exact hwd2 c2))]
           exact ⟨rfl, rfl⟩)
        | (rename_i xA xcap
           have hq := q1 ⟨by omega, hwd2, by omega⟩
           have e5 : (ws.take i).map numW ++ [v] = (ws.take (i + 1)).map numW := by rw [List.take_add_one, hp, Option.toList_some, List.map_append, List.map_cons, List.map_nil, hq]
           rw [X5, e5]
           apply hK (i + 1, xA, xcap)
           · refine ⟨by show i + 1 ≤ _; omega, fun p' hp' => ?_⟩
             dsimp only at hp'
             rw [List.take_add_one, hp, Option.toList_some, List.mem_append, List.mem_singleton] at hp'
             rcases hp' with hp' | rfl
             · exact hall p' hp'
             · omega
           · dsimp only; omega
           · rw [show ((ws.take i).map numW).length + 1 = ((ws.take (i + 1)).map numW).length from (by rw [← e5]; simp)]
             exact zu
           · exact zk)
    · have hbad := Ygw (fun n hn => hv ⟨n, hn⟩)
      repeat' (first | apply (zs1 ?_) | apply (zs2 ?_) | (apply zg3; refine zs60 ?_) | (apply zg5; refine zs57 ?_) | (apply (zs17 ?_ ?_) <;> intro _ <;> try (exfalso; omega)) | apply (zs65 ?_) | apply (zs68 ?_) | apply (zs69 ?_) | apply (zs70 ?_) | (apply zg27; refine zs71 ?_) | apply (zs73 ?_) | apply (zs76 ?_) | fail)
      apply Yo _ Ygb
      exact za
      exact rfl
      exact fun _ hw => (Yf2 p (by omega) (fun n hn => hv ⟨n, hn⟩) ht (hw))
      rintro _ _ ⟨⟨n9, t9, p9, rfl⟩, rfl⟩
      repeat' (first | (apply Yg0; exact rfl; exact rfl) | apply (zs1 ?_) | apply (zs2 ?_) | (apply zg1; refine zs3 ?_) | (apply zg6; refine zs11 ?_) | apply (zs13 ?_) | apply (zs65 ?_) | apply (zs68 ?_) | apply (zs69 ?_) | apply (zs70 ?_) | (apply zg27; refine zs71 ?_) | apply (zs74 ?_) | apply (zs77 ?_) | apply (zs78 ?_) | fail)
      rw [hnone hpm hbad]
      apply Yi H
      · exact zk
      apply Yp; exact rfl; exact rfl; exact rfl; exact ⟨rfl, rfl⟩
  · have hie : i = ws.length := by omega
    rw [hie, List.take_length] at hall
    rw [YaS hall]
    repeat' (first | apply (zs1 ?_) | apply (zs2 ?_) | (apply (zs17 ?_ ?_) <;> intro _ <;> try (exfalso; omega)) | apply (zs65 ?_) | apply (zs68 ?_) | apply (zs69 ?_) | apply (zs70 ?_) | (apply zg27; refine zs72 ?_) | apply (zs74 ?_) | apply (zs75 ?_) | apply (zs80 ?_) | apply (zs81 ?_) | fail)
    rw [hie, List.take_length]
    apply Yp; exact rfl; exact rfl; exact rfl
    exact ⟨A, cap, by rw [List.length_map], rfl⟩
open Go.RowKit Go.Eng Go.Nw Go.Rt
def rt3 (x : Clm) (i : Nat) : List UInt8 := YM wordR (rtAt x.routes i) ++ YM wordB [x.bounds.getD i 0, x.worst.getD i 0] ++ YM wordL (rtAt x.slots i)
def clT (x : Clm) (k : Nat) : List UInt8 := YM wordF [x.flow] ++ (List.range k).flatMap (rt3 x)
def Xe (c : List Clm) (k : Nat) : List UInt8 := (c.take k).flatMap fun x => clT x x.routes.length
theorem Yfc {x : Clm} (h : Vc x) : ((Zh x).flatMap fun p => p ++ [10]) = clT x x.routes.length := by
  have e : ∀ ks : List Nat, (∀ i ∈ ks, i < x.routes.length) → (ks.flatMap (YcY x)).flatMap (fun p => p ++ [10]) = ks.flatMap (rt3 x) := by
    intro ks
    induction ks with
    | nil => intro _; rfl
    | cons i ks ih =>
      intro hk
      rw [List.flatMap_cons, List.flatMap_append, List.flatMap_cons, ih fun j hj => hk j (List.mem_cons_of_mem _ hj)]
      have hi := hk i List.mem_cons_self
      unfold YcY rt3 YM
      rw [if_pos (by rw [h.b]; exact hi), if_pos (by rw [h.s]; exact hi)]
      simp
  unfold Zh clT
  rw [List.flatMap_cons, e _ fun i hi => List.mem_range.1 hi]
  rfl
theorem Ya0 {c : List Clm} (h : ∀ x ∈ c, Vc x) : W7 c = Xe c c.length := by
  unfold W7 Xe
  rw [List.take_length]
  induction c with
  | nil => rfl
  | cons x c ih =>
    rw [List.flatMap_cons, List.flatMap_append, List.flatMap_cons, Yfc (h x (by simp)), ih fun y hy => h y (by simp [hy])]
theorem Wc {c : List Clm} {k : Nat} {x : Clm} (h : c[k]? = some x) : Xe c (k + 1) = Xe c k ++ clT x x.routes.length := by
  unfold Xe
  rw [List.take_add_one, h, Option.toList_some, List.flatMap_append]
  simp
theorem OZ (x : Clm) (k : Nat) : clT x (k + 1) = clT x k ++ rt3 x k := by
  unfold clT
  rw [List.range_succ, List.flatMap_append, List.append_assoc]
  simp
theorem Zo {l : List Int} {b : Int} (hb : b < 10000) (h : ∀ x ∈ l, 0 ≤ x ∧ x ≤ b) : ∀ n ∈ l, 0 ≤ n ∧ n < 10000 := fun n hn => by have := h n hn; omega
theorem Ww {a b : Int} (ha : 0 ≤ a ∧ a < 10000) (hb : 0 ≤ b ∧ b < 10000) : ∀ n ∈ [a, b], 0 ≤ n ∧ n < 10000 := fun n hn => by
  simp only [List.mem_cons, List.not_mem_nil, or_false] at hn
  rcases hn with rfl | rfl
  · exact ha
  · exact hb
theorem U8 {x : Clm} (h : Vc x) {i : Nat} (hi : i < x.routes.length) : (0 ≤ x.bounds.getD i 0 ∧ x.bounds.getD i 0 < 10000) ∧ (0 ≤ x.worst.getD i 0 ∧ x.worst.getD i 0 < 10000) := by
  have h1 := h.bs _ (V0 (l := x.bounds) (i := i) (by rw [h.b]; exact hi))
  have h2 := h.ws _ (V0 (l := x.worst) (i := i) (by rw [h.w]; exact hi))
  omega
theorem YbG {x : Clm} (h : Vc x) {i : Nat} (hi : i < x.routes.length) : (rt3 x i).length ≤ 500 := by
  have h1 := h.rs i hi
  have h2 := h.ls i hi
  have h3 := U8 h hi
  have k1 := X3 (w := wordR) (Zo (by decide) h1.2.2)
  have k2 := X3 (w := wordB) (Ww h3.1 h3.2)
  have k3 := X3 (w := wordL) (Zo (by decide) h2.2.2)
  have e1 : wordR.length = 5 := rfl
  have e2 : wordB.length = 5 := rfl
  have e3 : wordL.length = 5 := rfl
  simp only [List.length_cons, List.length_nil] at k2
  unfold rt3
  rw [List.length_append, List.length_append]
  omega
theorem UF {x : Clm} (h : Vc x) : ∀ k, k ≤ x.routes.length → (clT x k).length ≤ 20 + 500 * k
  | 0, _ => by
    have k1 := X3 (w := wordF) (l := [x.flow]) fun n hn => by have := h.f; rw [List.mem_singleton.1 hn]; omega
    have e1 : wordF.length = 4 := rfl
    simp only [List.length_cons, List.length_nil] at k1
    unfold clT
    simp only [List.range_zero, List.flatMap_nil, List.append_nil]
    omega
  | k + 1, hk => by
    have ih := UF h k (by omega)
    have h1 := YbG h (i := k) (by omega)
    rw [OZ, List.length_append]
    omega
theorem Wb {c : List Clm} (h : ∀ x ∈ c, Vc x) : ∀ k, k ≤ c.length → (Xe c k).length ≤ 1100 * k
  | 0, _ => by unfold Xe; simp
  | k + 1, hk => by
    have ih := Wb h k (by omega)
    obtain ⟨x, hx⟩ : ∃ x, c[k]? = some x := ⟨_, List.getElem?_eq_getElem (by omega)⟩
    have hf := h x (List.mem_of_getElem? hx)
    have h1 := UF hf x.routes.length (Nat.le_refl _)
    have := hf.n
    rw [Wc hx, List.length_append]
    omega
theorem ClM.In.here {c : ClM} {B : Nat} {w0 w : World} {H : List HP} (h : c.In B w0 H) (hw : St B w0 H w) : c.In w.heap.size w [] :=
  ⟨h.rt.here hw, fun r hr => (h.rw_ r hr).here hw, h.bd.here hw, h.ws.here hw, h.st.here hw, fun r hr => (h.sw r hr).here hw, h.ln, h.rl, h.sl⟩
theorem CIn.here {c : List ClM} {A : Option Addr} {B : Nat} {w0 w : World} {H : List HP} (h : CIn B w0 H A c) (hw : St B w0 H w) : CIn w.heap.size w [] A c := ⟨h.rd.here hw, fun x hx => (h.x x hx).here hw, h.ln⟩
structure PrM where
  i : Nat
  A : Option Addr
  cap : Nat
set_option maxRecDepth 10000 in
set_option maxHeartbeats 8000000 in
theorem YeF (c : List ClM) {A : Option Addr} {cap B : Nat} {w0 : World} {w : World} (ht : TabsB B w0) (hc : CIn B w0 [] A c) (hw : St B w0 [] w) :
    Calls Tryz.prog 25 [.slice A c.length cap].toArray w (Post B w0 fun v _ => v = .tuple #[strV (XE (c.map ClM.clm)).1, .int .i64 (XE (c.map ClM.clm)).2]) := by
  refine Yd Tryz.func25 Tryz.ntmps25 rfl rfl hw ?_
  have p1 := fun {H' : List HP} {w : World} (hc : CIn B w0 H' A c) (hw : St B w0 H' w) => OX c (cap := cap) hc hw
  have hcr := hc.rd
  cases hf : Zg (c.map ClM.clm) with
  | false =>
    rw [hf] at p1
    repeat' (first | ((first | apply Ya en75 | apply Yb en75); exact za; exact rfl; exact fun _ hw => (p1 (hc.mono zk) hw)) | apply (zs1 ?_) | apply (zs2 ?_) | (apply zg20; refine zs48 ?_) | apply (zs65 ?_) | apply (zs68 ?_) | apply (zs69 ?_) | apply (zs70 ?_) | (apply zg27; refine zs71 ?_) | apply (zs74 ?_) | apply (zs77 ?_) | fail)
    apply Yp; exact rfl; exact rfl; exact rfl
    rw [XE, if_pos hf]
  | true =>
    rw [hf] at p1
    obtain ⟨h16, hfd⟩ := Qf hf
    rw [List.length_map] at h16
    repeat' (first | ((first | apply Ya en75 | apply Yb en75); exact za; exact rfl; exact fun _ hw => (p1 (hc.mono zk) hw)) | apply (zs1 ?_) | apply (zs2 ?_) | (apply zg4; refine zs9 ?_) | (apply zg20; refine zs47 ?_) | (apply zg24; (refine zs54 ?_; intro _)) | apply (zs65 ?_) | apply (zs68 ?_) | apply (zs69 ?_) | apply (zs70 ?_) | (apply zg27; refine zs72 ?_) | apply (zs73 ?_) | apply (zs76 ?_) | fail)
    rename_i gb
    refine Yk (fun z : PrM => [(14, .int .i64 (z.i : Nat)), (13, .int .i64 c.length), (12, .slice A c.length cap), (4, .pointer (some ⟨gb, 0, none⟩))]) (fun z => bdP gb (if z.i = 0 then .pointer none else .pointer (some ⟨gb, 0, none⟩)) z.A z.cap (Xe (c.map ClM.clm) z.i) []) (fun z => z.i ≤ c.length) (fun z => c.length - z.i) ⟨0, none, 0⟩ (Nat.zero_le _) ?_ ?_ ?_
    · exact zu
    · intro w hw
      have h5 : St B w0 [blk gb (.cells (Value.agg #[.pointer none, .slice none 0 0]).cells 132 (0, 0))] w := hw
      exact (h5.nilSlice 5 1).perm (.swap _ _ _)
    rintro ⟨k, A1, cap1⟩ hk K hK
    dsimp only at hk ⊢
    have htl := Wb hfd k (by rw [List.length_map]; exact hk)
    by_cases hlt : k < c.length
    rotate_left
    · obtain rfl : k = c.length := by omega
      obtain ⟨p, hp⟩ : ∃ p, (if c.length = 0 then Value.pointer none else .pointer (some ⟨gb, 0, none⟩)) = p := ⟨_, rfl⟩
      have hp2 : p = .pointer none ∨ p = .pointer (some ⟨gb, 0, none⟩) := by rw [← hp]; split <;> simp
      rw [hp]
      clear hK
      repeat' (first | (apply (zs17 ?_ ?_) <;> intro _ <;> try (exfalso; omega)) | apply (zs65 ?_) | apply (zs68 ?_) | apply (zs69 ?_) | apply (zs70 ?_) | (apply zg27; refine zs72 ?_) | apply (zs75 ?_) | apply (zs80 ?_) | apply (zs81 ?_) | fail)
      apply Yo _ en78
      exact za
      exact rfl
      exact fun _ hw => (W6 (l := Xe (c.map ClM.clm) c.length) hp2 (hw))
      rintro _ _ ⟨rfl, rfl⟩
      repeat' (first | apply (zs2 ?_) | apply (zs65 ?_) | apply (zs68 ?_) | apply (zs74 ?_) | fail)
      apply Yp; exact rfl; exact rfl; exact rfl
      rw [XE, if_neg (by rw [hf]; decide), Ya0 hfd, List.length_map]
    obtain ⟨x, hx⟩ : ∃ x, c[k]? = some x := ⟨_, List.getElem?_eq_getElem hlt⟩
    have hxm := List.mem_of_getElem? hx
    have hxd := hfd x.clm (List.mem_map_of_mem hxm)
    have hxi := hc.x x hxm
    obtain ⟨p, hp⟩ : ∃ p, (if k = 0 then Value.pointer none else .pointer (some ⟨gb, 0, none⟩)) = p := ⟨_, rfl⟩
    have hp2 : p = .pointer none ∨ p = .pointer (some ⟨gb, 0, none⟩) := by rw [← hp]; split <;> simp
    rw [hp]
    unfold bdP
    repeat' (first | (apply zg2; refine zs6 ?_) | (apply zg3; first | refine zs7 ?_ | refine zs61 ?_) | (apply zg5; refine zs57 ?_) | (apply (zs17 ?_ ?_) <;> intro _ <;> try (exfalso; omega)) | (apply zg22; refine zs51 ?_) | (apply zg24; (refine zs54 ?_; intro _)) | (apply zg26; (refine zs56 ?_; intro _)) | apply (zs65 ?_) | apply (zs68 ?_) | apply (zs69 ?_) | apply (zs70 ?_) | (apply zg27; refine zs71 ?_) | apply (zs73 ?_) | apply (zs76 ?_) | fail)
    rename_i gx gl
    have hlen1 : x.clm.routes.length = x.rs.length := by show (x.rs.map (·.xs)).length = _; rw [List.length_map]
    have hxn := hxd.n
    rw [hlen1] at hxn
    have hbl : x.bs.length = x.rs.length := by have := hxd.b; rw [hlen1] at this; exact this
    have hwl : x.ws.length = x.rs.length := by have := hxd.w; rw [hlen1] at this; exact this
    have hsl : x.ss.length = x.rs.length := by have := hxd.s; rw [hlen1] at this; rw [← this]; show _ = (x.ss.map (·.xs)).length; rw [List.length_map]
    have hrl : ∀ X, Rd B w0 (blk gl (.cells #[.int .i64 x.flow] 3 (0, 0)) :: X) (some ⟨gl, 0, none⟩) ([x.flow].flatMap numF) := fun X => Rd.blk (cs := #[.int .i64 x.flow]) (.head _)
    have hfl : ∀ n ∈ [x.flow], 0 ≤ n ∧ n < 10000 := fun n hn => by
      have := hxd.f
      rw [List.mem_singleton.1 hn]
      exact ⟨this.1, by have := this.2; show x.clm.flow < _; omega⟩
    have hfl2 := X3 (w := wordF) hfl
    have e1 : wordF.length = 4 := rfl
    simp only [List.length_cons, List.length_nil] at hfl2
    first | apply Ya en77 | apply Yb en77
    exact za
    exact rfl
    exact fun _ hw => (JW wordF [x.flow] hfl (by show 1 ≤ 100; decide) (by decide) ht (hrl _) hw)
    apply Uv (bdP gb p A1 cap1 (Xe (c.map ClM.clm) k) [clA gx x])
    · unfold bdP
      exact zk
    apply Yo _ en76
    exact za
    exact rfl
    exact fun _ hw => (Vb gb p hp2 A1 cap1 (Xe (c.map ClM.clm) k) (YM wordF [x.flow]) (by omega) (hw))
    rintro _ _ ⟨rfl, A2, cap2, rfl⟩
    unfold bdP
    repeat' (first | apply (zs1 ?_) | (apply zg2; refine zs6 ?_) | (apply zg3; refine zs7 ?_) | (apply zg4; refine zs9 ?_) | apply (zs65 ?_) | apply (zs68 ?_) | apply (zs69 ?_) | apply (zs70 ?_) | apply (zs73 ?_) | fail)
    refine Yk (fun z : PrM => [(26, .int .i64 (z.i : Nat)), (25, .int .i64 x.rs.length), (24, .slice x.rA x.rs.length x.rcap), (6, .pointer (some ⟨gx, 0, none⟩)), (14, .int .i64 (k : Nat)), (13, .int .i64 c.length), (12, .slice A c.length cap), (4, .pointer (some ⟨gb, 0, none⟩))]) (fun z => bdP gb (.pointer (some ⟨gb, 0, none⟩)) z.A z.cap (Xe (c.map ClM.clm) k ++ clT x.clm z.i) [clA gx x]) (fun z => z.i ≤ x.rs.length) (fun z => x.rs.length - z.i) ⟨0, A2, cap2⟩ (Nat.zero_le _) ?_ ?_ ?_
    · exact zu
    · have e0 : clT x.clm 0 = YM wordF [x.flow] := by unfold clT; simp; rfl
      rw [e0]
      unfold bdP
      exact fun w hw => hw
    rintro ⟨j, A3, cap3⟩ hj K2 hK2
    dsimp only at hj ⊢
    have hcl2 := UF hxd j (by rw [hlen1]; exact hj)
    unfold bdP
    by_cases hjl : j < x.rs.length
    rotate_left
    · obtain rfl : j = x.rs.length := by omega
      clear hK2
      have hst : Xe (c.map ClM.clm) (k + 1) = Xe (c.map ClM.clm) k ++ clT x.clm x.rs.length := by
        rw [Wc (x := x.clm) (by rw [List.getElem?_map, hx]; rfl), hlen1]
      rw [← hst]
      repeat' (first | apply (zs1 ?_) | (apply (zs17 ?_ ?_) <;> intro _ <;> try (exfalso; omega)) | (apply zg13; refine zs30 ?_) | apply (zs65 ?_) | apply (zs68 ?_) | apply (zs69 ?_) | apply (zs70 ?_) | (apply zg27; refine zs72 ?_) | apply (zs75 ?_) | apply (zs79 ?_) | apply (zs80 ?_) | apply (zs81 ?_) | fail)
      apply hK ⟨k + 1, A3, cap3⟩
      · show k + 1 ≤ c.length
        omega
      · dsimp only; omega
      · exact zu
      · dsimp only
        rw [if_neg (Nat.succ_ne_zero k)]
        unfold bdP
        exact zk
    obtain ⟨r, hr⟩ : ∃ r, x.rs[j]? = some r := ⟨_, List.getElem?_eq_getElem hjl⟩
    obtain ⟨z, hz⟩ : ∃ z, x.ss[j]? = some z := ⟨_, List.getElem?_eq_getElem (by omega)⟩
    obtain ⟨bv, hbv⟩ : ∃ b, x.bs[j]? = some b := ⟨_, List.getElem?_eq_getElem (by omega)⟩
    obtain ⟨wv, hwv⟩ : ∃ b, x.ws[j]? = some b := ⟨_, List.getElem?_eq_getElem (by omega)⟩
    have hrm := List.mem_of_getElem? hr
    have hzm := List.mem_of_getElem? hz
    have hjc : j < x.clm.routes.length := by omega
    have g1 : rtAt x.clm.routes j = r.xs := XP hr
    have g2 : rtAt x.clm.slots j = z.xs := XP hz
    have g3 : x.clm.bounds.getD j 0 = bv := by show x.bs.getD j 0 = bv; rw [List.getD_eq_getElem?_getD, hbv]; rfl
    have g4 : x.clm.worst.getD j 0 = wv := by show x.ws.getD j 0 = wv; rw [List.getD_eq_getElem?_getD, hwv]; rfl
    have n1 := hxd.rs j hjc
    have n2 := hxd.ls j hjc
    have n3 := U8 hxd hjc
    have hr3 := YbG hxd hjc
    have hst := OZ x.clm j
    unfold rt3 at hr3 hst
    rw [g1, g2, g3, g4] at hr3 hst
    rw [g1] at n1
    rw [g2] at n2
    rw [g3, g4] at n3
    have m1 := Zo (b := 31) (by decide) n1.2.2
    have m2 := Zo (b := 511) (by decide) n2.2.2
    have m3 := Ww n3.1 n3.2
    have l1 := fun {H' : List HP} {w : World} (hr : Rd B w0 H' r.A (r.xs.flatMap numF)) (hw : St B w0 H' w) => JW wordR r.xs m1 (by omega) (by decide) (cap := r.cap) ht hr hw
    have l2 := fun {g : Nat} {cap : Nat} {H' : List HP} {w : World} (hm : blk g (.cells #[.int .i64 bv, .int .i64 wv] 3 (0, 0)) ∈ H') (hw : St B w0 H' w) => JW wordB [bv, wv] m3 (by show 2 ≤ 100; decide) (by decide) (A := some ⟨g, 0, none⟩) (cap := cap) ht (show Rd B w0 H' _ ([bv, wv].flatMap numF) from Rd.blk hm) hw
    have l3 := fun {H' : List HP} {w : World} (hr : Rd B w0 H' z.A (z.xs.flatMap numF)) (hw : St B w0 H' w) => JW wordL z.xs m2 (by omega) (by decide) (cap := z.cap) ht hr hw
    obtain ⟨s1, hs1⟩ : ∃ s, YM wordR r.xs = s := ⟨_, rfl⟩
    obtain ⟨s2, hs2⟩ : ∃ s, YM wordB [bv, wv] = s := ⟨_, rfl⟩
    obtain ⟨s3, hs3⟩ : ∃ s, YM wordL z.xs = s := ⟨_, rfl⟩
    rw [hs1] at l1 hr3 hst
    rw [hs2] at l2 hr3 hst
    rw [hs3] at l3 hr3 hst
    rw [List.length_append, List.length_append] at hr3
    have hrr := hxi.rt
    have hbr := hxi.bd
    have hwr := hxi.ws
    have hsr := hxi.st
    repeat' (first | apply (zs1 ?_) | apply (zs2 ?_) | (apply zg3; refine zs60 ?_) | (apply zg5; refine zs57 ?_) | (apply (zs17 ?_ ?_) <;> intro _ <;> try (exfalso; omega)) | apply (zs65 ?_) | apply (zs68 ?_) | apply (zs69 ?_) | apply (zs70 ?_) | (apply zg27; refine zs71 ?_) | apply (zs73 ?_) | apply (zs76 ?_) | fail)
    apply Ur (.n1 0 (.n1 2 (.n1 3 (.n1 4 (.n1 5 (.n1 6 (.n1 7 (.n1 8 (.n1 9 (.n1 10 (.n1 11 (.n1 15 (.n1 16 (.n1 17 (.n1 18 (.n1 19 (.n2 1 (.n1 12 (.n1 13 (.n1 14 (.n1 20 (.n1 21 .done))))) 12 (.n1 1 (.n1 13 (.n1 14 (.n1 20 (.n1 21 .done)))))))))))))))))))))) [22] [false, false, true]
    kernel_rfl
    kernel_rfl
    exact zy
    (simp only [Yj, nthO]; rfl)
    repeat' (first | apply (zs1 ?_) | (apply zg2; refine zs6 ?_) | (apply zg3; first | refine zs7 ?_ | refine zs60 ?_) | (apply zg5; refine zs57 ?_) | (apply zg26; (refine zs56 ?_; intro _)) | apply (zs65 ?_) | (apply Yn; exact zp) | apply (zs87 ?_) | (apply Yl; (repeat (first | with_reducible exact Yh | (with_reducible apply Yg; (repeat (first | with_reducible exact Yf | with_reducible apply Ye)))))) | apply (zs90 ?_) | apply (zs91 ?_ ?_) | (apply Xl; (repeat (first | with_reducible exact Yh | (with_reducible apply Yg; (repeat (first | with_reducible exact Yf | with_reducible apply Ye)))))) | fail)
    all_goals (
      first | apply Ya en77 | apply Yb en77
      exact za
      exact rfl
      exact fun _ hw => (l1 ((hxi.rw_ r hrm).mono zk) hw)
      repeat' (first | (apply zg26; (refine zs56 ?_; intro _)) | apply (zs65 ?_) | (apply Yn; exact zp) | apply (zs87 ?_) | (apply Yl; (repeat (first | with_reducible exact Yh | (with_reducible apply Yg; (repeat (first | with_reducible exact Yf | with_reducible apply Ye)))))) | apply (zs90 ?_) | (apply Xl; (repeat (first | with_reducible exact Yh | (with_reducible apply Yg; (repeat (first | with_reducible exact Yf | with_reducible apply Ye)))))) | fail)
      first | apply Ya en77 | apply Yb en77
      exact za
      exact rfl
      exact fun _ hw => (l2 zm hw)
      repeat' (first | (apply Xn s1 s2; exact rfl; exact rfl; exact rfl; omega) | apply (zs65 ?_) | (apply Yn; exact zp) | apply (zs87 ?_) | (apply Yl; (repeat (first | with_reducible exact Yh | (with_reducible apply Yg; (repeat (first | with_reducible exact Yf | with_reducible apply Ye)))))) | apply (zs90 ?_) | (apply Xl; (repeat (first | with_reducible exact Yh | (with_reducible apply Yg; (repeat (first | with_reducible exact Yf | with_reducible apply Ye)))))) | fail)
      first | apply Ya en77 | apply Yb en77
      exact za
      exact rfl
      exact fun _ hw => (l3 ((hxi.sw z hzm).mono zk) hw)
      repeat' (first | (apply Xn (s1 ++ s2) s3; exact rfl; exact rfl; exact rfl; (rw [List.length_append]; omega)) | apply (zs65 ?_) | (apply Yn; exact zp) | (apply Yl; (repeat (first | with_reducible exact Yh | (with_reducible apply Yg; (repeat (first | with_reducible exact Yf | with_reducible apply Ye)))))) | (apply Uz; exact zp) | apply (zs90 ?_) | (apply Xl; (repeat (first | with_reducible exact Yh | (with_reducible apply Yg; (repeat (first | with_reducible exact Yf | with_reducible apply Ye)))))) | apply (zs93 ?_) | fail)
      apply Uv (bdP gb (.pointer (some ⟨gb, 0, none⟩)) A3 cap3 (Xe (c.map ClM.clm) k ++ clT x.clm j) [clA gx x])
      · unfold bdP
        exact zk
      apply Yo _ en76
      exact za
      exact rfl
      exact fun _ hw => (Vb gb _ (.inr rfl) A3 cap3 (Xe (c.map ClM.clm) k ++ clT x.clm j) (s1 ++ s2 ++ s3) (by rw [List.length_append, List.length_append, List.length_append]; omega) (hw))
      rintro _ _ ⟨rfl, A4, cap4, rfl⟩
      repeat' (first | apply (zs1 ?_) | (apply zg13; refine zs30 ?_) | apply (zs65 ?_) | apply (zs68 ?_) | apply (zs70 ?_) | apply (zs79 ?_) | apply (zs94 ?_) | fail)
      apply hK2 ⟨j + 1, A4, cap4⟩
      · show j + 1 ≤ x.rs.length
        omega
      · dsimp only; omega
      · exact zu
      · dsimp only
        intro w hw
        rw [hst, show Xe (c.map ClM.clm) k ++ (clT x.clm j ++ (s1 ++ s2 ++ s3)) = Xe (c.map ClM.clm) k ++ clT x.clm j ++ (s1 ++ s2 ++ s3) from (List.append_assoc _ _ _).symm]
        exact hw)
theorem WI (c : List ClM) {A : Option Addr} {cap B : Nat} {w0 : World} {H : List HP} {w : World} (ht : TabsB B w0) (hc : CIn B w0 H A c) (hw : St B w0 H w) :
    Calls Tryz.prog 25 [.slice A c.length cap].toArray w (Post B w0 fun v K => v = .tuple #[strV (XE (c.map ClM.clm)).1, .int .i64 (XE (c.map ClM.clm)).2] ∧ K = H) :=
  WE hw (YeF c (ht.here hw) (hc.here hw) (St.start w))
end Go.Proofs.YtmalhidldgfeoaaGreatDoor
